/- The composition of two graphs. -/
import Derived.Test.YtdinmdjdkhlgcaaGraph
import Derived.Handy
import Derived.Deep.CutRange
import Derived.Deep.WholeRow
namespace Go.Proofs.Ytdinmdjdkhlgcaa
open Go.RowKit
set_option linter.unusedVariables false
set_option linter.unusedSimpArgs false

theorem info75 : (Try.prog.info? 75).map (·.size) = some 6 := by kernel_rfl
theorem info78 : (Try.prog.info? 78).map (·.size) = some 38 := by kernel_rfl
theorem size_alloc (w : World) (o : Obj) : (w.alloc o).heap.size = w.heap.size + 1 := by simp
theorem GrAt.cell0 {w : World} {b : Nat} {g : Gr} (h : GrAt w b g) (ok : g.Ok) {i : Nat} (hi : i < 6) : w.cell? ⟨b, 2 + i * 6, none⟩ = some (.int .u8 (g.at i 0)) := h.cell ok hi (k := 0) (by omega)
def rowC (g : Gr) (i : Nat) : List Value := (List.range 6).map fun k => Value.int .u8 (g.at i k)
theorem rowC_get (g : Gr) (i : Nat) {k : Nat} (hk : k < 6) : (rowC g i)[k]? = some (.int .u8 (g.at i k)) := by
  unfold rowC
  rw [List.getElem?_map, List.getElem?_range hk]
  rfl
theorem GrAt.row {w : World} {b : Nat} {g : Gr} (h : GrAt w b g) (ok : g.Ok) {i : Nat} (hi : i < 6) :
    (Instr.loadAt 75 (.pointer (some ⟨b, 2 + i * 6, none⟩))).run Try.prog w = .ok (.agg (rowC g i).toArray) w := by
  refine run_loadAt_mid w b (2 + i * 6) 75 (rowC g i) _ (fun j v hj => ?_) Try.underlying75 rfl (by rw [info75]; rfl)
  have hj6 : j < 6 := by
    have := (List.getElem?_eq_some_iff.1 hj).1
    simpa [rowC] using this
  rw [rowC_get g i hj6] at hj
  rw [← hj]
  exact h.cell ok hi hj6
/-- A graph by what stands at its places. -/
def mkG (s d : ByteArray) (f : Nat → Nat → Int) : Gr := ⟨s, d, (List.range 36).map fun p => f (p / 6) (p % 6)⟩
theorem mkG_at (s d : ByteArray) (f : Nat → Nat → Int) {i k : Nat} (hi : i < 6) (hk : k < 6) : (mkG s d f).at i k = f i k := by
  unfold Gr.at mkG
  rw [List.getD_eq_getElem?_getD, List.getElem?_map, List.getElem?_range (by omega)]
  simp only [Option.map_some, Option.getD_some]
  rw [show (i * 6 + k) / 6 = i by omega, show (i * 6 + k) % 6 = k by omega]
theorem mkG_congr {s d : ByteArray} {f f' : Nat → Nat → Int} (h : ∀ i k, i < 6 → k < 6 → f i k = f' i k) : mkG s d f = mkG s d f' := by
  unfold mkG
  congr 1
  apply List.map_congr_left
  intro p hp
  rw [List.mem_range] at hp
  exact h _ _ (by omega) (by omega)
theorem mkG_ok {s d : ByteArray} {f : Nat → Nat → Int} (h : ∀ i k, 0 ≤ f i k ∧ f i k ≤ 2) (hs : s.size ≤ maxLen) (hd : d.size ≤ maxLen) : (mkG s d f).Ok := ⟨by simp [mkG], fun v hv => by
  obtain ⟨p, _, rfl⟩ := List.mem_map.1 hv
  exact h _ _, hs, hd⟩
def updF (f : Nat → Nat → Int) (i k : Nat) (v : Int) : Nat → Nat → Int := fun i' k' => if i' = i ∧ k' = k then v else f i' k'
theorem mkG_set (s d : ByteArray) (f : Nat → Nat → Int) {i k : Nat} (hi : i < 6) (hk : k < 6) (v : Int) : (gC (mkG s d f)).toArray.setIfInBounds (2 + i * 6 + k) (.int .u8 v) = (gC (mkG s d (updF f i k v))).toArray := by
  rw [List.setIfInBounds_toArray]
  congr 1
  unfold gC
  rw [show 2 + i * 6 + k = (i * 6 + k) + 1 + 1 by omega, List.set_cons_succ, List.set_cons_succ]
  congr 2
  apply List.ext_getElem?
  intro p
  unfold mkG
  simp only [List.getElem?_set, List.length_map, List.length_range, List.getElem?_map]
  by_cases hp : p < 36
  · rw [List.getElem?_range hp]
    by_cases e : i * 6 + k = p
    · subst e
      rw [if_pos rfl, if_pos hp]
      simp [updF, show (i * 6 + k) / 6 = i by omega, show (i * 6 + k) % 6 = k by omega]
    · rw [if_neg e]
      simp only [Option.map_some, updF]
      rw [if_neg]
      rintro ⟨h1, h2⟩
      omega
  · rw [if_neg (by omega)]
    rw [List.getElem?_eq_none (by simp; omega)]
    rfl
theorem GrAt.set {w : World} {b : Nat} {s d : ByteArray} {f : Nat → Nat → Int} (h : GrAt w b (mkG s d f)) {i k : Nat} (hi : i < 6) (hk : k < 6) (v : Int) : GrAt (w.setCell ⟨b, 2 + i * 6 + k, none⟩ (.int .u8 v)) b (mkG s d (updF f i k v)) := by
  have h0 := heap_setCell_same w b (2 + i * 6 + k) _ 78 (.int .u8 v) h
  rwa [mkG_set s d f hi hk] at h0
/-- What stands at (i, k) of a composition when the first n middles are through. -/
def tn (g h : Gr) (i k : Nat) : Nat → Int
  | 0 => 0
  | n + 1 => if 0 < g.at i n ∧ 0 < h.at n k then max (tn g h i k n) (max (g.at i n) (h.at n k)) else tn g h i k n
def Gr.then (g h : Gr) : Gr := mkG g.src h.dst fun i k => tn g h i k 6
def upF (g h : Gr) (i j k : Nat) : Nat → Nat → Int := fun i' k' => if i' < i then tn g h i' k' 6 else if i' = i then (if k' < k then tn g h i' k' (j + 1) else tn g h i' k' j) else 0
theorem upF_k (g h : Gr) (i j : Nat) {i' k' : Nat} (hk : k' < 6) : upF g h i j 6 i' k' = upF g h i (j + 1) 0 i' k' := by
  unfold upF
  by_cases h1 : i' < i
  · rw [if_pos h1, if_pos h1]
  · rw [if_neg h1, if_neg h1]
    by_cases h2 : i' = i
    · rw [if_pos h2, if_pos h2, if_pos hk, if_neg (by omega)]
    · rw [if_neg h2, if_neg h2]
theorem upF_j (g h : Gr) (i : Nat) {i' k' : Nat} : upF g h i 6 0 i' k' = upF g h (i + 1) 0 0 i' k' := by
  unfold upF
  by_cases h1 : i' < i
  · rw [if_pos h1, if_pos (by omega)]
  · rw [if_neg h1]
    by_cases h2 : i' = i
    · rw [if_pos h2, if_neg (by omega), if_pos (by omega)]
    · rw [if_neg h2, if_neg (by omega)]
      split
      · rfl
      · rfl
theorem tn_bound {g h : Gr} (og : g.Ok) (oh : h.Ok) (i k : Nat) : ∀ n, 0 ≤ tn g h i k n ∧ tn g h i k n ≤ 2
  | 0 => by simp [tn]
  | n + 1 => by
    have := tn_bound og oh i k n
    have := og.bound i n
    have := oh.bound n k
    unfold tn
    split <;> omega
theorem then_ok {g h : Gr} (og : g.Ok) (oh : h.Ok) : (g.then h).Ok := mkG_ok (fun i k => tn_bound og oh i k 6) og.hs oh.hd
theorem upF_next (g h : Gr) (i j k : Nat) (v : Int) (hv : v = tn g h i k (j + 1)) (i' k' : Nat) : updF (upF g h i j k) i k v i' k' = upF g h i j (k + 1) i' k' := by
  unfold updF
  by_cases e : i' = i ∧ k' = k
  · obtain ⟨rfl, rfl⟩ := e
    rw [if_pos ⟨rfl, rfl⟩]
    unfold upF
    rw [if_neg (by omega), if_pos rfl, if_pos (by omega)]
    exact hv
  · rw [if_neg e]
    unfold upF
    by_cases h1 : i' < i
    · rw [if_pos h1, if_pos h1]
    · rw [if_neg h1, if_neg h1]
      by_cases h2 : i' = i
      · rw [if_pos h2, if_pos h2]
        have : k' ≠ k := fun h => e ⟨h2, h⟩
        by_cases h3 : k' < k
        · rw [if_pos h3, if_pos (by omega)]
        · rw [if_neg h3, if_neg (by omega)]
      · rw [if_neg h2, if_neg h2]
theorem upF_skip (g h : Gr) (i j k : Nat) (hv : tn g h i k j = tn g h i k (j + 1)) (i' k' : Nat) : upF g h i j k i' k' = upF g h i j (k + 1) i' k' := by
  rw [← upF_next g h i j k (tn g h i k j) hv]
  unfold updF
  split
  · rename_i e
    obtain ⟨rfl, rfl⟩ := e
    unfold upF
    rw [if_neg (by omega), if_pos rfl, if_neg (by omega)]
  · rfl
theorem upF_here (g q : Gr) (i j k : Nat) : upF g q i j k i k = tn g q i k j := by
  unfold upF
  rw [if_neg (by omega), if_pos rfl, if_neg (by omega)]
theorem upF_bound {g q : Gr} (og : g.Ok) (oq : q.Ok) (i j k i' k' : Nat) : 0 ≤ upF g q i j k i' k' ∧ upF g q i j k i' k' ≤ 2 := by
  unfold upF
  split
  · exact tn_bound og oq _ _ _
  · split
    · split
      · exact tn_bound og oq _ _ _
      · exact tn_bound og oq _ _ _
    · omega
theorem gC0 (g : Gr) : (gC g)[0]? = some (.string g.src) := rfl
theorem gC1 (g : Gr) : (gC g)[1]? = some (.string g.dst) := rfl

abbrev g0 : Gr := mkG ⟨#[]⟩ ⟨#[]⟩ fun _ _ => 0
theorem zero78 (w : World) : (zeroValue 78).run Try.prog w = .ok (gV g0) w := by kernel_rfl
theorem build78 (a b : ByteArray) (w : World) : (Instr.build 78 #[(0, .string a), (1, .string b)]).run Try.prog w = .ok (gV (mkG a b fun _ _ => 0)) w := by kernel_rfl
theorem gC_one (g : Gr) : (gC g).toArray.all (·.oneCell') = true := by
  refine all_oneCell_toArray fun v hv => ?_
  unfold gC at hv
  rcases List.mem_cons.1 hv with rfl | hv
  · rfl
  · rcases List.mem_cons.1 hv with rfl | hv
    · rfl
    · obtain ⟨x, _, rfl⟩ := List.mem_map.1 hv
      rfl
theorem gC_set (a b : ByteArray) : ((gC g0).set 0 (.string a)).set 1 (.string b) = gC (mkG a b fun _ _ => 0) := rfl
theorem gC_size (a b : ByteArray) (f : Nat → Nat → Int) : (gC (mkG a b f)).toArray.size = 38 := by simp [gC, mkG]
/-- A new graph of two names and no arc, over a fresh one. -/
theorem store_new (W : World) (a b : ByteArray) (z : Array Value) (hz : z = (gC g0).toArray) : (storeCells ⟨W.heap.size, 0, none⟩ ((z.toList.set 0 (.string a)).set 1 (.string b)) 0).run Try.prog (W.alloc (.cells z 78)) = .ok () (W.alloc (gB (mkG a b fun _ _ => 0))) := by
  subst hz
  exact run_storeCells_new (P := Try.prog) W 78 (gC g0).toArray (gC (mkG a b fun _ _ => 0)).toArray (by rw [info78, gC_size]) (by rw [gC_size, gC_size]) (gC_one _)
theorem upF_start (g q : Gr) (i k : Nat) : upF g q 0 0 0 i k = 0 := by
  unfold upF
  rw [if_neg (by omega)]
  split
  · rw [if_neg (by omega)]
    rfl
  · rfl
theorem upF_all (g q : Gr) {i k : Nat} (hi : i < 6) : upF g q 6 0 0 i k = tn g q i k 6 := by
  unfold upF
  rw [if_pos hi]
theorem run_max3 (a b c : Int) (ats : Array TypeId) (ty : TypeId) (w : World) : (Builtin.max_ ats ty #[.int .u8 a, .int .u8 b, .int .u8 c]).run Try.prog w = .ok (.int .u8 (max a (max b c))) w := by
  have h2 : ∀ x y : Int, Builtin.max2 (.int .u8 x) (.int .u8 y) = pure (.int .u8 (max x y)) := fun x y => by
    simp only [Builtin.max2, gt_iff_lt]
    congr 2
    split <;> omega
  have : Builtin.max_ ats ty #[.int .u8 a, .int .u8 b, .int .u8 c] = (Builtin.max2 (.int .u8 a) (.int .u8 b) >>= fun s => Builtin.max2 s (.int .u8 c) >>= fun s => pure s) := by simp only [Builtin.max_, List.foldlM_cons, List.foldlM_nil]
  rw [this]
  simp only [Sem.run_bind, h2, Sem.run_pure, Result.andThen_ok]
  congr 2
  omega
/-- A place of a row that was loaded. -/
theorem run_idx {rg : Array Value} {j : Nat} {v : Int} (hj : j < 6) (h : rg[j]? = some (.int .u8 v)) (w : World) : (Instr.index 75 (.agg rg) (.int .i64 j)).run Try.prog w = .ok (.int .u8 v) w := by
  have h5 : (sizeOf 5).run Try.prog w = .ok 1 w := by kernel_rfl
  have hp : (part 5 rg (j * 1)).run Try.prog w = .ok (.int .u8 v) w := by
    have ha : (isAgg 5).run Try.prog w = .ok false w := by kernel_rfl
    simp [part, Sem.run_bind, ha, h5, h]
  simp only [Instr.index, asIntOf, Sem.run_bind, Sem.run_pure, Result.andThen_ok, run_underlying Try.underlying75, h5]
  rw [if_pos (by omega), Int.toNat_natCast, Sem.run_bind, h5, Result.andThen_ok]
  exact hp
/-- What stands while the composition is made: the two graphs, and what is made. -/
structure Making (w wr : World) (g q : Gr) (i j k : Nat) : Prop where
  mb : Below w.heap.size w wr
  mg : GrAt wr w.heap.size g
  mq : GrAt wr (w.heap.size + 1) q
  mo : GrAt wr (w.heap.size + 1 + 1 + 1) (mkG g.src q.dst (upF g q i j k))
  mr : ∃ z, wr.heap[w.heap.size + 1 + 1]? = some (.cells z 78 (0, 0)) ∧ z.size = 38
theorem Making.next_j {w wr : World} {g q : Gr} {i j : Nat} (h : Making w wr g q i j 6) : Making w wr g q i (j + 1) 0 := ⟨h.mb, h.mg, h.mq, by
  have := h.mo
  rwa [mkG_congr fun i' k' _ hk => upF_k g q i j hk] at this, h.mr⟩
theorem Making.next_i {w wr : World} {g q : Gr} {i : Nat} (h : Making w wr g q i 6 0) : Making w wr g q (i + 1) 0 0 := ⟨h.mb, h.mg, h.mq, by
  have := h.mo
  rwa [mkG_congr fun i' k' _ _ => upF_j g q i] at this, h.mr⟩
theorem Making.put {w wr : World} {g q : Gr} {i j k : Nat} (h : Making w wr g q i j k) (hi : i < 6) (hk : k < 6) : Making w (wr.drew.setCell ⟨w.heap.size + 1 + 1 + 1, 2 + i * 6 + k, none⟩ (.int .u8 (tn g q i k (j + 1)))) g q i j (k + 1) := by
  have ho : ∀ b, b ≠ w.heap.size + 1 + 1 + 1 → (wr.drew.setCell ⟨w.heap.size + 1 + 1 + 1, 2 + i * 6 + k, none⟩ (.int .u8 (tn g q i k (j + 1)))).heap[b]? = wr.heap[b]? := fun b hb => Below.heap_setCell _ _ _ _ hb
  refine ⟨(h.mb.drew).setCell (by show w.heap.size ≤ w.heap.size + 1 + 1 + 1; omega) _, (ho _ (by omega)).trans h.mg, (ho _ (by omega)).trans h.mq, ?_, ?_⟩
  · have h1 : GrAt wr.drew (w.heap.size + 1 + 1 + 1) (mkG g.src q.dst (upF g q i j k)) := h.mo
    have h2 := h1.set hi hk (tn g q i k (j + 1))
    rwa [mkG_congr fun i' k' _ _ => upF_next g q i j k _ rfl i' k'] at h2
  · obtain ⟨z, h1, h2⟩ := h.mr
    exact ⟨z, (ho _ (by omega)).trans h1, h2⟩
theorem Making.skip {w wr : World} {g q : Gr} {i j k : Nat} (h : Making w wr g q i j k) (hv : tn g q i k j = tn g q i k (j + 1)) : Making w wr g q i j (k + 1) := ⟨h.mb, h.mg, h.mq, by
  have := h.mo
  rwa [mkG_congr fun i' k' _ _ => upF_skip g q i j k hv i' k'] at this, h.mr⟩
theorem GrAt.range {w : World} {b : Nat} {g : Gr} (h : GrAt w b g) : w.rangeAt b 0 (gC g) := fun j v hj => by
  rw [Nat.zero_add, cell_of_row w b j _ _ _ h, List.getElem?_toArray]
  exact hj
theorem setRow_other (w : World) (g : Nat) (cs : Array Value) (k : Nat) (h : k ≠ g) : (w.setRow g cs).heap[k]? = w.heap[k]? := by
  unfold World.setRow
  rw [Array.getElem?_modify, if_neg (fun e => h e.symm)]
theorem below_setRow {B : Nat} {a w : World} (h : Below B a w) {g : Nat} (hg : B ≤ g) (cs : Array Value) : Below B a (w.setRow g cs) :=
  h.trans ⟨rfl, rfl, rfl, by simp [World.setRow], fun k hk => setRow_other w g cs k (by omega)⟩
theorem Making.done {w wr : World} {g q : Gr} (h : Making w wr g q 6 0 0) : GrAt wr (w.heap.size + 1 + 1 + 1) (g.then q) ∧ (∃ z, wr.heap[w.heap.size + 1 + 1]? = some (.cells z 78 (0, 0)) ∧ z.size = 38) ∧ ∀ cs, Below w.heap.size w (wr.setRow (w.heap.size + 1 + 1) cs) := ⟨by
  have h1 := h.mo
  rwa [mkG_congr fun i' k' hi _ => upF_all g q hi] at h1, h.mr, fun cs => below_setRow h.mb (by omega) cs⟩
theorem gate {P : Program} {ops : Array Oper} {rest : List Oper} {o : Oper} {a : Act} {Q : Exit → Act → World → Prop} {W : World} {N : Tmp} (_hN : o.dst = some N) (h : wpList P ops Q (o :: rest) a W) : wpList P ops Q (o :: rest) a W := h
set_option maxHeartbeats 4000000 in
set_option maxRecDepth 100000 in
theorem then_calls (g q : Gr) (okg : g.Ok) (okq : q.Ok) (w : World) : Calls Try.prog 40 #[gV g, gV q] w fun e w' => e = .returned (gV (g.then q)) ∧ Below w.heap.size w w' := by
  have hu78 := Try.underlying78
  have hu76 := Try.underlying76
  have hu75 := Try.underlying75
  have e0 := gC0 g
  have e1 := gC1 q
  have OG := Lib.hid okg
  have OQ := Lib.hid okq
  obtain ⟨z, hzz⟩ : ∃ z, z = (gC g0).toArray := ⟨_, rfl⟩
  have hst := store_new (((w.alloc (gB g)).alloc (gB q)).alloc (.cells z 78)) g.src q.dst z hzz
  have M0 : Hid (Making w ((((w.alloc (gB g)).alloc (gB q)).alloc (.cells z 78)).alloc (gB (mkG g.src q.dst fun _ _ => 0))) g q 0 0 0) := Lib.hid (by
    have h1 := GrAt.new w g
    have h2 := GrAt.new (w.alloc (gB g)) q
    have h3 := heap_alloc_new ((w.alloc (gB g)).alloc (gB q)) (.cells z 78)
    have h4 := GrAt.new (((w.alloc (gB g)).alloc (gB q)).alloc (.cells z 78)) (mkG g.src q.dst fun _ _ => 0)
    have hb : ∀ (v : World) (o : Obj), Below v.heap.size v (v.alloc o) := fun v o => (Below.refl _ _).alloc (Nat.le_refl _) o
    simp only [size_alloc] at h2 h3 h4
    refine ⟨?_, ((h1.below (hb _ _)).below (hb _ _)).below (hb _ _), (h2.below (hb _ _)).below (hb _ _), ?_, z, ?_, by rw [hzz]; rfl⟩
    · exact (((Below.refl _ _).alloc (Nat.le_refl _) _).alloc (by simp) _).alloc (by simp; omega) _ |>.alloc (by simp; omega) _
    · rw [mkG_congr fun i k _ _ => upF_start g q i k]
      exact h4
    · have := (hb (((w.alloc (gB g)).alloc (gB q)).alloc (.cells z 78)) (gB (mkG g.src q.dst fun _ _ => 0))).block (w.heap.size + 1 + 1) (by simp)
      exact this.trans h3)
  simp only [size_alloc] at hst
  have hz : ∀ w, (zeroValue 78).run Try.prog w = .ok (.agg z) w := fun w => by rw [hzz]; exact zero78 w
  have hsz : z.size = 38 := by rw [hzz]; rfl
  have hz0 : z ≠ #[] := fun e => by rw [e] at hsz; simp at hsz
  have hz1 : 0 < z.size := by omega
  have hz2 : 1 < z.size := by omega
  have hz3 : 1 ≤ z.size := by omega
  have hz4 : 2 ≤ z.size := by omega
  obtain ⟨b, hbb⟩ : ∃ z, z = (gC (mkG g.src q.dst fun _ _ => 0)).toArray := ⟨_, rfl⟩
  simp only [gB, ← hbb] at hst M0
  clear okg okq hzz hbb
  go_enter Try.func40, Try.ntmps40
  go_upto_region 2 with fail
  obtain ⟨W, hW⟩ : ∃ W, W = ((((w.alloc (.cells (gC g).toArray 78)).alloc (.cells (gC q).toArray 78)).alloc (.cells z 78)).alloc (.cells b 78)) := ⟨_, rfl⟩
  rw [← hW] at M0 ⊢
  clear hW hst e0 e1
  go_wp2
  go_loopg [16] 6 (fun n v16 wr => ∃ i : Nat, v16 = .int .i64 i ∧ Hid (i ≤ 6) ∧ Hid (n = 6 - i) ∧ Hid (Making w wr g q i 0 0))
  case atStart => exact ⟨0, rfl, Lib.hid (by omega), Lib.hid rfl, M0⟩
  case round =>
    clear M0
    obtain ⟨i, rfl, HI, HN, M⟩ := hrel
    by_cases h6 : i < 6
    · have hb : decide ((i : Int) < 6) = true := decide_eq_true (by omega)
      have r0 := M.out.mg.cell0 OG.out h6
      have r1 := M.out.mg.cell OG.out h6 (k := 1) (by omega)
      have r2 := M.out.mg.cell OG.out h6 (k := 2) (by omega)
      have r3 := M.out.mg.cell OG.out h6 (k := 3) (by omega)
      have r4 := M.out.mg.cell OG.out h6 (k := 4) (by omega)
      have r5 := M.out.mg.cell OG.out h6 (k := 5) (by omega)
      go_wp2
      clear r0 r1 r2 r3 r4 r5
      obtain ⟨rg, hrg⟩ : ∃ r : Array Value, r = #[.int .u8 (g.at i 0), .int .u8 (g.at i 1), .int .u8 (g.at i 2), .int .u8 (g.at i 3), .int .u8 (g.at i 4), .int .u8 (g.at i 5)] := ⟨_, rfl⟩
      rw [← hrg]
      have RG : Hid (∀ j, j < 6 → rg[j]? = some (.int .u8 (g.at i j))) := Lib.hid (fun j hj => by
        rw [hrg]
        match j, hj with
        | 0, _ => rfl
        | 1, _ => rfl
        | 2, _ => rfl
        | 3, _ => rfl
        | 4, _ => rfl
        | 5, _ => rfl)
      have RS : rg.size = 6 := by rw [hrg]; rfl
      clear hrg
      obtain ⟨wo, rfl⟩ : ∃ wo : World, wo = wr := ⟨_, rfl⟩
      obtain ⟨go, rfl⟩ : ∃ go : Nat, go = gk := ⟨_, rfl⟩
      go_loopg [23] 6 (fun n v23 wr => ∃ j : Nat, v23 = .int .i64 j ∧ Hid (j ≤ 6) ∧ Hid (n = 6 - j) ∧ Hid (Making w wr g q i j 0))
      case atStart => exact ⟨0, rfl, Lib.hid (by omega), Lib.hid rfl, M⟩
      case round =>
        clear M
        obtain ⟨j, rfl, HJ, HM, M⟩ := hrel
        by_cases j6 : j < 6
        · have hbj : decide ((j : Int) < 6) = true := decide_eq_true (by omega)
          have hidx := run_idx j6 (RG.out j j6)
          have r0 := M.out.mq.cell0 OQ.out j6
          have r1 := M.out.mq.cell OQ.out j6 (k := 1) (by omega)
          have r2 := M.out.mq.cell OQ.out j6 (k := 2) (by omega)
          have r3 := M.out.mq.cell OQ.out j6 (k := 3) (by omega)
          have r4 := M.out.mq.cell OQ.out j6 (k := 4) (by omega)
          have r5 := M.out.mq.cell OQ.out j6 (k := 5) (by omega)
          go_wp2
          clear r0 r1 r2 r3 r4 r5 hidx
          obtain ⟨rq, hrq⟩ : ∃ r : Array Value, r = #[.int .u8 (q.at j 0), .int .u8 (q.at j 1), .int .u8 (q.at j 2), .int .u8 (q.at j 3), .int .u8 (q.at j 4), .int .u8 (q.at j 5)] := ⟨_, rfl⟩
          rw [← hrq]
          have RQ : Hid (∀ k, k < 6 → rq[k]? = some (.int .u8 (q.at j k))) := Lib.hid (fun k hk => by
            rw [hrq]
            match k, hk with
            | 0, _ => rfl
            | 1, _ => rfl
            | 2, _ => rfl
            | 3, _ => rfl
            | 4, _ => rfl
            | 5, _ => rfl)
          clear hrq
          obtain ⟨wm, rfl⟩ : ∃ wo : World, wo = wr := ⟨_, rfl⟩
          obtain ⟨gm, rfl⟩ : ∃ go : Nat, go = gk := ⟨_, rfl⟩
          go_loopg [31] 6 (fun n v31 wr => ∃ k : Nat, v31 = .int .i64 k ∧ Hid (k ≤ 6) ∧ Hid (n = 6 - k) ∧ Hid (Making w wr g q i j k))
          case atStart => exact ⟨0, rfl, Lib.hid (by omega), Lib.hid rfl, M⟩
          case round =>
            clear M
            obtain ⟨k, rfl, HK, HL, M⟩ := hrel
            by_cases k6 : k < 6
            · have hbk : decide ((k : Int) < 6) = true := decide_eq_true (by omega)
              have hidx := run_idx k6 (RQ.out k k6)
              have OO : Hid (mkG g.src q.dst (upF g q i j k)).Ok := Lib.hid (mkG_ok (upF_bound OG.out OQ.out i j k) OG.out.hs OQ.out.hd)
              have bg := OG.out.bound i j
              have bq := OQ.out.bound j k
              by_cases hpos : 0 < g.at i j ∧ 0 < q.at j k
              · have hp1 : decide (0 < g.at i j) = true := decide_eq_true hpos.1
                have hp2 : decide (0 < q.at j k) = true := decide_eq_true hpos.2
                have co := M.out.mo.cell OO.out (i := i) (k := k) h6 k6
                rw [mkG_at _ _ _ h6 k6, upF_here g q i j k] at co
                have fo : wr.frozen? ⟨w.heap.size + 1 + 1 + 1, 2 + i * 6 + k, none⟩ = false := frozen_of_row _ _ _ _ _ M.out.mo
                have bo := tn_bound OG.out OQ.out i k j
                have ht : tn g q i k (j + 1) = max (tn g q i k j) (max (g.at i j) (q.at j k)) := by
                  rw [tn, if_pos hpos]
                have hmax : ∀ ats ty w, (Builtin.max_ ats ty #[.int .u8 (tn g q i k j), .int .u8 (g.at i j), .int .u8 (q.at j k)]).run Try.prog w = .ok (.int .u8 (tn g q i k (j + 1))) w := fun ats ty w => by rw [ht]; exact run_max3 _ _ _ _ _ _
                have MM : Hid (Making w (wr.drew.setCell ⟨w.heap.size + 1 + 1 + 1, 2 + i * 6 + k, none⟩ (.int .u8 (tn g q i k (j + 1)))) g q i j (k + 1)) := Lib.hid (M.out.put h6 k6)
                clear ht M
                go_wp2
                go_region
                go_wp2
                go_roundg (6 - (k + 1))
                case measure => have := HL.out; omega
                case rel => exact ⟨k + 1, by go_num, Lib.hid (by omega), Lib.hid rfl, MM⟩
              · have ht : tn g q i k j = tn g q i k (j + 1) := by
                  rw [tn, if_neg hpos]
                have MM := Lib.hid (M.out.skip ht)
                clear M ht
                by_cases h1 : 0 < g.at i j
                · have hp1 : decide (0 < g.at i j) = true := decide_eq_true h1
                  have hp2 : decide (0 < q.at j k) = false := decide_eq_false fun h => hpos ⟨h1, h⟩
                  clear hpos h1
                  go_wp2
                  go_roundg (6 - (k + 1))
                  case measure => have := HL.out; omega
                  case rel => exact ⟨k + 1, by go_num, Lib.hid (by omega), Lib.hid rfl, MM⟩
                · have hp1 : decide (0 < g.at i j) = false := decide_eq_false h1
                  clear hpos h1
                  go_wp2
                  go_roundg (6 - (k + 1))
                  case measure => have := HL.out; omega
                  case rel => exact ⟨k + 1, by go_num, Lib.hid (by omega), Lib.hid rfl, MM⟩
            · have hbk : decide ((k : Int) < 6) = false := decide_eq_false (by omega)
              have MM : Hid (Making w wr g q i (j + 1) 0) := Lib.hid (by
                have : k = 6 := by have := HK.out; omega
                subst this
                exact M.out.next_j)
              clear M
              go_wp2
              go_roundg (6 - (j + 1))
              case measure => have := HM.out; omega
              case rel => exact ⟨j + 1, by go_num, Lib.hid (by omega), Lib.hid rfl, MM⟩
        · have hbj : decide ((j : Int) < 6) = false := decide_eq_false (by omega)
          have MM : Hid (Making w wr g q (i + 1) 0 0) := Lib.hid (by
            have : j = 6 := by have := HJ.out; omega
            subst this
            exact M.out.next_i)
          clear M
          go_wp2
          go_roundg (6 - (i + 1))
          case measure => have := HN.out; omega
          case rel => exact ⟨i + 1, by go_num, Lib.hid (by omega), Lib.hid rfl, MM⟩
    · have hb : decide ((i : Int) < 6) = false := decide_eq_false (by omega)
      obtain rfl : i = 6 := by have := HI.out; omega
      have D := M.out.done
      obtain ⟨cs, hcs⟩ : ∃ cs, cs = gC (g.then q) := ⟨_, rfl⟩
      have hlen : cs.length = 38 := by rw [hcs]; exact gC_len (then_ok OG.out OQ.out)
      have hra : wr.rangeAt (w.heap.size + 1 + 1 + 1) 0 cs := by rw [hcs]; exact D.1.range
      have hin : (Try.prog.info? 78).map (·.size) = some cs.length := by rw [hlen]; exact info78
      obtain ⟨zz, hz1, hz2⟩ := D.2.1
      have hst := run_storeCells_from (P := Try.prog) (w.heap.size + 1 + 1) 78 cs 0 zz wr hz1 (by rw [hlen, hz2]) (by
        rw [hcs]
        intro v hv
        have h := gC_one (g.then q)
        rw [List.all_toArray, List.all_eq_true] at h
        exact h v hv)
      simp only [List.take_zero, List.nil_append] at hst
      have R := Lib.hid (setRow_heap wr (w.heap.size + 1 + 1) zz cs.toArray 78 (0, 0) hz1)
      have B := Lib.hid (D.2.2 cs.toArray)
      have CS := Lib.hid hcs
      have hsz2 : cs.toArray.size = 38 := by simpa using hlen
      clear hcs D hz1 hz2 M
      generalize wr.setRow (w.heap.size + 1 + 1) cs.toArray = w2 at *
      go_wp2_with ((with_reducible refine gate (N := 58) rfl ?_); refine wpList_load_mid rfl 78 _ rfl (w.heap.size + 1 + 1 + 1) 0 rfl cs _ hra Try.underlying78 rfl hin ?_)
      refine bodyPost_ret (results_cell_row rfl _ _ (w.heap.size + 1 + 1) 78 cs.toArray (0, 0) _ rfl R.out Try.underlying78 rfl (by rw [hsz2]; kernel_rfl)) rfl ?_
      exact ⟨by rw [CS.out], B.out⟩
end Go.Proofs.Ytdinmdjdkhlgcaa
