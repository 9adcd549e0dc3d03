/- What the closure of calls keeps: its graphs, the ways to them; and how that lives on in memory. -/
import Derived.Test.YtdinmdjdkhlgcaaClip
namespace Go.Proofs.Ytdinmdjdkhlgcaa
open Go.RowKit
set_option linter.unusedVariables false
set_option linter.unusedSimpArgs false

/-- The compositions of some graphs. -/
inductive Reach (fs : List Gr) : Gr → Prop
  | one {g : Gr} : g ∈ fs → Reach fs g
  | more {g h : Gr} : Reach fs g → h ∈ fs → g.dst = h.src → Reach fs (g.then h)
/-- A graph with graphs behind it, by their numbers. -/
def walkG (fs : List Gr) : Gr → List Nat → Option Gr
  | g, [] => some g
  | g, i :: r => match fs[i]? with
    | some h => if g.dst = h.src then walkG fs (g.then h) r else none
    | none => none
/-- The composition of the graphs with these numbers. -/
def comp (fs : List Gr) : List Nat → Option Gr
  | [] => none
  | i :: r => (fs[i]?).bind fun g => walkG fs g r
theorem walkG_snoc {fs : List Gr} {h : Gr} {i : Nat} (hi : fs[i]? = some h) : ∀ {p : List Nat} {g g' : Gr}, walkG fs g p = some g' → g'.dst = h.src → walkG fs g (p ++ [i]) = some (g'.then h)
  | [], g, g', e, hd => by
    simp only [walkG, Option.some.injEq] at e
    subst e
    simp [walkG, hi, hd]
  | j :: p, g, g', e, hd => by
    simp only [List.cons_append, walkG] at e ⊢
    cases hj : fs[j]? with
    | none => rw [hj] at e; cases e
    | some k =>
      rw [hj] at e
      simp only at e ⊢
      split at e
      · rename_i hk
        rw [if_pos hk]
        exact walkG_snoc hi e hd
      · cases e
theorem comp_snoc {fs : List Gr} {p : List Nat} {g h : Gr} {i : Nat} (hp : comp fs p = some g) (hi : fs[i]? = some h) (hd : g.dst = h.src) : comp fs (p ++ [i]) = some (g.then h) := by
  cases p with
  | nil => cases hp
  | cons j p =>
    simp only [comp, List.cons_append] at hp ⊢
    cases hj : fs[j]? with
    | none => rw [hj] at hp; cases hp
    | some k =>
      rw [hj] at hp
      simp only [Option.bind_some] at hp ⊢
      exact walkG_snoc hi hp hd
theorem comp_one {fs : List Gr} {g : Gr} {i : Nat} (hi : fs[i]? = some g) : comp fs [i] = some g := by simp [comp, hi, walkG]
/-- A way in memory. -/
def WayAt (w : World) (B : Nat) (s : Value) (p : List Nat) : Prop := w.ownsRow B 3 1 s p.length (p.map fun (i : Nat) => Value.int .i64 (i : Int)) ∧ p ≠ []
theorem WayAt.form {w : World} {B : Nat} {s : Value} {p : List Nat} (h : WayAt w B s p) : ∃ b c cur, s = .slice (some ⟨b, 0, none⟩) p.length c ∧ p.length ≤ c ∧ c ≤ maxLen ∧ w.heap[b]? = some (.cells cur 3 (0, 0)) := by
  rcases h.1.2 with ⟨_, h0⟩ | ⟨g, cap, cur, e, _, hc, h1, h2, _⟩
  · exact absurd (List.length_eq_zero_iff.1 h0) h.2
  · exact ⟨g, cap, cur, e, h1, h2, hc⟩
theorem WayAt.one {w : World} {B : Nat} {s : Value} {p : List Nat} (h : WayAt w B s p) : s.oneCell' = true ∧ s.cells = #[s] := by
  obtain ⟨b, c, cur, rfl, _⟩ := h.form
  exact ⟨rfl, rfl⟩
theorem WayAt.kept {w w' : World} {B : Nat} {s : Value} {p : List Nat} (h : WayAt w B s p) (hk : ∀ (b : Nat) (x : Array Value), w.heap[b]? = some (.cells x 3 (0, 0)) → w'.heap[b]? = some (.cells x 3 (0, 0))) : WayAt w' B s p := by
  refine ⟨⟨h.1.1, ?_⟩, h.2⟩
  rcases h.1.2 with h0 | ⟨g, cap, cur, e, hb, hc, h1, h2, h3, h4⟩
  · exact .inl h0
  · exact .inr ⟨g, cap, cur, e, hb, hk g cur hc, h1, h2, h3, h4⟩
theorem WayAt.below {w w' : World} {B : Nat} {s : Value} {p : List Nat} (h : WayAt w B s p) (hb : Below w.heap.size w w') : WayAt w' B s p := h.kept fun b x hx => row_below hx hb
/-- Blocks of other kinds stay. -/
theorem Added.keeps {B : Nat} {w w' : World} {p q r mb cb cap : Nat} {all queue : List (Gr × Value)} {av av' : Value} {n rr : Nat} (h : Added w w' q mb cb av av') (hs : CS B w p q r mb cb cap all queue av n rr) {b : Nat} {x : Array Value} {t : Nat} (h72 : t ≠ 72) (h80 : t ≠ 80) (hx : w.heap[b]? = some (.cells x t (0, 0))) : w'.heap[b]? = some (.cells x t (0, 0)) := by
  rw [h.block b (lt_of_heap hx) (ne_of_heap hx hs.hq (by simp [h72])) (ne_of_heap hx hs.hm (by simp)) (ne_of_heap hx hs.hc (by simp)) ?_]
  · exact hx
  · intro e
    obtain ⟨cur, hcur⟩ := ownsRow_block hs.own e.symm
    rw [hx] at hcur
    simp at hcur
    exact h80 hcur.2
theorem WayAt.added {B B' : Nat} {w w' : World} {p q r mb cb cap : Nat} {all queue : List (Gr × Value)} {av av' : Value} {n rr : Nat} {s : Value} {pa : List Nat} (hw : WayAt w B' s pa) (h : Added w w' q mb cb av av') (hs : CS B w p q r mb cb cap all queue av n rr) : WayAt w' B' s pa :=
  hw.kept fun b x hx => h.keeps hs (by decide) (by decide) hx
theorem ownsRow_added {B B' : Nat} {w w' : World} {p q r mb cb cap : Nat} {all queue : List (Gr × Value)} {av av' : Value} {n rr : Nat} {t size m : Nat} {v : Value} {xs : List Value} (h72 : t ≠ 72) (h80 : t ≠ 80) (ho : w.ownsRow B' t size v m xs) (h : Added w w' q mb cb av av') (hs : CS B w p q r mb cb cap all queue av n rr) : w'.ownsRow B' t size v m xs := by
  refine ⟨ho.1, ?_⟩
  rcases ho.2 with h0 | ⟨g, cap, cur, e, hb, hc, h1⟩
  · exact .inl h0
  · exact .inr ⟨g, cap, cur, e, hb, h.keeps hs h72 h80 hc, h1⟩
theorem ownsRow_below {B : Nat} {w w' : World} {t size m : Nat} {v : Value} {xs : List Value} (ho : w.ownsRow B t size v m xs) (hb : Below w.heap.size w w') : w'.ownsRow B t size v m xs := by
  refine ⟨ho.1, ?_⟩
  rcases ho.2 with h0 | ⟨g, cap, cur, e, hb', hc, h1⟩
  · exact .inl h0
  · exact .inr ⟨g, cap, cur, e, hb', row_below hc hb, h1⟩
/-- Each graph of a closure has a way. -/
def Ways (w : World) (B : Nat) (fs : List Gr) (all : List (Gr × Value)) : Prop := ∀ (idx : Nat) (g : Gr) (s : Value), all[idx]? = some (g, s) → ∃ p : List Nat, comp fs p = some g ∧ p.length ≤ idx + 1 ∧ (∀ i ∈ p, i < fs.length) ∧ WayAt w B s p
theorem Ways.below {w w' : World} {B : Nat} {fs : List Gr} {all : List (Gr × Value)} (h : Ways w B fs all) (hb : Below w.heap.size w w') : Ways w' B fs all := fun idx g s hi => by
  obtain ⟨p, h1, h2, h3, h4⟩ := h idx g s hi
  exact ⟨p, h1, h2, h3, h4.below hb⟩
theorem Ways.snoc {w : World} {B : Nat} {fs : List Gr} {all : List (Gr × Value)} (h : Ways w B fs all) {g : Gr} {s : Value} {p : List Nat} (h1 : comp fs p = some g) (h2 : p.length ≤ all.length + 1) (h3 : ∀ i ∈ p, i < fs.length) (h4 : WayAt w B s p) : Ways w B fs (all ++ [(g, s)]) := fun idx g' s' hi => by
  rcases Nat.lt_or_ge idx all.length with hlt | hge
  · rw [List.getElem?_append_left hlt] at hi
    exact h idx g' s' hi
  · rw [List.getElem?_append_right hge] at hi
    obtain ⟨hlt, _⟩ := List.getElem?_eq_some_iff.1 hi
    have h0 : idx - all.length = 0 := by simp at hlt; omega
    rw [h0] at hi
    simp only [List.getElem?_cons_zero, Option.some.injEq, Prod.mk.injEq] at hi
    obtain ⟨rfl, rfl⟩ := hi
    exact ⟨p, h1, by omega, h3, h4⟩
/-- The plain side of the work: the graphs, how many of them have been gone through. -/
structure Work (fs : List Gr) (ks : List Gr) (d : Nat) : Prop where
  nd : ks.Nodup
  reach : ∀ g ∈ ks, Reach fs g
  done : ∀ i g h, i < d → ks[i]? = some g → h ∈ fs → g.dst = h.src → g.then h ∈ ks
theorem Work.snoc {fs ks : List Gr} {d : Nat} (h : Work fs ks d) {g : Gr} (hn : g ∉ ks) (hr : Reach fs g) (hd : d ≤ ks.length) : Work fs (ks ++ [g]) d := by
  refine ⟨?_, ?_, ?_⟩
  · rw [List.nodup_append]
    refine ⟨h.nd, by simp, fun a ha b hb e => ?_⟩
    rw [List.mem_singleton] at hb
    subst e
    subst hb
    exact hn ha
  · intro x hx
    rcases List.mem_append.1 hx with hx | hx
    · exact h.reach x hx
    · rw [List.mem_singleton.1 hx]
      exact hr
  · intro i x y hi hx hy e
    rw [List.getElem?_append_left (by omega)] at hx
    exact List.mem_append_left _ (h.done i x y hi hx hy e)
theorem Work.all {fs ks : List Gr} (h : Work fs ks ks.length) (hf : ∀ g ∈ fs, g ∈ ks) : ∀ g, g ∈ ks ↔ Reach fs g := by
  intro g
  refine ⟨h.reach g, fun hr => ?_⟩
  induction hr with
  | one hg => exact hf _ hg
  | more _ hh e ih =>
    obtain ⟨i, hi⟩ := List.getElem?_of_mem ih
    exact h.done i _ _ (List.getElem?_eq_some_iff.1 hi).1 hi hh e
theorem flat_at {α : Type} {f : α → List Value} {size : Nat} : ∀ {l : List α} (hf : ∀ x ∈ l, (f x).length = size) {idx : Nat} {x : α} (hx : l[idx]? = some x) {j : Nat} {v : Value} (hj : (f x)[j]? = some v), (l.flatMap f)[idx * size + j]? = some v
  | [], _, idx, x, hx, _, _, _ => by simp at hx
  | y :: l, hf, 0, x, hx, j, v, hj => by
    simp only [List.getElem?_cons_zero, Option.some.injEq] at hx
    subst hx
    rw [List.flatMap_cons, Nat.zero_mul, Nat.zero_add, List.getElem?_append_left (List.getElem?_eq_some_iff.1 hj).1]
    exact hj
  | y :: l, hf, idx + 1, x, hx, j, v, hj => by
    have hy := hf y (List.mem_cons_self ..)
    rw [List.flatMap_cons, List.getElem?_append_right (by rw [hy, Nat.add_mul]; omega), hy]
    have : (idx + 1) * size + j - size = idx * size + j := by rw [Nat.add_mul]; omega
    rw [this]
    exact flat_at (fun z hz => hf z (List.mem_cons_of_mem _ hz)) (by simpa using hx) hj
/-- An owned row, as a slice. -/
theorem own_slice {w : World} {B t size n : Nat} {v : Value} {xs : List Value} (h : w.ownsRow B t size v n xs) : ∃ (fa : Option Addr) (fc : Nat), v = .slice fa n fc ∧ n ≤ fc ∧ (0 < n → ∃ g, fa = some ⟨g, 0, none⟩ ∧ ∀ j u, xs[j]? = some u → w.cell? ⟨g, j, none⟩ = some u) := by
  rcases h.2 with ⟨rfl, rfl⟩ | ⟨g, cap, cur, rfl, hb, hc, h1, h2, h3, h4⟩
  · exact ⟨none, 0, rfl, Nat.le_refl _, fun h => absurd h (by omega)⟩
  · refine ⟨_, _, rfl, h1, fun _ => ⟨g, rfl, fun j u hj => ?_⟩⟩
    have := h.cells (g := g) rfl j u hj
    rw [Addr.add_mid, Nat.zero_add] at this
    exact this
theorem own_range {α : Type} {f : α → List Value} {w : World} {B t size n : Nat} {fa : Option Addr} {fc : Nat} {l : List α} (h : w.ownsRow B t size (.slice fa n fc) n (l.flatMap f)) (hn : n = l.length) (hf : ∀ x ∈ l, (f x).length = size) {idx : Nat} {x : α} (hx : l[idx]? = some x) : ∃ g, fa = some ⟨g, 0, none⟩ ∧ w.rangeAt g (idx * size) (f x) := by
  obtain ⟨fa', fc', e, _, h0⟩ := own_slice h
  injection e with e1 e2 e3
  subst e1
  have hlt := (List.getElem?_eq_some_iff.1 hx).1
  obtain ⟨g, e, hc⟩ := h0 (by omega)
  exact ⟨g, e, fun j v hj => hc _ _ (flat_at hf hx hj)⟩
theorem way_new {w : World} {B i : Nat} (hB : B ≤ w.heap.size) : WayAt (w.alloc (.cells #[.int .i64 (i : Int)] 3)) B (.slice (some ⟨w.heap.size, 0, none⟩) 1 1) [i] :=
  ⟨⟨rfl, .inr ⟨w.heap.size, 1, _, rfl, hB, heap_alloc_new w _, Nat.le_refl _, by unfold maxLen; omega, rfl, rfl⟩⟩, by simp⟩
/-- The state of the work in memory. -/
structure Clo (w wx : World) (fs : List Gr) (u : Value) (p q r mb cb cap d e : Nat) (all : List (Gr × Value)) (av : Value) (s rr : Nat) : Prop where
  b : Below w.heap.size w wx
  cs : CS w.heap.size wx p q r mb cb cap all (all.drop e) av s rr
  own : wx.ownsRow w.heap.size 78 38 u fs.length (fs.flatMap gC)
  ways : Ways wx w.heap.size fs all
  work : Work fs (all.map (·.1)) d
  few : all.length ≤ 2000
  dle : d ≤ e
  ele : e ≤ all.length
theorem Clo.below {w wx wy : World} {fs : List Gr} {u : Value} {p q r mb cb cap d e : Nat} {all : List (Gr × Value)} {av : Value} {s rr : Nat} (h : Clo w wx fs u p q r mb cb cap d e all av s rr) (hb : Below wx.heap.size wx wy) : Clo w wy fs u p q r mb cb cap d e all av s rr :=
  ⟨below_then h.b hb, h.cs.below hb, ownsRow_below h.own hb, h.ways.below hb, h.work, h.few, h.dle, h.ele⟩
theorem Clo.new {w wx wy : World} {fs : List Gr} {u : Value} {p q r mb cb cap d e : Nat} {all : List (Gr × Value)} {av av' : Value} {s rr : Nat} (h : Clo w wx fs u p q r mb cb cap d e all av s rr) {g : Gr} {sv : Value} {pa : List Nat}
    (hcs : CS w.heap.size wy p q r mb cb cap (all ++ [(g, sv)]) (all.drop e ++ [(g, sv)]) av' (s + 1) rr) (ha : Added wx wy q mb cb av av') (hn : g ∉ all.map (·.1)) (hr : Reach fs g) (hlt : all.length < 2000)
    (h1 : comp fs pa = some g) (h2 : pa.length ≤ all.length + 1) (h3 : ∀ i ∈ pa, i < fs.length) (h4 : WayAt wx w.heap.size sv pa) : Clo w wy fs u p q r mb cb cap d e (all ++ [(g, sv)]) av' (s + 1) rr := by
  refine ⟨ha.below h.cs h.b, ?_, ownsRow_added (by decide) (by decide) h.own ha h.cs, ?_, ?_, by simp; omega, h.dle, by simp; have := h.ele; omega⟩
  · rw [List.drop_append_of_le_length h.ele]
    exact hcs
  · refine Ways.snoc (fun idx g' s' hi => ?_) h1 h2 h3 (h4.added ha h.cs)
    obtain ⟨p', a1, a2, a3, a4⟩ := h.ways idx g' s' hi
    exact ⟨p', a1, a2, a3, a4.added ha h.cs⟩
  · rw [List.map_append]
    exact h.work.snoc hn hr (by have := h.dle; have := h.ele; simp; omega)
theorem Clo.start {w wr : World} {fs : List Gr} {u : Value} {cap : Nat} (hb : Below w.heap.size w wr) (ho : wr.ownsRow w.heap.size 78 38 u fs.length (fs.flatMap gC)) :
    Clo w (((((wr.alloc (.map #[] 0)).alloc (.cells #[.map (some wr.heap.size)] 112)).alloc (.cells #[.slice none 0 0] 72)).alloc (.chan cap #[] false 0 0 false)).alloc (.cells #[.chan (some (wr.heap.size + 1 + 1 + 1))] 113))
      fs u (wr.heap.size + 1) (wr.heap.size + 1 + 1) (wr.heap.size + 1 + 1 + 1 + 1) wr.heap.size (wr.heap.size + 1 + 1 + 1) cap 0 0 [] (.slice none 0 0) 0 0 := by
  have hB := hb.size
  obtain ⟨Wa, hWa⟩ : ∃ W, W = wr.alloc (.map #[] 0) := ⟨_, rfl⟩
  obtain ⟨Wb, hWb⟩ : ∃ W, W = Wa.alloc (.cells #[.map (some wr.heap.size)] 112) := ⟨_, rfl⟩
  obtain ⟨Wc, hWc⟩ : ∃ W, W = Wb.alloc (.cells #[.slice none 0 0] 72) := ⟨_, rfl⟩
  obtain ⟨Wd, hWd⟩ : ∃ W, W = Wc.alloc (.chan cap #[] false 0 0 false) := ⟨_, rfl⟩
  obtain ⟨We, hWe⟩ : ∃ W, W = Wd.alloc (.cells #[.chan (some (wr.heap.size + 1 + 1 + 1))] 113) := ⟨_, rfl⟩
  rw [← hWa, ← hWb, ← hWc, ← hWd, ← hWe]
  have sa : Wa.heap.size = wr.heap.size + 1 := by rw [hWa]; simp
  have sb : Wb.heap.size = wr.heap.size + 1 + 1 := by rw [hWb]; simp [sa]
  have sc : Wc.heap.size = wr.heap.size + 1 + 1 + 1 := by rw [hWc]; simp [sb]
  have sd : Wd.heap.size = wr.heap.size + 1 + 1 + 1 + 1 := by rw [hWd]; simp [sc]
  have ba : Below wr.heap.size wr Wa := by rw [hWa]; exact (Below.refl _ _).alloc (Nat.le_refl _) _
  have bb : Below Wa.heap.size Wa Wb := by rw [hWb]; exact (Below.refl _ _).alloc (Nat.le_refl _) _
  have bc : Below Wb.heap.size Wb Wc := by rw [hWc]; exact (Below.refl _ _).alloc (Nat.le_refl _) _
  have bd : Below Wc.heap.size Wc Wd := by rw [hWd]; exact (Below.refl _ _).alloc (Nat.le_refl _) _
  have be : Below Wd.heap.size Wd We := by rw [hWe]; exact (Below.refl _ _).alloc (Nat.le_refl _) _
  have na : Wa.heap[wr.heap.size]? = some (.map #[] 0) := by rw [hWa]; exact heap_alloc_new _ _
  have nb : Wb.heap[wr.heap.size + 1]? = some (.cells #[.map (some wr.heap.size)] 112 (0, 0)) := by rw [← sa, hWb]; exact heap_alloc_new _ _
  have nc : Wc.heap[wr.heap.size + 1 + 1]? = some (.cells #[.slice none 0 0] 72 (0, 0)) := by rw [← sb, hWc]; exact heap_alloc_new _ _
  have nd : Wd.heap[wr.heap.size + 1 + 1 + 1]? = some (.chan cap #[] false 0 0 false) := by rw [← sc, hWd]; exact heap_alloc_new _ _
  have ne : We.heap[wr.heap.size + 1 + 1 + 1 + 1]? = some (.cells #[.chan (some (wr.heap.size + 1 + 1 + 1))] 113 (0, 0)) := by rw [← sd, hWe]; exact heap_alloc_new _ _
  have ball : Below wr.heap.size wr We := below_then (below_then (below_then (below_then ba bb) bc) bd) be
  refine ⟨below_then hb ball, ⟨row_below (row_below (row_below nb bc) bd) be, row_below (row_below nc bd) be, ne, ?_, ?_, World.ownsRow_nil _ _ _ _, by omega, by omega, by omega, by omega, by omega, by simp, by simp⟩, ownsRow_below ho ball, fun idx g s hi => by simp at hi, ⟨by simp, by simp, by simp⟩, by simp, Nat.le_refl _, Nat.le_refl _⟩
  · exact row_below (row_below (row_below (row_below na bb) bc) bd) be
  · exact row_below nd be
open Go.Conc in
theorem exec_select {o : Oper} {a : Act} {x : Operand} {cb : Nat} {w : World} (ho : o.op = .select #[{ chan := x, send := none, elem := 80 }] false) (hx : a.eval x = .chan (some cb)) :
    (execOp a.eval o).run Try.prog w = .ok (.comm #[rcase cb (.agg m0.toArray)] false .select) w := by
  unfold execOp
  simp only [ho, Sem.run_bind]
  simp [Array.mapM_eq_mapM_toList, hx, rcase]
  rfl
/-- A receive takes the eldest. -/
theorem Clo.take {w wx : World} {fs : List Gr} {u : Value} {p q r mb cb cap d : Nat} {all : List (Gr × Value)} {av : Value} {s rr : Nat} (h : Clo w wx fs u p q r mb cb cap d d all av s rr) {g : Gr} {sv : Value} (hd : all[d]? = some (g, sv)) :
    ((all.drop d).map fun x => mV x.1 x.2).toArray.getD 0 undef = mV g sv ∧ 0 < ((all.drop d).map fun x => mV x.1 x.2).toArray.size ∧
      Clo w (wx.setChan cb cap (((all.drop d).map fun x => mV x.1 x.2).toArray.extract 1 ((all.drop d).map fun x => mV x.1 x.2).toArray.size) false s (rr + 1) false) fs u p q r mb cb cap d (d + 1) all av s (rr + 1) ∧
      ∀ k, k ≠ cb → (wx.setChan cb cap (((all.drop d).map fun x => mV x.1 x.2).toArray.extract 1 ((all.drop d).map fun x => mV x.1 x.2).toArray.size) false s (rr + 1) false).heap[k]? = wx.heap[k]? := by
  obtain ⟨hlt, he⟩ := List.getElem?_eq_some_iff.1 hd
  have hdr : all.drop d = (g, sv) :: all.drop (d + 1) := by rw [List.drop_eq_getElem_cons hlt, he]
  have hbuf : ((all.drop d).map fun x => mV x.1 x.2).toArray.extract 1 ((all.drop d).map fun x => mV x.1 x.2).toArray.size = ((all.drop (d + 1)).map fun x => mV x.1 x.2).toArray := by
    rw [hdr]
    simp
    rw [List.take_of_length_le (by simp)]
  have hne : ∀ k, k ≠ cb → (wx.setChan cb cap (((all.drop d).map fun x => mV x.1 x.2).toArray.extract 1 ((all.drop d).map fun x => mV x.1 x.2).toArray.size) false s (rr + 1) false).heap[k]? = wx.heap[k]? := fun k hk => by
    simp [World.setChan, Array.getElem?_setIfInBounds_ne (Ne.symm hk)]
  refine ⟨by rw [hdr]; rfl, by rw [hdr]; simp, ?_, hne⟩
  have hcs := h.cs
  rw [hbuf] at hne ⊢
  have hbc := hcs.bc
  have kp : ∀ {k : Nat} {o : Obj}, wx.heap[k]? = some o → k ≠ cb → (wx.setChan cb cap ((all.drop (d + 1)).map fun x => mV x.1 x.2).toArray false s (rr + 1) false).heap[k]? = some o := fun hk hn => (hne _ hn).trans hk
  have krow : ∀ {B t size m : Nat} {v : Value} {xs : List Value}, wx.ownsRow B t size v m xs → (wx.setChan cb cap ((all.drop (d + 1)).map fun x => mV x.1 x.2).toArray false s (rr + 1) false).ownsRow B t size v m xs := fun {B t size m v xs} ho => by
    refine ⟨ho.1, ?_⟩
    rcases ho.2 with h0 | ⟨g, cap', cur, e, hb, hc, h1⟩
    · exact .inl h0
    · exact .inr ⟨g, cap', cur, e, hb, kp hc (ne_of_heap hc hcs.hc (by simp)), h1⟩
  refine ⟨?_, ⟨kp hcs.hp (ne_of_heap hcs.hp hcs.hc (by simp)), kp hcs.hq (ne_of_heap hcs.hq hcs.hc (by simp)), kp hcs.hr (ne_of_heap hcs.hr hcs.hc (by simp)), kp hcs.hm (ne_of_heap hcs.hm hcs.hc (by simp)), ?_, krow hcs.own, hcs.bp, hcs.bq, hcs.br, hcs.bm, hcs.bc, hcs.ok, hcs.one⟩, krow h.own, ?_, h.work, h.few, by omega, by omega⟩
  · exact h.b.trans ⟨rfl, rfl, rfl, by simp [World.setChan], fun k hk => hne k (by omega)⟩
  · have := lt_of_heap hcs.hc
    simp [World.setChan, this]
  · intro idx g' s' hi
    obtain ⟨p', a1, a2, a3, a4⟩ := h.ways idx g' s' hi
    exact ⟨p', a1, a2, a3, ⟨krow a4.1, a4.2⟩⟩
/-- All compositions of the eldest have been put in: it is done. -/
theorem Clo.next {w wx : World} {fs : List Gr} {u : Value} {p q r mb cb cap d : Nat} {all : List (Gr × Value)} {av : Value} {s rr : Nat} (h : Clo w wx fs u p q r mb cb cap d (d + 1) all av s rr) {g : Gr} {sv : Value} (hd : all[d]? = some (g, sv)) (hall : ∀ (j : Nat) x, fs[j]? = some x → g.dst = x.src → g.then x ∈ all.map (·.1)) :
    Clo w wx fs u p q r mb cb cap (d + 1) (d + 1) all av s rr := by
  refine ⟨h.b, h.cs, h.own, h.ways, ⟨h.work.nd, h.work.reach, fun i g' x hi hg hx e => ?_⟩, h.few, Nat.le_refl _, h.ele⟩
  by_cases hid : i = d
  · subst hid
    rw [List.getElem?_map, hd] at hg
    obtain rfl : g = g' := Option.some.inj hg
    obtain ⟨j, hj⟩ := List.getElem?_of_mem hx
    exact hall j x hj e
  · exact h.work.done i g' x (by omega) hg hx e
/-- Rows of ints stay. -/
def Kp (w w' : World) : Prop := ∀ (b : Nat) (x : Array Value), w.heap[b]? = some (.cells x 3 (0, 0)) → w'.heap[b]? = some (.cells x 3 (0, 0))
theorem Kp.refl (w : World) : Kp w w := fun _ _ h => h
theorem Kp.below {w w' : World} (h : Below w.heap.size w w') : Kp w w' := fun _ _ hx => row_below hx h
theorem way_append {w : World} {B b c k i : Nat} {p : List Nat} {ty : TypeId} (h : WayAt w B (.slice (some ⟨b, 0, none⟩) p.length c) p) (hk : w.heap[k]? = some (.cells #[.int .i64 (i : Int)] 3 (0, 0))) (hB : B ≤ w.heap.size) (hp : p.length ≤ 100000) :
    ∃ v' w', (Builtin.append_ #[36, 36] ty #[.slice (some ⟨b, 0, none⟩) p.length p.length, .slice (some ⟨k, 0, none⟩) 1 1]).run Try.prog w = .ok v' w' ∧ WayAt w' B v' (p ++ [i]) ∧ Below w.heap.size w w' := by
  obtain ⟨i0, hi, hz0, hz1, hz2⟩ := info_parts info3z
  have hgc := grownCap_ge w (p.length + 1) p.length 3
  have hgm := grownCap_le_maxLen w (p.length + 1) p.length 3 (by unfold maxLen; omega)
  have hr := run_append_grow (P := Try.prog) w 36 ty 3 i0 (.int .i64 0) Try.underlying36 hi hz0 ⟨b, 0, none⟩ p.length p.length (p.map fun (i : Nat) => Value.int .i64 (i : Int)) (by rw [hz1, List.length_map]; omega) (h.1.cells rfl) ⟨k, 0, none⟩ 1 1 [.int .i64 (i : Int)] (by rw [hz1]; rfl) (fun j v hj => by
    rw [Addr.add_mid, Nat.zero_add, cell_of_row w k _ _ _ _ hk]
    simpa using hj) (by omega) (by omega) (growslice_fits (by omega) (by rw [hz2]; omega))
  refine ⟨_, _, hr, ⟨⟨by simp, .inr ⟨w.heap.size, _, _, by rw [List.length_append]; rfl, hB, heap_alloc_new w.drew _, ?_, hgm, ?_, ?_⟩⟩, by simp⟩, (Below.refl _ _).drew.alloc (Nat.le_refl _) _⟩
  · simpa using hgc
  · simp [Builtin.zeroCells, Value.cells]
    omega
  · rw [List.map_append]
    simp only [Array.toList_append, List.toList_toArray]
    rw [List.take_left' (by simp)]
    rfl
/-- The state within the region that composes. -/
def Inv29 (Fin : World → Prop) (wd : World) : Bool → World → Prop
  | true, w' => Fin w'
  | false, w' => Below wd.heap.size wd w'
structure Box29 (B b15 b17 : Nat) (g h : Gr) (sv : Value) (pa : List Nat) (w' : World) : Prop where
  r15 : w'.heap[b15]? = some (.cells (mC g sv).toArray 80 (0, 0))
  r17 : w'.heap[b17]? = some (.cells (gC h).toArray 78 (0, 0))
  way : WayAt w' B sv pa
theorem Box29.below {B b15 b17 : Nat} {g h : Gr} {sv : Value} {pa : List Nat} {w w' : World} (x : Box29 B b15 b17 g h sv pa w) (hb : Below w.heap.size w w') : Box29 B b15 b17 g h sv pa w' := ⟨row_below x.r15 hb, row_below x.r17 hb, x.way.below hb⟩
theorem Inv29.below {Fin : World → Prop} {wd w1 w2 : World} {bb : Bool} (hF : ∀ w1 w2, Below w1.heap.size w1 w2 → Fin w1 → Fin w2) (h : Inv29 Fin wd bb w1) (hb : Below w1.heap.size w1 w2) : Inv29 Fin wd bb w2 := by
  cases bb with
  | true => exact hF w1 w2 hb h
  | false => exact below_then h hb
theorem Inv29.box {Fin : World → Prop} {wd w1 : World} {bb : Bool} {B b15 b17 : Nat} {g h : Gr} {sv : Value} {pa : List Nat} (hF : ∀ w1, Fin w1 → Box29 B b15 b17 g h sv pa w1) (hd : Box29 B b15 b17 g h sv pa wd) (x : Inv29 Fin wd bb w1) : Box29 B b15 b17 g h sv pa w1 := by
  cases bb with
  | true => exact hF w1 x
  | false => exact hd.below x
theorem Box29.dst {B b15 b17 : Nat} {g h : Gr} {sv : Value} {pa : List Nat} {w : World} (x : Box29 B b15 b17 g h sv pa w) : w.cell? ⟨b15, 1, none⟩ = some (.string g.dst) := by
  rw [cell_of_row w b15 _ _ _ _ x.r15]
  rfl
theorem Box29.src {B b15 b17 : Nat} {g h : Gr} {sv : Value} {pa : List Nat} {w : World} (x : Box29 B b15 b17 g h sv pa w) : w.cell? ⟨b17, 0, none⟩ = some (.string h.src) := by
  rw [cell_of_row w b17 _ _ _ _ x.r17]
  rfl
theorem Box29.last {B b15 b17 : Nat} {g h : Gr} {sv : Value} {pa : List Nat} {w : World} (x : Box29 B b15 b17 g h sv pa w) (ok : g.Ok) : w.cell? ⟨b15, 38, none⟩ = some sv := by
  rw [cell_of_row w b15 _ _ _ _ x.r15, List.getElem?_toArray]
  exact mC_last ok sv
/-- What stands when the composition was seen or put in. -/
structure Fin29 (w : World) (fs : List Gr) (u : Value) (p q r mb cb cap d b15 b17 : Nat) (all : List (Gr × Value)) (av : Value) (rr : Nat) (g h : Gr) (sv : Value) (pa : List Nat) (s' : Nat) (all' : List (Gr × Value)) (w' : World) : Prop where
  clo : ∃ av', Clo w w' fs u p q r mb cb cap d (d + 1) all' av' s' rr ∧ some b15 ≠ av'.ownBlock
  box : Box29 w.heap.size b15 b17 g h sv pa w'
theorem Fin29.below {w : World} {fs : List Gr} {u : Value} {p q r mb cb cap d b15 b17 : Nat} {all : List (Gr × Value)} {av : Value} {rr : Nat} {g h : Gr} {sv : Value} {pa : List Nat} {s' : Nat} {all' : List (Gr × Value)} {w1 w2 : World} (hb : Below w1.heap.size w1 w2) (x : Fin29 w fs u p q r mb cb cap d b15 b17 all av rr g h sv pa s' all' w1) : Fin29 w fs u p q r mb cb cap d b15 b17 all av rr g h sv pa s' all' w2 := by
  obtain ⟨av', hc, hn⟩ := x.clo
  exact ⟨⟨av', hc.below hb, hn⟩, x.box.below hb⟩
theorem Box29.added {B B' b15 b17 : Nat} {g h : Gr} {sv : Value} {pa : List Nat} {w w' : World} {p q r mb cb cap : Nat} {all queue : List (Gr × Value)} {av av' : Value} {n rr : Nat} (x : Box29 B' b15 b17 g h sv pa w) (ha : Added w w' q mb cb av av') (hs : CS B w p q r mb cb cap all queue av n rr) (hn : some b15 ≠ av.ownBlock) : Box29 B' b15 b17 g h sv pa w' :=
  ⟨by
    rw [ha.block b15 (lt_of_heap x.r15) (ne_of_heap x.r15 hs.hq (by simp)) (ne_of_heap x.r15 hs.hm (by simp)) (ne_of_heap x.r15 hs.hc (by simp)) hn]
    exact x.r15, ha.keeps hs (by decide) (by decide) x.r17, x.way.added ha hs⟩
theorem Added.ne {w w' : World} {q mb cb b15 : Nat} {av av' : Value} {o : Obj} (ha : Added w w' q mb cb av av') (hb : w.heap[b15]? = some o) (hn : some b15 ≠ av.ownBlock) : some b15 ≠ av'.ownBlock := by
  intro e
  rcases ha.own with e2 | ⟨g, e2, hg⟩
  · exact hn (e.trans e2)
  · rw [e2] at e
    have := lt_of_heap hb
    have : b15 = g := Option.some.inj e
    omega
end Go.Proofs.Ytdinmdjdkhlgcaa
