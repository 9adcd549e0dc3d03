/- A call that is read as a graph. -/
import Derived.Test.YtdinmdjdkhlgcaaClip
import Derived.Test.YtdinmdjdkhlgcaaSz5
namespace Go.Proofs.Ytdinmdjdkhlgcaa
open Go.RowKit Go.Proofs.YtdinmdjdkhlgcaaW.PrintWords Go.Proofs.Ytdinmdjdkhlgcaa.Sz
set_option linter.unusedVariables false
set_option linter.unusedSimpArgs false

/-- An arc in range. -/
def arcOk (a : S24) : Bool := decide (0 ≤ a.f0) && decide (a.f0 < 6) && decide (0 ≤ a.f1) && decide (a.f1 < 6)
/-- A call that is well formed. -/
def callOk (x : S34) : Bool := !x.f0.toList.isEmpty && !x.f1.toList.isEmpty && x.f2.all arcOk
def strictN (a : S24) : Int := if a.f2 then 2 else 1
/-- What stands at a place behind these arcs. -/
def arcV (l : List S24) (i k : Nat) : Int := l.foldl (fun m a => if a.f0 = (i : Int) ∧ a.f1 = (k : Int) then max m (strictN a) else m) 0
/-- The graph of a call. -/
def graphOf (x : S34) : Gr := mkG x.f0 x.f1 (arcV x.f2)
theorem arcV_snoc (l : List S24) (a : S24) (i k : Nat) : arcV (l ++ [a]) i k = if a.f0 = (i : Int) ∧ a.f1 = (k : Int) then max (arcV l i k) (strictN a) else arcV l i k := by
  unfold arcV
  rw [List.foldl_append]
  rfl
theorem arcV_bound (l : List S24) (i k : Nat) : 0 ≤ arcV l i k ∧ arcV l i k ≤ 2 := by
  have h : ∀ (l : List S24) (m : Int), 0 ≤ m ∧ m ≤ 2 → 0 ≤ l.foldl (fun m a => if a.f0 = (i : Int) ∧ a.f1 = (k : Int) then max m (strictN a) else m) m ∧ l.foldl (fun m a => if a.f0 = (i : Int) ∧ a.f1 = (k : Int) then max m (strictN a) else m) m ≤ 2 := by
    intro l
    induction l with
    | nil => intro m h; exact h
    | cons a l ih =>
      intro m h
      refine ih _ ?_
      dsimp only
      unfold strictN
      split
      · split <;> omega
      · exact h
  exact h l 0 (by omega)
theorem arcV_upd (l : List S24) (a : S24) (i k : Nat) (hi : a.f0 = (i : Int)) (hk : a.f1 = (k : Int)) (i' k' : Nat) : updF (arcV l) i k (max (arcV l i k) (strictN a)) i' k' = arcV (l ++ [a]) i' k' := by
  rw [arcV_snoc]
  unfold updF
  by_cases e : i' = i ∧ k' = k
  · obtain ⟨rfl, rfl⟩ := e
    rw [if_pos ⟨rfl, rfl⟩, if_pos ⟨hi, hk⟩]
  · rw [if_neg e, if_neg]
    rintro ⟨h1, h2⟩
    exact e ⟨by omega, by omega⟩
/-- The state of the loop. -/
structure Reading (w wr : World) (x : S34) (A : Option Addr) (c : Nat) (k : Nat) : Prop where
  b : Below w.heap.size w wr
  b1 : wr.heap[w.heap.size]? = some (.cells #[.string x.f0, .string x.f1, .slice A x.f2.length c] 34 (0, 0))
  b2 : ∃ z : Array Value, wr.heap[w.heap.size + 1]? = some (.cells z 78 (0, 0)) ∧ z.size = 38
  b3 : GrAt wr (w.heap.size + 2) (mkG x.f0 x.f1 (arcV (x.f2.take k)))
theorem Reading.below {w wr w' : World} {x : S34} {A : Option Addr} {c k : Nat} (h : Reading w wr x A c k) (hb : Below wr.heap.size wr w') : Reading w w' x A c k :=
  ⟨below_then h.b hb, row_below h.b1 hb, by obtain ⟨z, h1, h2⟩ := h.b2; exact ⟨z, row_below h1 hb, h2⟩, row_below h.b3 hb⟩
theorem run_max2 (a b : Int) (ats : Array TypeId) (ty : TypeId) (w : World) : (Builtin.max_ ats ty #[.int .u8 a, .int .u8 b]).run Try.prog w = .ok (.int .u8 (max a b)) w := by
  have h2 : ∀ x y : Int, Builtin.max2 (.int .u8 x) (.int .u8 y) = pure (.int .u8 (max x y)) := fun x y => by
    simp only [Builtin.max2, gt_iff_lt]
    congr 2
    split <;> omega
  have : Builtin.max_ ats ty #[.int .u8 a, .int .u8 b] = (Builtin.max2 (.int .u8 a) (.int .u8 b) >>= fun s => pure s) := by simp only [Builtin.max_, List.foldlM_cons, List.foldlM_nil]
  rw [this]
  simp only [Sem.run_bind, h2, Sem.run_pure, Result.andThen_ok]
theorem gC_ones (g : Gr) : ∀ v ∈ gC g, v.oneCell' = true := by
  intro v hv
  have h := gC_one g
  rw [List.all_toArray, List.all_eq_true] at h
  exact h v hv
theorem exec_build2 {o : Oper} {a : Act} {t : TypeId} {x y : Operand} {vx vy v : Value} {w : World} (ho : o.op = .build t #[(0, x), (1, y)]) (hx : a.eval x = vx) (hy : a.eval y = vy) (hr : (Instr.build t #[(0, vx), (1, vy)]).run Try.prog w = .ok v w) : (execOp a.eval o).run Try.prog w = .ok (.value v) w := by
  unfold execOp
  simp only [ho, List.map_toArray, List.map_cons, List.map_nil, hx, hy]
  exact run_val hr
def ReadPost (x : S34) (w : World) (e : Ending) (w' : World) : Prop := (∃ cs : List Value, e = .returned (.tuple #[.agg cs.toArray, .bool (callOk x)]) ∧ cs.length = 38 ∧ (∀ v ∈ cs, v.oneCell' = true) ∧ (callOk x = true → cs = gC (graphOf x))) ∧ Below w.heap.size w w'
theorem callOk_no {x : S34} {k : Nat} (hk : k < x.f2.length) (h : arcOk (x.f2.getD k z24) = false) : callOk x = false := by
  unfold callOk
  have : x.f2.all arcOk = false := by
    rw [List.all_eq_false]
    refine ⟨x.f2[k], List.getElem_mem _, ?_⟩
    rw [List.getD_eq_getElem?_getD, List.getElem?_eq_getElem hk] at h
    simpa using h
  rw [this]
  simp
theorem take_snoc' {l : List S24} {k : Nat} (hk : k < l.length) : l.take k ++ [l.getD k z24] = l.take (k + 1) := by
  rw [List.take_succ_eq_append_getElem hk, List.getD_eq_getElem?_getD, List.getElem?_eq_getElem hk]
  rfl
set_option maxHeartbeats 8000000 in
set_option maxRecDepth 100000 in
theorem read_calls (x : S34) (A : Option Addr) (c : Nat) (w : World) (hx : Kd.C k24 w A x.f2.length x.f2) (hc : x.f2.length ≤ c) (hs0 : x.f0.size ≤ maxLen) (hs1 : x.f1.size ≤ maxLen) :
    Calls Try.prog 39 #[.agg #[.string x.f0, .string x.f1, .slice A x.f2.length c]] w (ReadPost x w) := by
  have hu34 := Try.underlying34
  have hu24 := Try.underlying24
  have hu78 := Try.underlying78
  have hu76 := Try.underlying76
  have hu75 := Try.underlying75
  have hmax : x.f2.length ≤ 9223372036854775807 := hx.2.1
  have HX := Lib.hid hx
  have HS0 := Lib.hid hs0
  have HS1 := Lib.hid hs1
  obtain ⟨z, hzz⟩ : ∃ z, z = (gC g0).toArray := ⟨_, rfl⟩
  have hz78 : ∀ w, (zeroValue 78).run Try.prog w = .ok (.agg z) w := fun w => by rw [hzz]; exact zero78 w
  have HZ1 : Hid (z.size = 38) := Lib.hid (by rw [hzz]; rfl)
  have HZ2 : Hid (∀ v ∈ z.toList, v.oneCell' = true) := Lib.hid (by rw [hzz]; exact gC_ones g0)
  clear hx hc hs0 hs1 hzz
  obtain ⟨b0, hb0⟩ : ∃ b, b = w.heap.size := ⟨_, rfl⟩
  obtain ⟨o1, ho1⟩ : ∃ o, o = Obj.cells #[.string x.f0, .string x.f1, .slice A x.f2.length c] 34 (0, 0) := ⟨_, rfl⟩
  obtain ⟨W1, hW1⟩ : ∃ W1, W1 = (w.alloc (.cells #[.string x.f0, .string x.f1, .slice A x.f2.length c] 34)).alloc (.cells z 78) := ⟨_, rfl⟩
  have hsz1 : W1.heap.size = b0 + 2 := by rw [hW1, hb0]; simp
  have h1a : W1.heap[b0]? = some (.cells #[.string x.f0, .string x.f1, .slice A x.f2.length c] 34 (0, 0)) := by
    rw [hW1, hb0]
    exact row_below (heap_alloc_new w _) ((Below.refl _ _).alloc (Nat.le_refl _) _)
  have h1b : W1.heap[b0 + 1]? = some (.cells z 78 (0, 0)) := by
    have := heap_alloc_new (w.alloc (.cells #[.string x.f0, .string x.f1, .slice A x.f2.length c] 34)) (.cells z 78)
    rw [hW1, hb0]
    simpa using this
  have hbl1 : Below w.heap.size w W1 := by
    rw [hW1]
    exact ((Below.refl _ _).alloc (Nat.le_refl _) _).alloc (by simp) _
  obtain ⟨gz, hgz⟩ : ∃ gz, gz = gC (mkG x.f0 x.f1 fun _ _ => 0) := ⟨_, rfl⟩
  have hb78 : ∀ w5, (Instr.build 78 #[(0, .string x.f0), (1, .string x.f1)]).run Try.prog w5 = .ok (.agg gz.toArray) w5 := fun w5 => by rw [hgz]; exact build78 x.f0 x.f1 w5
  have hgl : gz.length = 38 := by rw [hgz]; simp [gC, mkG]
  have hst : (Instr.storeAt 78 (.pointer (some ⟨b0 + 2, 0, none⟩)) (.agg gz.toArray)).run Try.prog (W1.alloc (.cells z 78)) = .ok () (W1.alloc (.cells gz.toArray 78)) := by
    have := run_storeAt_row (w := W1.alloc (.cells z 78)) (b := b0 + 2) (ty := 78) (ty' := 78) (cs := gz) (z := z) (by rw [← hsz1]; exact heap_alloc_new W1 _) (by rw [HZ1.out, hgl]) (by
      rw [hgz]
      exact gC_ones _) (by rw [hgl]; exact info78)
    rw [this, ← hsz1, World.setRow_alloc_new]
  have R0 : Hid (Reading w (W1.alloc (.cells gz.toArray 78)) x A c 0) := Lib.hid (by
    have hbb : Below W1.heap.size W1 (W1.alloc (.cells gz.toArray 78)) := (Below.refl _ _).alloc (Nat.le_refl _) _
    refine ⟨below_then hbl1 hbb, ?_, ⟨z, ?_, HZ1.out⟩, ?_⟩
    · rw [← hb0]; exact row_below h1a hbb
    · rw [← hb0]; exact row_below h1b hbb
    · rw [← hb0, ← hsz1]
      have := heap_alloc_new W1 (.cells gz.toArray 78)
      rw [hgz] at this ⊢
      exact this)
  have c0 := cell_of_row _ _ 0 _ _ _ h1a
  have c1 := cell_of_row _ _ 1 _ _ _ h1a
  have HST := Lib.hid hst
  have HSZ := Lib.hid hsz1
  have HB0 := Lib.hid hb0
  have HGZ := Lib.hid hgz
  clear hst h1a h1b hbl1 hgl ho1 hgz
  go_enter Try.func39, Try.ntmps39
  go_upto_region 1 with fail
  rw [← hW1, ← hb0]
  clear hW1 hsz1 hb0
  refine wp_region_list ?_
  dsimp only [List.toList_toArray]
  refine wpList_val (v := .pointer (some ⟨b0, 0, none⟩)) (w' := W1) rfl (by go_simp) ?_
  refine wpList_val (v := .string x.f0) (w' := W1) rfl (by go_simp) ?_
  refine wpList_val (v := .pointer (some ⟨b0, 1, none⟩)) (w' := W1) rfl (by go_simp) ?_
  refine wpList_val (v := .string x.f1) (w' := W1) rfl (by go_simp) ?_
  refine wpList_val (v := .agg gz.toArray) (w' := W1) rfl (exec_build2 rfl rfl rfl (hb78 W1)) ?_
  refine wpList_val (v := .pointer (some ⟨b0 + 2, 0, none⟩)) (w' := W1.alloc (.cells z 78)) rfl (by have := HSZ.out; go_simp) ?_
  refine wpList_unit (w' := W1.alloc (.cells gz.toArray 78)) rfl (by exact run_u HST.out) ?_
  refine wpList_nil ?_
  simp only [Act.put, List.setIfInBounds_toArray, List.set_cons_zero, List.set_cons_succ]
  clear hb78 hz78 c0 c1
  obtain ⟨W3, hW3⟩ : ∃ W3, W3 = W1.alloc (.cells gz.toArray 78) := ⟨_, rfl⟩
  rw [← hW3] at R0 ⊢
  clear hW3 HST
  by_cases he0 : x.f0.toList = []
  · have e0 : x.f0.toList.isEmpty = true := by rw [he0]; rfl
    have CO : Hid (callOk x = false) := Lib.hid (by unfold callOk; rw [e0]; rfl)
    have c0 : W3.cell? ⟨b0, 0, none⟩ = some (.string x.f0) := by rw [HB0.out]; exact cell_of_row _ _ 0 _ _ _ R0.out.b1
    go_upto_region 3 with fail
    obtain ⟨zc, hzc1, hzc2⟩ := R0.out.b2
    rw [← HB0.out] at hzc1
    have hra := R0.out.b3.range
    rw [← HB0.out] at hra
    have hlk : (gC (mkG x.f0 x.f1 (arcV (x.f2.take 0)))).length = 38 := by simp [gC, mkG]
    have honek := gC_ones (mkG x.f0 x.f1 (arcV (x.f2.take 0)))
    have HBK := Lib.hid (R0.out.b)
    have HCK : Hid (callOk x = true → gC (mkG x.f0 x.f1 (arcV (x.f2.take 0))) = gC (graphOf x)) := Lib.hid (fun h => by rw [CO.out] at h; cases h)
    generalize gC (mkG x.f0 x.f1 (arcV (x.f2.take 0))) = ck at *
    have hst := run_storeAt_row (ty := 78) hzc1 (by rw [hzc2, hlk]) honek (by rw [hlk]; exact info78)
    have hrow := setRow_heap W3 (b0 + 1) zc ck.toArray 78 (0, 0) hzc1
    have HBS : Hid (Below w.heap.size w (W3.setRow (b0 + 1) ck.toArray)) := Lib.hid (below_setRow HBK.out (by rw [HB0.out]; omega) _)
    generalize hW9 : W3.setRow (b0 + 1) ck.toArray = W9 at *
    have HST := Lib.hid hst
    have HRW := Lib.hid hrow
    have HLK := Lib.hid hlk
    have HON := Lib.hid honek
    have HRA := Lib.hid hra
    clear hst hrow hlk honek hra hzc1 hzc2 hW9
    refine wp_region_list ?_
    dsimp only [List.toList_toArray]
    refine wpList_loadv rfl rfl rfl (run_loadAt_mid W3 (b0 + 2) 0 78 ck _ HRA.out hu78 rfl (by rw [HLK.out]; exact info78)) ?_
    refine wpList_unit (w' := W9) rfl (by exact run_u HST.out) ?_
    refine wpList_val (v := .bool false) (w' := W9) rfl (by go_simp) ?_
    refine wpList_nil ?_
    simp only [Act.put, List.setIfInBounds_toArray, List.set_cons_zero, List.set_cons_succ]
    go_wp2
    refine bodyPost_ret (results_cell_tmp rfl _ _ (b0 + 1) ck _ (.bool false) rfl (range_row HRW.out) hu78 rfl (by rw [HLK.out]; exact info78) rfl) rfl ?_
    exact ⟨⟨ck, by rw [CO.out], HLK.out, HON.out, HCK.out⟩, HBS.out⟩
  · have e0 : x.f0.toList.isEmpty = false := by simpa using he0
    have c0 : W3.cell? ⟨b0, 0, none⟩ = some (.string x.f0) := by rw [HB0.out]; exact cell_of_row _ _ 0 _ _ _ R0.out.b1
    have c1 : W3.cell? ⟨b0, 1, none⟩ = some (.string x.f1) := by rw [HB0.out]; exact cell_of_row _ _ 1 _ _ _ R0.out.b1
    by_cases he1 : x.f1.toList = []
    · have e1 : x.f1.toList.isEmpty = true := by rw [he1]; rfl
      have CO : Hid (callOk x = false) := Lib.hid (by unfold callOk; rw [e1]; simp)
      go_upto_region 3 with fail
      obtain ⟨zc, hzc1, hzc2⟩ := R0.out.b2
      rw [← HB0.out] at hzc1
      have hra := R0.out.b3.range
      rw [← HB0.out] at hra
      have hlk : (gC (mkG x.f0 x.f1 (arcV (x.f2.take 0)))).length = 38 := by simp [gC, mkG]
      have honek := gC_ones (mkG x.f0 x.f1 (arcV (x.f2.take 0)))
      have HBK := Lib.hid (R0.out.b)
      have HCK : Hid (callOk x = true → gC (mkG x.f0 x.f1 (arcV (x.f2.take 0))) = gC (graphOf x)) := Lib.hid (fun h => by rw [CO.out] at h; cases h)
      generalize gC (mkG x.f0 x.f1 (arcV (x.f2.take 0))) = ck at *
      have hst := run_storeAt_row (ty := 78) hzc1 (by rw [hzc2, hlk]) honek (by rw [hlk]; exact info78)
      have hrow := setRow_heap W3 (b0 + 1) zc ck.toArray 78 (0, 0) hzc1
      have HBS : Hid (Below w.heap.size w (W3.setRow (b0 + 1) ck.toArray)) := Lib.hid (below_setRow HBK.out (by rw [HB0.out]; omega) _)
      generalize hW9 : W3.setRow (b0 + 1) ck.toArray = W9 at *
      have HST := Lib.hid hst
      have HRW := Lib.hid hrow
      have HLK := Lib.hid hlk
      have HON := Lib.hid honek
      have HRA := Lib.hid hra
      clear hst hrow hlk honek hra hzc1 hzc2 hW9
      refine wp_region_list ?_
      dsimp only [List.toList_toArray]
      refine wpList_loadv rfl rfl rfl (run_loadAt_mid W3 (b0 + 2) 0 78 ck _ HRA.out hu78 rfl (by rw [HLK.out]; exact info78)) ?_
      refine wpList_unit (w' := W9) rfl (by exact run_u HST.out) ?_
      refine wpList_val (v := .bool false) (w' := W9) rfl (by go_simp) ?_
      refine wpList_nil ?_
      simp only [Act.put, List.setIfInBounds_toArray, List.set_cons_zero, List.set_cons_succ]
      go_wp2
      refine bodyPost_ret (results_cell_tmp rfl _ _ (b0 + 1) ck _ (.bool false) rfl (range_row HRW.out) hu78 rfl (by rw [HLK.out]; exact info78) rfl) rfl ?_
      exact ⟨⟨ck, by rw [CO.out], HLK.out, HON.out, HCK.out⟩, HBS.out⟩
    · have e1 : x.f1.toList.isEmpty = false := by simpa using he1
      have c2 : W3.cell? ⟨b0, 2, none⟩ = some (.slice A x.f2.length c) := by rw [HB0.out]; exact cell_of_row _ _ 2 _ _ _ R0.out.b1
      have CN : Hid (callOk x = x.f2.all arcOk) := Lib.hid (by unfold callOk; rw [e0, e1]; rfl)
      go_wp2
      clear c0 c1 c2 e0 e1 he0 he1
      go_loopg [25] x.f2.length (fun n v25 wr => ∃ k : Nat, v25 = .int .i64 k ∧ Hid (k ≤ x.f2.length) ∧ Hid (n = x.f2.length - k) ∧ Hid (Reading w wr x A c k) ∧ Hid (∀ j, j < k → arcOk (x.f2.getD j z24) = true))
      case atStart => exact ⟨0, rfl, Lib.hid (by omega), Lib.hid rfl, R0, Lib.hid (by omega)⟩
      case round =>
        clear R0
        obtain ⟨k, rfl, HK, HN, RK, HA⟩ := hrel
        by_cases hk : k < x.f2.length
        · have hkb : decide ((k : Int) < (x.f2.length : Int)) = true := decide_eq_true (by omega)
          have hk' : k + 1 ≤ 9223372036854775807 := by omega
          obtain ⟨ad, rfl, a0, a1, a2⟩ := at_T24 HX.out (k : Int) (by omega) (by omega)
          have EA : Hid (rd_T24 x.f2 (k : Int) = x.f2.getD k z24) := Lib.hid (by rw [rd_T24, Int.toNat_natCast])
          rw [EA.out, Int.toNat_natCast] at a0 a1 a2
          have a0 := cellB RK.out.b a0
          have a1 := cellB RK.out.b a1
          have a2 := cellB RK.out.b a2
          have NO : Hid (arcOk (x.f2.getD k z24) = false → callOk x = false) := Lib.hid (callOk_no hk)
          have SN : Hid (x.f2.take k ++ [x.f2.getD k z24] = x.f2.take (k + 1)) := Lib.hid (take_snoc' hk)
          have AK : Hid (arcOk (x.f2.getD k z24) = true → ∀ j, j < k + 1 → arcOk (x.f2.getD j z24) = true) := Lib.hid (fun h j hj => by
            by_cases e : j = k
            · rw [e]
              exact h
            · exact HA.out j (by omega))
          clear EA
          generalize x.f2.getD k z24 = aa at a0 a1 a2 NO SN AK
          obtain ⟨f0, f1, f2⟩ := aa
          simp only at a0 a1 a2
          by_cases hok : 0 ≤ f0 ∧ f0 < 6 ∧ 0 ≤ f1 ∧ f1 < 6
          · obtain ⟨p1, p2, p3, p4⟩ := hok
            have OKA : Hid (arcOk ⟨f0, f1, f2⟩ = true) := Lib.hid (by
              unfold arcOk
              simp only
              rw [decide_eq_true p1, decide_eq_true p2, decide_eq_true p3, decide_eq_true p4]
              rfl)
            obtain ⟨i, rfl⟩ : ∃ i : Nat, f0 = i := ⟨f0.toNat, by omega⟩
            obtain ⟨j, rfl⟩ : ∃ j : Nat, f1 = j := ⟨f1.toNat, by omega⟩
            have hi6 : i < 6 := by omega
            have hj6 : j < 6 := by omega
            have q1 : decide ((i : Int) < 0) = false := decide_eq_false (by omega)
            have q2 : decide ((6 : Int) ≤ (i : Int)) = false := decide_eq_false (by omega)
            have q3 : decide ((j : Int) < 0) = false := decide_eq_false (by omega)
            have q4 : decide ((6 : Int) ≤ (j : Int)) = false := decide_eq_false (by omega)
            have R2 : Hid (Reading w (wr.alloc (.cells #[.int .i64 i, .int .i64 j, .bool f2] 24)) x (some ad) c k) := Lib.hid (RK.out.below ((Below.refl _ _).alloc (Nat.le_refl _) _))
            obtain ⟨b8, hb8⟩ : ∃ b, b = wr.heap.size := ⟨_, rfl⟩
            have hrow8 := heap_alloc_new wr (.cells #[.int .i64 i, .int .i64 j, .bool f2] 24)
            rw [← hb8] at hrow8
            have HB8 := Lib.hid hb8
            cases f2 with
            | true =>
              go_upto_region 12 with fail
              clear a0 a1 a2
              rw [← HB8.out]
              clear hb8
              have c0 := cell_of_row _ _ 0 _ _ _ hrow8
              have c1 := cell_of_row _ _ 1 _ _ _ hrow8
              have hcell := (R2.out.b3).cell (mkG_ok (arcV_bound _) HS0.out HS1.out) hi6 hj6
              have hfro := frozen_of_row _ _ (2 + i * 6 + j) _ _ (R2.out.b3)
              rw [mkG_at _ _ _ hi6 hj6] at hcell
              rw [← HB0.out] at hcell hfro
              have hset := R2.out.b3.set hi6 hj6 (max (arcV (x.f2.take k) i j) 2)
              have hcg : mkG x.f0 x.f1 (updF (arcV (x.f2.take k)) i j (max (arcV (x.f2.take k) i j) 2)) = mkG x.f0 x.f1 (arcV (x.f2.take (k + 1))) := mkG_congr fun i' k' _ _ => by
                rw [← SN.out]
                exact arcV_upd (x.f2.take k) ⟨i, j, true⟩ i j rfl rfl i' k'
              rw [hcg] at hset
              have hmx : ∀ ats ty w, (Builtin.max_ ats ty #[.int .u8 (arcV (x.f2.take k) i j), .int .u8 2]).run Try.prog w = .ok (.int .u8 (max (arcV (x.f2.take k) i j) 2)) w := fun ats ty w => run_max2 _ _ _ _ _
              have hba := arcV_bound (x.f2.take k) i j
              generalize arcV (x.f2.take k) i j = m at *
              generalize hM : max m 2 = M at *
              have R3 : Hid (Reading w ((wr.alloc (.cells #[.int .i64 i, .int .i64 j, .bool true] 24)).drew.setCell ⟨b0 + 2, 2 + i * 6 + j, none⟩ (.int .u8 M)) x (some ad) c (k + 1)) := Lib.hid (by
                have ne1 : w.heap.size ≠ b0 + 2 := by rw [HB0.out]; omega
                have ne2 : w.heap.size + 1 ≠ b0 + 2 := by rw [HB0.out]; omega
                obtain ⟨zc, hz1, hz2⟩ := R2.out.b2
                refine ⟨(below_drewN R2.out.b 1).setCell (p := ⟨b0 + 2, 2 + i * 6 + j, none⟩) (by rw [HB0.out]; show _ ≤ w.heap.size + 2; omega) _, ?_, ⟨zc, ?_, hz2⟩, ?_⟩
                · rw [heap_setCell_other _ _ _ _ (by exact ne1)]
                  exact R2.out.b1
                · rw [heap_setCell_other _ _ _ _ (by exact ne2)]
                  exact hz1
                · rw [HB0.out]
                  exact hset)
              have HSET := Lib.hid hset
              clear hset hcg hM hrow8 R2
              generalize wr.alloc (.cells #[.int .i64 i, .int .i64 j, .bool true] 24) = W8 at *
              obtain ⟨wd, hwd⟩ : ∃ wd, wd = W8.drew := ⟨_, rfl⟩
              obtain ⟨we, hwe⟩ : ∃ we, we = W8.drew.setCell ⟨b0 + 2, 2 + i * 6 + j, none⟩ (.int .u8 M) := ⟨_, rfl⟩
              have c0 : wd.cell? ⟨b8, 0, none⟩ = some (.int .i64 i) := by rw [hwd]; exact c0
              have c1 : wd.cell? ⟨b8, 1, none⟩ = some (.int .i64 j) := by rw [hwd]; exact c1
              have hcell : wd.cell? ⟨b0 + 2, 2 + i * 6 + j, none⟩ = some (.int .u8 m) := by rw [hwd]; exact hcell
              have hfro : wd.frozen? ⟨b0 + 2, 2 + i * 6 + j, none⟩ = false := by rw [hwd]; exact hfro
              rw [← hwe] at R3
              rw [← hwd] at hwe
              have n1 : (0 : Int) ≤ (i : Int) := by omega
              have n2 : (i : Int) < 6 := by omega
              have n3 : (0 : Int) ≤ (j : Int) := by omega
              have n4 : (j : Int) < 6 := by omega
              have HWD := Lib.hid hwd
              have HWE := Lib.hid hwe
              clear hwd hwe hba q1 q2 q3 q4 hkb
              let R : Nat → Value → World → Prop := fun ixx v w' => match ixx with
                | 0 => v = .pointer (some ⟨b8, 0, none⟩)
                | 1 => v = .int .i64 i
                | 2 => v = .pointer (some ⟨b8, 1, none⟩)
                | 3 => v = .int .i64 j
                | 4 => v = .pointer (some ⟨b8, 0, none⟩)
                | 5 => v = .int .i64 i
                | 6 => v = .pointer (some ⟨b8, 1, none⟩)
                | 7 => v = .int .i64 j
                | 8 => v = .pointer (some ⟨b0 + 2, 2, none⟩)
                | 9 => v = .pointer (some ⟨b0 + 2, 2 + i * 6, none⟩)
                | 10 => v = .pointer (some ⟨b0 + 2, 2 + i * 6 + j, none⟩)
                | 11 => v = .int .u8 m
                | 12 => v = .int .u8 2
                | 13 => v = .int .u8 M
                | 14 => v = .pointer (some ⟨b0 + 2, 2, none⟩)
                | 15 => v = .pointer (some ⟨b0 + 2, 2 + i * 6, none⟩)
                | 16 => v = .pointer (some ⟨b0 + 2, 2 + i * 6 + j, none⟩)
                | _ => True
              refine wp_region_mark (I := fun bb w' => w' = if bb then we else wd) (R := R) (T := fun _ _ => True) 17 (by decide) (by kernel_rfl) (by kernel_rfl) (by kernel_rfl) ?_ ?_ ?_ ?_
              · intro jxx v w1 w2 _ h
                rcases jxx with _ | _ | _ | _ | _ | _ | _ | _ | _ | _ | _ | _ | _ | _ | _ | _ | _ | _ | jxx <;> exact h
              · exact HWD.out.symm
              · intro ixx hlt bmk a w1 hb up
                have HI := Lib.hid hlt
                clear hlt
                have UP := Lib.hid up
                clear up
                rcases ixx with _ | _ | _ | _ | _ | _ | _ | _ | _ | _ | _ | _ | _ | _ | _ | _ | _ | _ | ixx
                · obtain rfl : bmk = false := hb (.inr (by kernel_rfl))
                  obtain rfl : w1 = wd := UP.out.inv
                  have h6 : a.tmps.getD 6 undef = .pointer (some ⟨b8, 0, none⟩) := UP.out.before 6 (by kernel_rfl)
                  exact wpOp_value (v := .pointer (some ⟨b8, 0, none⟩)) rfl (by kernel_rfl) (by go_simp) ⟨_, rfl, trivial, rfl, rfl⟩
                · obtain rfl : bmk = false := hb (.inr (by kernel_rfl))
                  obtain rfl : w1 = wd := UP.out.inv
                  have h50 : a.tmps.getD 50 undef = .pointer (some ⟨b8, 0, none⟩) := UP.out.dep 0 (by kernel_rfl)
                  exact wpOp_value (v := .int .i64 i) rfl (by kernel_rfl) (by go_simp) ⟨_, rfl, trivial, rfl, rfl⟩
                · obtain rfl : bmk = false := hb (.inr (by kernel_rfl))
                  obtain rfl : w1 = wd := UP.out.inv
                  have h6 : a.tmps.getD 6 undef = .pointer (some ⟨b8, 0, none⟩) := UP.out.before 6 (by kernel_rfl)
                  exact wpOp_value (v := .pointer (some ⟨b8, 1, none⟩)) rfl (by kernel_rfl) (by go_simp) ⟨_, rfl, trivial, rfl, rfl⟩
                · obtain rfl : bmk = false := hb (.inr (by kernel_rfl))
                  obtain rfl : w1 = wd := UP.out.inv
                  have h52 : a.tmps.getD 52 undef = .pointer (some ⟨b8, 1, none⟩) := UP.out.dep 2 (by kernel_rfl)
                  exact wpOp_value (v := .int .i64 j) rfl (by kernel_rfl) (by go_simp) ⟨_, rfl, trivial, rfl, rfl⟩
                · obtain rfl : bmk = false := hb (.inr (by kernel_rfl))
                  obtain rfl : w1 = wd := UP.out.inv
                  have h6 : a.tmps.getD 6 undef = .pointer (some ⟨b8, 0, none⟩) := UP.out.before 6 (by kernel_rfl)
                  exact wpOp_value (v := .pointer (some ⟨b8, 0, none⟩)) rfl (by kernel_rfl) (by go_simp) ⟨_, rfl, trivial, rfl, rfl⟩
                · obtain rfl : bmk = false := hb (.inr (by kernel_rfl))
                  obtain rfl : w1 = wd := UP.out.inv
                  have h54 : a.tmps.getD 54 undef = .pointer (some ⟨b8, 0, none⟩) := UP.out.dep 4 (by kernel_rfl)
                  exact wpOp_value (v := .int .i64 i) rfl (by kernel_rfl) (by go_simp) ⟨_, rfl, trivial, rfl, rfl⟩
                · obtain rfl : bmk = false := hb (.inr (by kernel_rfl))
                  obtain rfl : w1 = wd := UP.out.inv
                  have h6 : a.tmps.getD 6 undef = .pointer (some ⟨b8, 0, none⟩) := UP.out.before 6 (by kernel_rfl)
                  exact wpOp_value (v := .pointer (some ⟨b8, 1, none⟩)) rfl (by kernel_rfl) (by go_simp) ⟨_, rfl, trivial, rfl, rfl⟩
                · obtain rfl : bmk = false := hb (.inr (by kernel_rfl))
                  obtain rfl : w1 = wd := UP.out.inv
                  have h56 : a.tmps.getD 56 undef = .pointer (some ⟨b8, 1, none⟩) := UP.out.dep 6 (by kernel_rfl)
                  exact wpOp_value (v := .int .i64 j) rfl (by kernel_rfl) (by go_simp) ⟨_, rfl, trivial, rfl, rfl⟩
                · obtain rfl : bmk = false := hb (.inr (by kernel_rfl))
                  obtain rfl : w1 = wd := UP.out.inv
                  have h4 : a.tmps.getD 4 undef = .pointer (some ⟨b0 + 2, 0, none⟩) := UP.out.before 4 (by kernel_rfl)
                  exact wpOp_value (v := .pointer (some ⟨b0 + 2, 2, none⟩)) rfl (by kernel_rfl) (by go_simp) ⟨_, rfl, trivial, rfl, rfl⟩
                · obtain rfl : bmk = false := hb (.inr (by kernel_rfl))
                  obtain rfl : w1 = wd := UP.out.inv
                  have h58 : a.tmps.getD 58 undef = .pointer (some ⟨b0 + 2, 2, none⟩) := UP.out.dep 8 (by kernel_rfl)
                  have h55 : a.tmps.getD 55 undef = .int .i64 i := UP.out.dep 5 (by kernel_rfl)
                  exact wpOp_value (v := .pointer (some ⟨b0 + 2, 2 + i * 6, none⟩)) rfl (by kernel_rfl) (by go_simp) ⟨_, rfl, trivial, rfl, rfl⟩
                · obtain rfl : bmk = false := hb (.inr (by kernel_rfl))
                  obtain rfl : w1 = wd := UP.out.inv
                  have h59 : a.tmps.getD 59 undef = .pointer (some ⟨b0 + 2, 2 + i * 6, none⟩) := UP.out.dep 9 (by kernel_rfl)
                  have h57 : a.tmps.getD 57 undef = .int .i64 j := UP.out.dep 7 (by kernel_rfl)
                  exact wpOp_value (v := .pointer (some ⟨b0 + 2, 2 + i * 6 + j, none⟩)) rfl (by kernel_rfl) (by go_simp) ⟨_, rfl, trivial, rfl, rfl⟩
                · obtain rfl : bmk = false := hb (.inr (by kernel_rfl))
                  obtain rfl : w1 = wd := UP.out.inv
                  have h60 : a.tmps.getD 60 undef = .pointer (some ⟨b0 + 2, 2 + i * 6 + j, none⟩) := UP.out.dep 10 (by kernel_rfl)
                  exact wpOp_value (v := .int .u8 m) rfl (by kernel_rfl) (by go_simp) ⟨_, rfl, trivial, rfl, rfl⟩
                · obtain rfl : bmk = false := hb (.inr (by kernel_rfl))
                  obtain rfl : w1 = wd := UP.out.inv
                  have h7 : a.tmps.getD 7 undef = .int .u8 2 := UP.out.before 7 (by kernel_rfl)
                  exact wpOp_value (v := .int .u8 2) rfl (by kernel_rfl) (by go_simp) ⟨_, rfl, trivial, rfl, rfl⟩
                · obtain rfl : bmk = false := hb (.inr (by kernel_rfl))
                  obtain rfl : w1 = wd := UP.out.inv
                  have h61 : a.tmps.getD 61 undef = .int .u8 m := UP.out.dep 11 (by kernel_rfl)
                  have h62 : a.tmps.getD 62 undef = .int .u8 2 := UP.out.dep 12 (by kernel_rfl)
                  exact wpOp_value (v := .int .u8 M) rfl (by kernel_rfl) (by go_simp) ⟨_, rfl, trivial, rfl, rfl⟩
                · have h4 : a.tmps.getD 4 undef = .pointer (some ⟨b0 + 2, 0, none⟩) := UP.out.before 4 (by kernel_rfl)
                  exact wpOp_value (v := .pointer (some ⟨b0 + 2, 2, none⟩)) rfl (by kernel_rfl) (by go_simp) ⟨_, rfl, trivial, UP.out.inv, rfl⟩
                · have h64 : a.tmps.getD 64 undef = .pointer (some ⟨b0 + 2, 2, none⟩) := UP.out.dep 14 (by kernel_rfl)
                  have h51 : a.tmps.getD 51 undef = .int .i64 i := UP.out.dep 1 (by kernel_rfl)
                  exact wpOp_value (v := .pointer (some ⟨b0 + 2, 2 + i * 6, none⟩)) rfl (by kernel_rfl) (by go_simp) ⟨_, rfl, trivial, UP.out.inv, rfl⟩
                · obtain rfl : bmk = false := hb (.inr (by kernel_rfl))
                  obtain rfl : w1 = wd := UP.out.inv
                  have h65 : a.tmps.getD 65 undef = .pointer (some ⟨b0 + 2, 2 + i * 6, none⟩) := UP.out.dep 15 (by kernel_rfl)
                  have h53 : a.tmps.getD 53 undef = .int .i64 j := UP.out.dep 3 (by kernel_rfl)
                  exact wpOp_value (v := .pointer (some ⟨b0 + 2, 2 + i * 6 + j, none⟩)) rfl (by kernel_rfl) (by go_simp) ⟨_, rfl, trivial, rfl, rfl⟩
                · have h66 : a.tmps.getD 66 undef = .pointer (some ⟨b0 + 2, 2 + i * 6 + j, none⟩) := UP.out.dep 16 (by kernel_rfl)
                  have h63 : a.tmps.getD 63 undef = .int .u8 M := UP.out.dep 13 (by kernel_rfl)
                  obtain rfl : bmk = false := hb (.inl rfl)
                  obtain rfl : w1 = wd := UP.out.inv
                  refine wpOp_run rfl (by kernel_rfl) ?_
                  go_simp
                  exact ⟨undef, rfl, HWE.out.symm, trivial⟩
                · exact absurd HI.out (by simp)
              · intro vs w' hinv hR
                have r0 : vs 0 = .pointer (some ⟨b8, 0, none⟩) := hR 0 (by decide)
                have r1 : vs 1 = .int .i64 i := hR 1 (by decide)
                have r2 : vs 2 = .pointer (some ⟨b8, 1, none⟩) := hR 2 (by decide)
                have r3 : vs 3 = .int .i64 j := hR 3 (by decide)
                have r4 : vs 4 = .pointer (some ⟨b8, 0, none⟩) := hR 4 (by decide)
                have r5 : vs 5 = .int .i64 i := hR 5 (by decide)
                have r6 : vs 6 = .pointer (some ⟨b8, 1, none⟩) := hR 6 (by decide)
                have r7 : vs 7 = .int .i64 j := hR 7 (by decide)
                have r8 : vs 8 = .pointer (some ⟨b0 + 2, 2, none⟩) := hR 8 (by decide)
                have r9 : vs 9 = .pointer (some ⟨b0 + 2, 2 + i * 6, none⟩) := hR 9 (by decide)
                have r10 : vs 10 = .pointer (some ⟨b0 + 2, 2 + i * 6 + j, none⟩) := hR 10 (by decide)
                have r11 : vs 11 = .int .u8 m := hR 11 (by decide)
                have r12 : vs 12 = .int .u8 2 := hR 12 (by decide)
                have r13 : vs 13 = .int .u8 M := hR 13 (by decide)
                have r14 : vs 14 = .pointer (some ⟨b0 + 2, 2, none⟩) := hR 14 (by decide)
                have r15 : vs 15 = .pointer (some ⟨b0 + 2, 2 + i * 6, none⟩) := hR 15 (by decide)
                have r16 : vs 16 = .pointer (some ⟨b0 + 2, 2 + i * 6 + j, none⟩) := hR 16 (by decide)
                simp only [putFrom, Act.put, List.setIfInBounds_toArray, List.set_cons_zero, List.set_cons_succ, r0, r1, r2, r3, r4, r5, r6, r7, r8, r9, r10, r11, r12, r13, r14, r15, r16]
                have HV := Lib.hid hinv
                have HR := Lib.hid hR
                clear hinv hR r0 r1 r2 r3 r4 r5 r6 r7 r8 r9 r10 r11 r12 r13 r14 r15 r16
                have hfin : w' = we := HV.out
                subst hfin
                go_wp2
                go_roundg (x.f2.length - (k + 1))
                case measure => have := HN.out; omega
                case rel => exact ⟨k + 1, by go_num, Lib.hid (by omega), Lib.hid rfl, R3, Lib.hid (AK.out OKA.out)⟩
            | false =>
              go_upto_region 12 with fail
              clear a0 a1 a2
              rw [← HB8.out]
              clear hb8
              have c0 := cell_of_row _ _ 0 _ _ _ hrow8
              have c1 := cell_of_row _ _ 1 _ _ _ hrow8
              have hcell := (R2.out.b3).cell (mkG_ok (arcV_bound _) HS0.out HS1.out) hi6 hj6
              have hfro := frozen_of_row _ _ (2 + i * 6 + j) _ _ (R2.out.b3)
              rw [mkG_at _ _ _ hi6 hj6] at hcell
              rw [← HB0.out] at hcell hfro
              have hset := R2.out.b3.set hi6 hj6 (max (arcV (x.f2.take k) i j) 1)
              have hcg : mkG x.f0 x.f1 (updF (arcV (x.f2.take k)) i j (max (arcV (x.f2.take k) i j) 1)) = mkG x.f0 x.f1 (arcV (x.f2.take (k + 1))) := mkG_congr fun i' k' _ _ => by
                rw [← SN.out]
                exact arcV_upd (x.f2.take k) ⟨i, j, false⟩ i j rfl rfl i' k'
              rw [hcg] at hset
              have hmx : ∀ ats ty w, (Builtin.max_ ats ty #[.int .u8 (arcV (x.f2.take k) i j), .int .u8 1]).run Try.prog w = .ok (.int .u8 (max (arcV (x.f2.take k) i j) 1)) w := fun ats ty w => run_max2 _ _ _ _ _
              have hba := arcV_bound (x.f2.take k) i j
              generalize arcV (x.f2.take k) i j = m at *
              generalize hM : max m 1 = M at *
              have R3 : Hid (Reading w ((wr.alloc (.cells #[.int .i64 i, .int .i64 j, .bool false] 24)).drew.setCell ⟨b0 + 2, 2 + i * 6 + j, none⟩ (.int .u8 M)) x (some ad) c (k + 1)) := Lib.hid (by
                have ne1 : w.heap.size ≠ b0 + 2 := by rw [HB0.out]; omega
                have ne2 : w.heap.size + 1 ≠ b0 + 2 := by rw [HB0.out]; omega
                obtain ⟨zc, hz1, hz2⟩ := R2.out.b2
                refine ⟨(below_drewN R2.out.b 1).setCell (p := ⟨b0 + 2, 2 + i * 6 + j, none⟩) (by rw [HB0.out]; show _ ≤ w.heap.size + 2; omega) _, ?_, ⟨zc, ?_, hz2⟩, ?_⟩
                · rw [heap_setCell_other _ _ _ _ (by exact ne1)]
                  exact R2.out.b1
                · rw [heap_setCell_other _ _ _ _ (by exact ne2)]
                  exact hz1
                · rw [HB0.out]
                  exact hset)
              have HSET := Lib.hid hset
              clear hset hcg hM hrow8 R2
              generalize wr.alloc (.cells #[.int .i64 i, .int .i64 j, .bool false] 24) = W8 at *
              obtain ⟨wd, hwd⟩ : ∃ wd, wd = W8.drew := ⟨_, rfl⟩
              obtain ⟨we, hwe⟩ : ∃ we, we = W8.drew.setCell ⟨b0 + 2, 2 + i * 6 + j, none⟩ (.int .u8 M) := ⟨_, rfl⟩
              have c0 : wd.cell? ⟨b8, 0, none⟩ = some (.int .i64 i) := by rw [hwd]; exact c0
              have c1 : wd.cell? ⟨b8, 1, none⟩ = some (.int .i64 j) := by rw [hwd]; exact c1
              have hcell : wd.cell? ⟨b0 + 2, 2 + i * 6 + j, none⟩ = some (.int .u8 m) := by rw [hwd]; exact hcell
              have hfro : wd.frozen? ⟨b0 + 2, 2 + i * 6 + j, none⟩ = false := by rw [hwd]; exact hfro
              rw [← hwe] at R3
              rw [← hwd] at hwe
              have n1 : (0 : Int) ≤ (i : Int) := by omega
              have n2 : (i : Int) < 6 := by omega
              have n3 : (0 : Int) ≤ (j : Int) := by omega
              have n4 : (j : Int) < 6 := by omega
              have HWD := Lib.hid hwd
              have HWE := Lib.hid hwe
              clear hwd hwe hba q1 q2 q3 q4 hkb
              let R : Nat → Value → World → Prop := fun ixx v w' => match ixx with
                | 0 => v = .pointer (some ⟨b8, 0, none⟩)
                | 1 => v = .int .i64 i
                | 2 => v = .pointer (some ⟨b8, 1, none⟩)
                | 3 => v = .int .i64 j
                | 4 => v = .pointer (some ⟨b8, 0, none⟩)
                | 5 => v = .int .i64 i
                | 6 => v = .pointer (some ⟨b8, 1, none⟩)
                | 7 => v = .int .i64 j
                | 8 => v = .pointer (some ⟨b0 + 2, 2, none⟩)
                | 9 => v = .pointer (some ⟨b0 + 2, 2 + i * 6, none⟩)
                | 10 => v = .pointer (some ⟨b0 + 2, 2 + i * 6 + j, none⟩)
                | 11 => v = .int .u8 m
                | 12 => v = .int .u8 1
                | 13 => v = .int .u8 M
                | 14 => v = .pointer (some ⟨b0 + 2, 2, none⟩)
                | 15 => v = .pointer (some ⟨b0 + 2, 2 + i * 6, none⟩)
                | 16 => v = .pointer (some ⟨b0 + 2, 2 + i * 6 + j, none⟩)
                | _ => True
              refine wp_region_mark (I := fun bb w' => w' = if bb then we else wd) (R := R) (T := fun _ _ => True) 17 (by decide) (by kernel_rfl) (by kernel_rfl) (by kernel_rfl) ?_ ?_ ?_ ?_
              · intro jxx v w1 w2 _ h
                rcases jxx with _ | _ | _ | _ | _ | _ | _ | _ | _ | _ | _ | _ | _ | _ | _ | _ | _ | _ | jxx <;> exact h
              · exact HWD.out.symm
              · intro ixx hlt bmk a w1 hb up
                have HI := Lib.hid hlt
                clear hlt
                have UP := Lib.hid up
                clear up
                rcases ixx with _ | _ | _ | _ | _ | _ | _ | _ | _ | _ | _ | _ | _ | _ | _ | _ | _ | _ | ixx
                · obtain rfl : bmk = false := hb (.inr (by kernel_rfl))
                  obtain rfl : w1 = wd := UP.out.inv
                  have h6 : a.tmps.getD 6 undef = .pointer (some ⟨b8, 0, none⟩) := UP.out.before 6 (by kernel_rfl)
                  exact wpOp_value (v := .pointer (some ⟨b8, 0, none⟩)) rfl (by kernel_rfl) (by go_simp) ⟨_, rfl, trivial, rfl, rfl⟩
                · obtain rfl : bmk = false := hb (.inr (by kernel_rfl))
                  obtain rfl : w1 = wd := UP.out.inv
                  have h50 : a.tmps.getD 50 undef = .pointer (some ⟨b8, 0, none⟩) := UP.out.dep 0 (by kernel_rfl)
                  exact wpOp_value (v := .int .i64 i) rfl (by kernel_rfl) (by go_simp) ⟨_, rfl, trivial, rfl, rfl⟩
                · obtain rfl : bmk = false := hb (.inr (by kernel_rfl))
                  obtain rfl : w1 = wd := UP.out.inv
                  have h6 : a.tmps.getD 6 undef = .pointer (some ⟨b8, 0, none⟩) := UP.out.before 6 (by kernel_rfl)
                  exact wpOp_value (v := .pointer (some ⟨b8, 1, none⟩)) rfl (by kernel_rfl) (by go_simp) ⟨_, rfl, trivial, rfl, rfl⟩
                · obtain rfl : bmk = false := hb (.inr (by kernel_rfl))
                  obtain rfl : w1 = wd := UP.out.inv
                  have h52 : a.tmps.getD 52 undef = .pointer (some ⟨b8, 1, none⟩) := UP.out.dep 2 (by kernel_rfl)
                  exact wpOp_value (v := .int .i64 j) rfl (by kernel_rfl) (by go_simp) ⟨_, rfl, trivial, rfl, rfl⟩
                · obtain rfl : bmk = false := hb (.inr (by kernel_rfl))
                  obtain rfl : w1 = wd := UP.out.inv
                  have h6 : a.tmps.getD 6 undef = .pointer (some ⟨b8, 0, none⟩) := UP.out.before 6 (by kernel_rfl)
                  exact wpOp_value (v := .pointer (some ⟨b8, 0, none⟩)) rfl (by kernel_rfl) (by go_simp) ⟨_, rfl, trivial, rfl, rfl⟩
                · obtain rfl : bmk = false := hb (.inr (by kernel_rfl))
                  obtain rfl : w1 = wd := UP.out.inv
                  have h54 : a.tmps.getD 54 undef = .pointer (some ⟨b8, 0, none⟩) := UP.out.dep 4 (by kernel_rfl)
                  exact wpOp_value (v := .int .i64 i) rfl (by kernel_rfl) (by go_simp) ⟨_, rfl, trivial, rfl, rfl⟩
                · obtain rfl : bmk = false := hb (.inr (by kernel_rfl))
                  obtain rfl : w1 = wd := UP.out.inv
                  have h6 : a.tmps.getD 6 undef = .pointer (some ⟨b8, 0, none⟩) := UP.out.before 6 (by kernel_rfl)
                  exact wpOp_value (v := .pointer (some ⟨b8, 1, none⟩)) rfl (by kernel_rfl) (by go_simp) ⟨_, rfl, trivial, rfl, rfl⟩
                · obtain rfl : bmk = false := hb (.inr (by kernel_rfl))
                  obtain rfl : w1 = wd := UP.out.inv
                  have h56 : a.tmps.getD 56 undef = .pointer (some ⟨b8, 1, none⟩) := UP.out.dep 6 (by kernel_rfl)
                  exact wpOp_value (v := .int .i64 j) rfl (by kernel_rfl) (by go_simp) ⟨_, rfl, trivial, rfl, rfl⟩
                · obtain rfl : bmk = false := hb (.inr (by kernel_rfl))
                  obtain rfl : w1 = wd := UP.out.inv
                  have h4 : a.tmps.getD 4 undef = .pointer (some ⟨b0 + 2, 0, none⟩) := UP.out.before 4 (by kernel_rfl)
                  exact wpOp_value (v := .pointer (some ⟨b0 + 2, 2, none⟩)) rfl (by kernel_rfl) (by go_simp) ⟨_, rfl, trivial, rfl, rfl⟩
                · obtain rfl : bmk = false := hb (.inr (by kernel_rfl))
                  obtain rfl : w1 = wd := UP.out.inv
                  have h58 : a.tmps.getD 58 undef = .pointer (some ⟨b0 + 2, 2, none⟩) := UP.out.dep 8 (by kernel_rfl)
                  have h55 : a.tmps.getD 55 undef = .int .i64 i := UP.out.dep 5 (by kernel_rfl)
                  exact wpOp_value (v := .pointer (some ⟨b0 + 2, 2 + i * 6, none⟩)) rfl (by kernel_rfl) (by go_simp) ⟨_, rfl, trivial, rfl, rfl⟩
                · obtain rfl : bmk = false := hb (.inr (by kernel_rfl))
                  obtain rfl : w1 = wd := UP.out.inv
                  have h59 : a.tmps.getD 59 undef = .pointer (some ⟨b0 + 2, 2 + i * 6, none⟩) := UP.out.dep 9 (by kernel_rfl)
                  have h57 : a.tmps.getD 57 undef = .int .i64 j := UP.out.dep 7 (by kernel_rfl)
                  exact wpOp_value (v := .pointer (some ⟨b0 + 2, 2 + i * 6 + j, none⟩)) rfl (by kernel_rfl) (by go_simp) ⟨_, rfl, trivial, rfl, rfl⟩
                · obtain rfl : bmk = false := hb (.inr (by kernel_rfl))
                  obtain rfl : w1 = wd := UP.out.inv
                  have h60 : a.tmps.getD 60 undef = .pointer (some ⟨b0 + 2, 2 + i * 6 + j, none⟩) := UP.out.dep 10 (by kernel_rfl)
                  exact wpOp_value (v := .int .u8 m) rfl (by kernel_rfl) (by go_simp) ⟨_, rfl, trivial, rfl, rfl⟩
                · obtain rfl : bmk = false := hb (.inr (by kernel_rfl))
                  obtain rfl : w1 = wd := UP.out.inv
                  have h7 : a.tmps.getD 7 undef = .int .u8 1 := UP.out.before 7 (by kernel_rfl)
                  exact wpOp_value (v := .int .u8 1) rfl (by kernel_rfl) (by go_simp) ⟨_, rfl, trivial, rfl, rfl⟩
                · obtain rfl : bmk = false := hb (.inr (by kernel_rfl))
                  obtain rfl : w1 = wd := UP.out.inv
                  have h61 : a.tmps.getD 61 undef = .int .u8 m := UP.out.dep 11 (by kernel_rfl)
                  have h62 : a.tmps.getD 62 undef = .int .u8 1 := UP.out.dep 12 (by kernel_rfl)
                  exact wpOp_value (v := .int .u8 M) rfl (by kernel_rfl) (by go_simp) ⟨_, rfl, trivial, rfl, rfl⟩
                · have h4 : a.tmps.getD 4 undef = .pointer (some ⟨b0 + 2, 0, none⟩) := UP.out.before 4 (by kernel_rfl)
                  exact wpOp_value (v := .pointer (some ⟨b0 + 2, 2, none⟩)) rfl (by kernel_rfl) (by go_simp) ⟨_, rfl, trivial, UP.out.inv, rfl⟩
                · have h64 : a.tmps.getD 64 undef = .pointer (some ⟨b0 + 2, 2, none⟩) := UP.out.dep 14 (by kernel_rfl)
                  have h51 : a.tmps.getD 51 undef = .int .i64 i := UP.out.dep 1 (by kernel_rfl)
                  exact wpOp_value (v := .pointer (some ⟨b0 + 2, 2 + i * 6, none⟩)) rfl (by kernel_rfl) (by go_simp) ⟨_, rfl, trivial, UP.out.inv, rfl⟩
                · obtain rfl : bmk = false := hb (.inr (by kernel_rfl))
                  obtain rfl : w1 = wd := UP.out.inv
                  have h65 : a.tmps.getD 65 undef = .pointer (some ⟨b0 + 2, 2 + i * 6, none⟩) := UP.out.dep 15 (by kernel_rfl)
                  have h53 : a.tmps.getD 53 undef = .int .i64 j := UP.out.dep 3 (by kernel_rfl)
                  exact wpOp_value (v := .pointer (some ⟨b0 + 2, 2 + i * 6 + j, none⟩)) rfl (by kernel_rfl) (by go_simp) ⟨_, rfl, trivial, rfl, rfl⟩
                · have h66 : a.tmps.getD 66 undef = .pointer (some ⟨b0 + 2, 2 + i * 6 + j, none⟩) := UP.out.dep 16 (by kernel_rfl)
                  have h63 : a.tmps.getD 63 undef = .int .u8 M := UP.out.dep 13 (by kernel_rfl)
                  obtain rfl : bmk = false := hb (.inl rfl)
                  obtain rfl : w1 = wd := UP.out.inv
                  refine wpOp_run rfl (by kernel_rfl) ?_
                  go_simp
                  exact ⟨undef, rfl, HWE.out.symm, trivial⟩
                · exact absurd HI.out (by simp)
              · intro vs w' hinv hR
                have r0 : vs 0 = .pointer (some ⟨b8, 0, none⟩) := hR 0 (by decide)
                have r1 : vs 1 = .int .i64 i := hR 1 (by decide)
                have r2 : vs 2 = .pointer (some ⟨b8, 1, none⟩) := hR 2 (by decide)
                have r3 : vs 3 = .int .i64 j := hR 3 (by decide)
                have r4 : vs 4 = .pointer (some ⟨b8, 0, none⟩) := hR 4 (by decide)
                have r5 : vs 5 = .int .i64 i := hR 5 (by decide)
                have r6 : vs 6 = .pointer (some ⟨b8, 1, none⟩) := hR 6 (by decide)
                have r7 : vs 7 = .int .i64 j := hR 7 (by decide)
                have r8 : vs 8 = .pointer (some ⟨b0 + 2, 2, none⟩) := hR 8 (by decide)
                have r9 : vs 9 = .pointer (some ⟨b0 + 2, 2 + i * 6, none⟩) := hR 9 (by decide)
                have r10 : vs 10 = .pointer (some ⟨b0 + 2, 2 + i * 6 + j, none⟩) := hR 10 (by decide)
                have r11 : vs 11 = .int .u8 m := hR 11 (by decide)
                have r12 : vs 12 = .int .u8 1 := hR 12 (by decide)
                have r13 : vs 13 = .int .u8 M := hR 13 (by decide)
                have r14 : vs 14 = .pointer (some ⟨b0 + 2, 2, none⟩) := hR 14 (by decide)
                have r15 : vs 15 = .pointer (some ⟨b0 + 2, 2 + i * 6, none⟩) := hR 15 (by decide)
                have r16 : vs 16 = .pointer (some ⟨b0 + 2, 2 + i * 6 + j, none⟩) := hR 16 (by decide)
                simp only [putFrom, Act.put, List.setIfInBounds_toArray, List.set_cons_zero, List.set_cons_succ, r0, r1, r2, r3, r4, r5, r6, r7, r8, r9, r10, r11, r12, r13, r14, r15, r16]
                have HV := Lib.hid hinv
                have HR := Lib.hid hR
                clear hinv hR r0 r1 r2 r3 r4 r5 r6 r7 r8 r9 r10 r11 r12 r13 r14 r15 r16
                have hfin : w' = we := HV.out
                subst hfin
                go_wp2
                go_roundg (x.f2.length - (k + 1))
                case measure => have := HN.out; omega
                case rel => exact ⟨k + 1, by go_num, Lib.hid (by omega), Lib.hid rfl, R3, Lib.hid (AK.out OKA.out)⟩
          · have CO : Hid (callOk x = false) := Lib.hid (NO.out (by
              unfold arcOk
              simp only
              by_cases p1 : 0 ≤ f0 <;> by_cases p2 : f0 < 6 <;> by_cases p3 : 0 ≤ f1 <;> by_cases p4 : f1 < 6 <;> simp_all))
            have R2 : Hid (Reading w (wr.alloc (.cells #[.int .i64 f0, .int .i64 f1, .bool f2] 24)) x (some ad) c k) := Lib.hid (RK.out.below ((Below.refl _ _).alloc (Nat.le_refl _) _))
            by_cases p1 : f0 < 0
            · have q1 : decide (f0 < 0) = true := decide_eq_true p1
              clear hok p1
              go_upto_region 8 with fail
              generalize wr.alloc (.cells #[.int .i64 f0, .int .i64 f1, .bool f2] 24) = W8 at R2 ⊢
              obtain ⟨zc, hzc1, hzc2⟩ := R2.out.b2
              rw [← HB0.out] at hzc1
              have hra := R2.out.b3.range
              rw [← HB0.out] at hra
              have hlk : (gC (mkG x.f0 x.f1 (arcV (x.f2.take k)))).length = 38 := by simp [gC, mkG]
              have honek := gC_ones (mkG x.f0 x.f1 (arcV (x.f2.take k)))
              have HBK := Lib.hid (R2.out.b)
              have HCK : Hid (callOk x = true → gC (mkG x.f0 x.f1 (arcV (x.f2.take k))) = gC (graphOf x)) := Lib.hid (fun h => by rw [CO.out] at h; cases h)
              generalize gC (mkG x.f0 x.f1 (arcV (x.f2.take k))) = ck at *
              have hst := run_storeAt_row (ty := 78) hzc1 (by rw [hzc2, hlk]) honek (by rw [hlk]; exact info78)
              have hrow := setRow_heap W8 (b0 + 1) zc ck.toArray 78 (0, 0) hzc1
              have HBS : Hid (Below w.heap.size w (W8.setRow (b0 + 1) ck.toArray)) := Lib.hid (below_setRow HBK.out (by rw [HB0.out]; omega) _)
              generalize hW9 : W8.setRow (b0 + 1) ck.toArray = W9 at *
              have HST := Lib.hid hst
              have HRW := Lib.hid hrow
              have HLK := Lib.hid hlk
              have HON := Lib.hid honek
              have HRA := Lib.hid hra
              clear hst hrow hlk honek hra hzc1 hzc2 hW9
              refine wp_region_list ?_
              dsimp only [List.toList_toArray]
              refine wpList_loadv rfl rfl rfl (run_loadAt_mid W8 (b0 + 2) 0 78 ck _ HRA.out hu78 rfl (by rw [HLK.out]; exact info78)) ?_
              refine wpList_unit (w' := W9) rfl (by exact run_u HST.out) ?_
              refine wpList_val (v := .bool false) (w' := W9) rfl (by go_simp) ?_
              refine wpList_nil ?_
              simp only [Act.put, List.setIfInBounds_toArray, List.set_cons_zero, List.set_cons_succ]
              go_wp2
              refine bodyPost_ret (results_cell_tmp rfl _ _ (b0 + 1) ck _ (.bool false) rfl (range_row HRW.out) hu78 rfl (by rw [HLK.out]; exact info78) rfl) rfl ?_
              exact ⟨⟨ck, by rw [CO.out], HLK.out, HON.out, HCK.out⟩, HBS.out⟩
            · by_cases p2 : 6 ≤ f0
              · have q1 : decide (f0 < 0) = false := decide_eq_false p1
                have q2 : decide (6 ≤ f0) = true := decide_eq_true p2
                clear hok p1 p2
                go_upto_region 8 with fail
                generalize wr.alloc (.cells #[.int .i64 f0, .int .i64 f1, .bool f2] 24) = W8 at R2 ⊢
                obtain ⟨zc, hzc1, hzc2⟩ := R2.out.b2
                rw [← HB0.out] at hzc1
                have hra := R2.out.b3.range
                rw [← HB0.out] at hra
                have hlk : (gC (mkG x.f0 x.f1 (arcV (x.f2.take k)))).length = 38 := by simp [gC, mkG]
                have honek := gC_ones (mkG x.f0 x.f1 (arcV (x.f2.take k)))
                have HBK := Lib.hid (R2.out.b)
                have HCK : Hid (callOk x = true → gC (mkG x.f0 x.f1 (arcV (x.f2.take k))) = gC (graphOf x)) := Lib.hid (fun h => by rw [CO.out] at h; cases h)
                generalize gC (mkG x.f0 x.f1 (arcV (x.f2.take k))) = ck at *
                have hst := run_storeAt_row (ty := 78) hzc1 (by rw [hzc2, hlk]) honek (by rw [hlk]; exact info78)
                have hrow := setRow_heap W8 (b0 + 1) zc ck.toArray 78 (0, 0) hzc1
                have HBS : Hid (Below w.heap.size w (W8.setRow (b0 + 1) ck.toArray)) := Lib.hid (below_setRow HBK.out (by rw [HB0.out]; omega) _)
                generalize hW9 : W8.setRow (b0 + 1) ck.toArray = W9 at *
                have HST := Lib.hid hst
                have HRW := Lib.hid hrow
                have HLK := Lib.hid hlk
                have HON := Lib.hid honek
                have HRA := Lib.hid hra
                clear hst hrow hlk honek hra hzc1 hzc2 hW9
                refine wp_region_list ?_
                dsimp only [List.toList_toArray]
                refine wpList_loadv rfl rfl rfl (run_loadAt_mid W8 (b0 + 2) 0 78 ck _ HRA.out hu78 rfl (by rw [HLK.out]; exact info78)) ?_
                refine wpList_unit (w' := W9) rfl (by exact run_u HST.out) ?_
                refine wpList_val (v := .bool false) (w' := W9) rfl (by go_simp) ?_
                refine wpList_nil ?_
                simp only [Act.put, List.setIfInBounds_toArray, List.set_cons_zero, List.set_cons_succ]
                go_wp2
                refine bodyPost_ret (results_cell_tmp rfl _ _ (b0 + 1) ck _ (.bool false) rfl (range_row HRW.out) hu78 rfl (by rw [HLK.out]; exact info78) rfl) rfl ?_
                exact ⟨⟨ck, by rw [CO.out], HLK.out, HON.out, HCK.out⟩, HBS.out⟩
              · by_cases p3 : f1 < 0
                · have q1 : decide (f0 < 0) = false := decide_eq_false p1
                  have q2 : decide (6 ≤ f0) = false := decide_eq_false p2
                  have q3 : decide (f1 < 0) = true := decide_eq_true p3
                  clear hok p1 p2 p3
                  go_upto_region 8 with fail
                  generalize wr.alloc (.cells #[.int .i64 f0, .int .i64 f1, .bool f2] 24) = W8 at R2 ⊢
                  obtain ⟨zc, hzc1, hzc2⟩ := R2.out.b2
                  rw [← HB0.out] at hzc1
                  have hra := R2.out.b3.range
                  rw [← HB0.out] at hra
                  have hlk : (gC (mkG x.f0 x.f1 (arcV (x.f2.take k)))).length = 38 := by simp [gC, mkG]
                  have honek := gC_ones (mkG x.f0 x.f1 (arcV (x.f2.take k)))
                  have HBK := Lib.hid (R2.out.b)
                  have HCK : Hid (callOk x = true → gC (mkG x.f0 x.f1 (arcV (x.f2.take k))) = gC (graphOf x)) := Lib.hid (fun h => by rw [CO.out] at h; cases h)
                  generalize gC (mkG x.f0 x.f1 (arcV (x.f2.take k))) = ck at *
                  have hst := run_storeAt_row (ty := 78) hzc1 (by rw [hzc2, hlk]) honek (by rw [hlk]; exact info78)
                  have hrow := setRow_heap W8 (b0 + 1) zc ck.toArray 78 (0, 0) hzc1
                  have HBS : Hid (Below w.heap.size w (W8.setRow (b0 + 1) ck.toArray)) := Lib.hid (below_setRow HBK.out (by rw [HB0.out]; omega) _)
                  generalize hW9 : W8.setRow (b0 + 1) ck.toArray = W9 at *
                  have HST := Lib.hid hst
                  have HRW := Lib.hid hrow
                  have HLK := Lib.hid hlk
                  have HON := Lib.hid honek
                  have HRA := Lib.hid hra
                  clear hst hrow hlk honek hra hzc1 hzc2 hW9
                  refine wp_region_list ?_
                  dsimp only [List.toList_toArray]
                  refine wpList_loadv rfl rfl rfl (run_loadAt_mid W8 (b0 + 2) 0 78 ck _ HRA.out hu78 rfl (by rw [HLK.out]; exact info78)) ?_
                  refine wpList_unit (w' := W9) rfl (by exact run_u HST.out) ?_
                  refine wpList_val (v := .bool false) (w' := W9) rfl (by go_simp) ?_
                  refine wpList_nil ?_
                  simp only [Act.put, List.setIfInBounds_toArray, List.set_cons_zero, List.set_cons_succ]
                  go_wp2
                  refine bodyPost_ret (results_cell_tmp rfl _ _ (b0 + 1) ck _ (.bool false) rfl (range_row HRW.out) hu78 rfl (by rw [HLK.out]; exact info78) rfl) rfl ?_
                  exact ⟨⟨ck, by rw [CO.out], HLK.out, HON.out, HCK.out⟩, HBS.out⟩
                · have p4 : 6 ≤ f1 := by omega
                  have q1 : decide (f0 < 0) = false := decide_eq_false p1
                  have q2 : decide (6 ≤ f0) = false := decide_eq_false p2
                  have q3 : decide (f1 < 0) = false := decide_eq_false p3
                  have q4 : decide (6 ≤ f1) = true := decide_eq_true p4
                  clear hok p1 p2 p3 p4
                  go_upto_region 8 with fail
                  generalize wr.alloc (.cells #[.int .i64 f0, .int .i64 f1, .bool f2] 24) = W8 at R2 ⊢
                  obtain ⟨zc, hzc1, hzc2⟩ := R2.out.b2
                  rw [← HB0.out] at hzc1
                  have hra := R2.out.b3.range
                  rw [← HB0.out] at hra
                  have hlk : (gC (mkG x.f0 x.f1 (arcV (x.f2.take k)))).length = 38 := by simp [gC, mkG]
                  have honek := gC_ones (mkG x.f0 x.f1 (arcV (x.f2.take k)))
                  have HBK := Lib.hid (R2.out.b)
                  have HCK : Hid (callOk x = true → gC (mkG x.f0 x.f1 (arcV (x.f2.take k))) = gC (graphOf x)) := Lib.hid (fun h => by rw [CO.out] at h; cases h)
                  generalize gC (mkG x.f0 x.f1 (arcV (x.f2.take k))) = ck at *
                  have hst := run_storeAt_row (ty := 78) hzc1 (by rw [hzc2, hlk]) honek (by rw [hlk]; exact info78)
                  have hrow := setRow_heap W8 (b0 + 1) zc ck.toArray 78 (0, 0) hzc1
                  have HBS : Hid (Below w.heap.size w (W8.setRow (b0 + 1) ck.toArray)) := Lib.hid (below_setRow HBK.out (by rw [HB0.out]; omega) _)
                  generalize hW9 : W8.setRow (b0 + 1) ck.toArray = W9 at *
                  have HST := Lib.hid hst
                  have HRW := Lib.hid hrow
                  have HLK := Lib.hid hlk
                  have HON := Lib.hid honek
                  have HRA := Lib.hid hra
                  clear hst hrow hlk honek hra hzc1 hzc2 hW9
                  refine wp_region_list ?_
                  dsimp only [List.toList_toArray]
                  refine wpList_loadv rfl rfl rfl (run_loadAt_mid W8 (b0 + 2) 0 78 ck _ HRA.out hu78 rfl (by rw [HLK.out]; exact info78)) ?_
                  refine wpList_unit (w' := W9) rfl (by exact run_u HST.out) ?_
                  refine wpList_val (v := .bool false) (w' := W9) rfl (by go_simp) ?_
                  refine wpList_nil ?_
                  simp only [Act.put, List.setIfInBounds_toArray, List.set_cons_zero, List.set_cons_succ]
                  go_wp2
                  refine bodyPost_ret (results_cell_tmp rfl _ _ (b0 + 1) ck _ (.bool false) rfl (range_row HRW.out) hu78 rfl (by rw [HLK.out]; exact info78) rfl) rfl ?_
                  exact ⟨⟨ck, by rw [CO.out], HLK.out, HON.out, HCK.out⟩, HBS.out⟩
        · have hkb : decide ((k : Int) < (x.f2.length : Int)) = false := decide_eq_false (by omega)
          have hke : k = x.f2.length := by have := HK.out; omega
          have CO : Hid (callOk x = true) := Lib.hid (by
            rw [CN.out, List.all_eq_true]
            intro y hy
            obtain ⟨j, hj⟩ := List.getElem?_of_mem hy
            have := HA.out j (by have := (List.getElem?_eq_some_iff.1 hj).1; omega)
            rwa [List.getD_eq_getElem?_getD, hj] at this)
          go_upto_region 14 with fail
          obtain ⟨zc, hzc1, hzc2⟩ := RK.out.b2
          rw [← HB0.out] at hzc1
          have hra := RK.out.b3.range
          rw [← HB0.out] at hra
          have hlk : (gC (mkG x.f0 x.f1 (arcV (x.f2.take k)))).length = 38 := by simp [gC, mkG]
          have honek := gC_ones (mkG x.f0 x.f1 (arcV (x.f2.take k)))
          have HBK := Lib.hid (RK.out.b)
          have HCK : Hid (callOk x = true → gC (mkG x.f0 x.f1 (arcV (x.f2.take k))) = gC (graphOf x)) := Lib.hid (fun _ => by rw [List.take_of_length_le (by omega)]; rfl)
          generalize gC (mkG x.f0 x.f1 (arcV (x.f2.take k))) = ck at *
          have hst := run_storeAt_row (ty := 78) hzc1 (by rw [hzc2, hlk]) honek (by rw [hlk]; exact info78)
          have hrow := setRow_heap wr (b0 + 1) zc ck.toArray 78 (0, 0) hzc1
          have HBS : Hid (Below w.heap.size w (wr.setRow (b0 + 1) ck.toArray)) := Lib.hid (below_setRow HBK.out (by rw [HB0.out]; omega) _)
          generalize hW9 : wr.setRow (b0 + 1) ck.toArray = W9 at *
          have HST := Lib.hid hst
          have HRW := Lib.hid hrow
          have HLK := Lib.hid hlk
          have HON := Lib.hid honek
          have HRA := Lib.hid hra
          clear hst hrow hlk honek hra hzc1 hzc2 hW9
          refine wp_region_list ?_
          dsimp only [List.toList_toArray]
          refine wpList_loadv rfl rfl rfl (run_loadAt_mid wr (b0 + 2) 0 78 ck _ HRA.out hu78 rfl (by rw [HLK.out]; exact info78)) ?_
          refine wpList_unit (w' := W9) rfl (by exact run_u HST.out) ?_
          refine wpList_val (v := .bool true) (w' := W9) rfl (by go_simp) ?_
          refine wpList_nil ?_
          simp only [Act.put, List.setIfInBounds_toArray, List.set_cons_zero, List.set_cons_succ]
          go_wp2
          refine bodyPost_ret (results_cell_tmp rfl _ _ (b0 + 1) ck _ (.bool true) rfl (range_row HRW.out) hu78 rfl (by rw [HLK.out]; exact info78) rfl) rfl ?_
          exact ⟨⟨ck, by rw [CO.out], HLK.out, HON.out, HCK.out⟩, HBS.out⟩
end Go.Proofs.Ytdinmdjdkhlgcaa
