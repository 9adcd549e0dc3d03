/- The composition of two calls. -/
import Derived.Test.YtdinmdjdkhlgcaaCall
namespace Go.Proofs.Ytdinmdjdkhlgcaa
open Go.RowKit Go.Proofs.YtdinmdjdkhlgcaaW.PrintWords Go.Proofs.Ytdinmdjdkhlgcaa.Sz
set_option linter.unusedVariables false
set_option linter.unusedSimpArgs false

abbrev v34 (x : S34) (A : Option Addr) (c : Nat) : Value := .agg #[.string x.f0, .string x.f1, .slice A x.f2.length c]
def compR (x y : S34) : S34 × Int := if callOk x = true ∧ callOk y = true ∧ x.f1 = y.f0 then (callOf ((graphOf x).then (graphOf y)), 0) else (z34, 4)
def CompPost (x y : S34) (w : World) (e : Ending) (w' : World) : Prop := Below w.heap.size w w' ∧ ∃ A c, e = .returned (.tuple #[v34 (compR x y).1 A c, .int .i64 (compR x y).2]) ∧ (compR x y).1.f2.length ≤ c ∧ Kd.C k24 w' A (compR x y).1.f2.length (compR x y).1.f2
theorem kd_setRow {w : World} {A : Option Addr} {l : List S24} (h : Kd.C k24 w A l.length l) {g : Nat} (cs : Array Value) (hg : ∀ a, A = some a → a.block ≠ g) : Kd.C k24 (w.setRow g cs) A l.length l := by
  refine ⟨h.1, h.2.1, fun hp => ?_⟩
  obtain ⟨a, ha, hc⟩ := h.2.2 hp
  refine ⟨a, ha, fun i p hi => ?_⟩
  obtain ⟨us, _, hk, hus⟩ := hc i p hi
  rw [k24_open hk] at hus
  refine ⟨_, rfl, k24_mk _ p, fun j u hj => ?_⟩
  rw [cell_setRow_other _ _ _ (a.add (i * k24.sz + j)) (by have := hg a ha; unfold Addr.add; split <;> exact this)]
  exact hus j u hj
theorem kd_nil (w : World) : Kd.C k24 w none ([] : List S24).length [] := ⟨rfl, by decide, fun h => absurd h (by decide)⟩
theorem read_R {x : S34} {w : World} {b : Bool} (hb : b = callOk x) {e : Ending} {w' : World} (h : ReadPost x w e w') : ∃ v, e = .returned v ∧ (∃ cs : List Value, v = .tuple #[.agg cs.toArray, .bool b] ∧ cs.length = 38 ∧ (∀ v ∈ cs, v.oneCell' = true) ∧ (b = true → cs = gC (graphOf x))) ∧ Below w.heap.size w w' := by
  subst hb
  obtain ⟨⟨cs, rfl, h1, h2, h3⟩, hb⟩ := h
  exact ⟨_, rfl, ⟨cs, rfl, h1, h2, h3⟩, hb⟩
theorem build34 (w : World) : (Instr.build 34 #[]).run Try.prog w = .ok (.agg #[.string ⟨#[]⟩, .string ⟨#[]⟩, .slice none 0 0]) w := by kernel_rfl
theorem exec_build0 {o : Oper} {a : Act} {t : TypeId} {v : Value} {w : World} (ho : o.op = .build t #[]) (hr : (Instr.build t #[]).run Try.prog w = .ok v w) : (execOp a.eval o).run Try.prog w = .ok (.value v) w := by
  unfold execOp
  simp only [ho, List.map_toArray, List.map_nil]
  exact run_val hr
theorem range_below {w w' : World} {b o : Nat} {cs : List Value} (h : w.rangeAt b o cs) (hb : Below w.heap.size w w') : w'.rangeAt b o cs := fun j v hj => cellB hb (h j v hj)
/-- The tail that all ways of the composition share: it returns what lies in its result. -/
theorem comp_no {x y : S34} (h : ¬ (callOk x = true ∧ callOk y = true ∧ x.f1 = y.f0)) : compR x y = (z34, 4) := if_neg h
theorem comp_yes {x y : S34} (h : callOk x = true ∧ callOk y = true ∧ x.f1 = y.f0) : compR x y = (callOf ((graphOf x).then (graphOf y)), 0) := if_pos h
set_option maxHeartbeats 40000000 in
set_option maxRecDepth 100000 in
theorem compose_calls (x y : S34) (A1 : Option Addr) (c1 : Nat) (A2 : Option Addr) (c2 : Nat) (w : World) (hx : Kd.C k24 w A1 x.f2.length x.f2) (hc1 : x.f2.length ≤ c1) (hy : Kd.C k24 w A2 y.f2.length y.f2) (hc2 : y.f2.length ≤ c2)
    (hx0 : x.f0.size ≤ maxLen) (hx1 : x.f1.size ≤ maxLen) (hy0 : y.f0.size ≤ maxLen) (hy1 : y.f1.size ≤ maxLen) :
    Calls Try.prog 16 #[v34 x A1 c1, v34 y A2 c2] w (CompPost x y w) := by
  have hu34 := Try.underlying34
  have hu78 := Try.underlying78
  have hu9 := Try.underlying9
  obtain ⟨W1, hW1⟩ : ∃ W1, W1 = ((w.alloc (.cells #[.string x.f0, .string x.f1, .slice A1 x.f2.length c1] 34)).alloc (.cells #[.string y.f0, .string y.f1, .slice A2 y.f2.length c2] 34)).alloc (.cells #[.string ⟨#[]⟩, .string ⟨#[]⟩, .slice none 0 0] 34) := ⟨_, rfl⟩
  obtain ⟨b0, hb0⟩ : ∃ b, b = w.heap.size := ⟨_, rfl⟩
  have rows : Below w.heap.size w W1 ∧ W1.heap[b0]? = some (.cells #[.string x.f0, .string x.f1, .slice A1 x.f2.length c1] 34 (0, 0)) ∧ W1.heap[b0 + 1]? = some (.cells #[.string y.f0, .string y.f1, .slice A2 y.f2.length c2] 34 (0, 0)) ∧ W1.heap[b0 + 1 + 1]? = some (.cells #[.string ⟨#[]⟩, .string ⟨#[]⟩, .slice none 0 0] 34 (0, 0)) := by
    rw [hW1, hb0]
    have hb : ∀ (v : World) (o : Obj), Below v.heap.size v (v.alloc o) := fun v o => (Below.refl _ _).alloc (Nat.le_refl _) o
    have h1 := heap_alloc_new w (.cells #[.string x.f0, .string x.f1, .slice A1 x.f2.length c1] 34)
    have h2 := heap_alloc_new (w.alloc (.cells #[.string x.f0, .string x.f1, .slice A1 x.f2.length c1] 34)) (.cells #[.string y.f0, .string y.f1, .slice A2 y.f2.length c2] 34)
    have h3 := heap_alloc_new ((w.alloc (.cells #[.string x.f0, .string x.f1, .slice A1 x.f2.length c1] 34)).alloc (.cells #[.string y.f0, .string y.f1, .slice A2 y.f2.length c2] 34)) (.cells #[.string ⟨#[]⟩, .string ⟨#[]⟩, .slice none 0 0] 34)
    simp only [size_alloc] at h2 h3
    exact ⟨((Below.refl _ _).alloc (Nat.le_refl _) _).alloc (by simp) _ |>.alloc (by simp; omega) _, row_below (row_below h1 (hb _ _)) (hb _ _), row_below h2 (hb _ _), h3⟩
  obtain ⟨B1, r1, r2, r3⟩ := rows
  obtain ⟨bx, hbx⟩ : ∃ b, b = callOk x := ⟨_, rfl⟩
  obtain ⟨by', hby⟩ : ∃ b, b = callOk y := ⟨_, rfl⟩
  obtain ⟨z, hzz⟩ : ∃ z, z = (gC g0).toArray := ⟨_, rfl⟩
  have hz78 : ∀ w, (zeroValue 78).run Try.prog w = .ok (.agg z) w := fun w => by rw [hzz]; exact zero78 w
  have HZ1 : Hid (z.size = 38) := Lib.hid (by rw [hzz]; rfl)
  have HR1 := Lib.hid (range_row r1)
  have HRD1 := Lib.hid (read_calls x A1 c1 W1 (Kd.C_below hx B1) hc1 hx0 hx1)
  have HRD2 : Hid (∀ w', Below w.heap.size w w' → Calls Try.prog 39 #[.agg #[.string y.f0, .string y.f1, .slice A2 y.f2.length c2]] w' (ReadPost y w')) := Lib.hid (fun w' hb => read_calls y A2 c2 w' (Kd.C_below hy hb) hc2 hy0 hy1)
  have OK1 : Hid ((graphOf x).Ok) := Lib.hid (graphOf_ok hx0 hx1)
  have OK2 : Hid ((graphOf y).Ok) := Lib.hid (graphOf_ok hy0 hy1)
  have NO : Hid (¬ (callOk x = true ∧ callOk y = true ∧ x.f1 = y.f0) → compR x y = (z34, 4)) := Lib.hid comp_no
  have YES : Hid (callOk x = true ∧ callOk y = true ∧ x.f1 = y.f0 → compR x y = (callOf ((graphOf x).then (graphOf y)), 0)) := Lib.hid comp_yes
  have R2 := Lib.hid r2
  have R3 := Lib.hid r3
  have HB1 := Lib.hid B1
  have HBX := Lib.hid hbx
  have HBY := Lib.hid hby
  have HB0 := Lib.hid hb0
  clear hx hc1 hy hc2 hx0 hx1 hy0 hy1 r1 r2 r3 B1 hzz hbx hby
  go_enter Try.func16, Try.ntmps16
  go_upto_region 1 with fail
  rw [← hW1, ← hb0]
  clear hW1 hb0
  refine wp_region_list ?_
  dsimp only [List.toList_toArray]
  refine wpList_loadv rfl rfl rfl (run_loadAt_mid W1 b0 0 34 [.string x.f0, .string x.f1, .slice A1 x.f2.length c1] _ HR1.out hu34 rfl info34) ?_
  try simp only [Act.put, List.setIfInBounds_toArray, List.set_cons_zero, List.set_cons_succ]
  refine wpList_call (f := 39) (args := #[.agg #[.string x.f0, .string x.f1, .slice A1 x.f2.length c1]]) (R := fun v w' => (∃ cs : List Value, v = .tuple #[.agg cs.toArray, .bool bx] ∧ cs.length = 38 ∧ (∀ v ∈ cs, v.oneCell' = true) ∧ (bx = true → cs = gC (graphOf x))) ∧ Below W1.heap.size W1 w') rfl (by go_simp) (HRD1.out.mono fun e w' h => read_R HBX.out h) ?_
  rintro v w1 ⟨⟨cs, rfl, hcl, hco, hcs⟩, hbw⟩
  have HCS := Lib.hid hcs
  have HBW1 := Lib.hid hbw
  have HST : Hid ((Instr.storeAt 78 (.pointer (some ⟨w1.heap.size, 0, none⟩)) (.agg cs.toArray)).run Try.prog (w1.alloc (.cells z 78)) = .ok () (w1.alloc (.cells cs.toArray 78))) := Lib.hid (by
    have := run_storeAt_row (w := w1.alloc (.cells z 78)) (ty := 78) (heap_alloc_new w1 (.cells z 78)) (by rw [HZ1.out, hcl]) hco (by rw [hcl]; exact info78)
    rw [this, World.setRow_alloc_new])
  clear hcs hbw hcl hco
  refine wpList_val (v := .tuple #[.agg cs.toArray, .bool bx]) (w' := w1) rfl (by go_simp) ?_
  refine wpList_val (v := .agg cs.toArray) (w' := w1) rfl (by go_simp) ?_
  refine wpList_val (v := .bool bx) (w' := w1) rfl (by go_simp) ?_
  refine wpList_val (v := .pointer (some ⟨w1.heap.size, 0, none⟩)) (w' := (w1.alloc (.cells z 78))) rfl (by go_simp) ?_
  refine wpList_unit (w' := w1.alloc (.cells cs.toArray 78)) rfl (by exact run_u HST.out) ?_
  refine wpList_val (v := .bool bx) (w' := (w1.alloc (.cells cs.toArray 78))) rfl (by go_simp) ?_
  refine wpList_nil ?_
  simp only [Act.put, List.setIfInBounds_toArray, List.set_cons_zero, List.set_cons_succ]
  have RG : Hid (bx = true → (w1.alloc (.cells cs.toArray 78)).rangeAt w1.heap.size 0 (gC (graphOf x))) := Lib.hid (fun h => by rw [← HCS.out h]; exact range_row (heap_alloc_new w1 _))
  have HB2 : Hid (Below w.heap.size w (w1.alloc (.cells cs.toArray 78))) := Lib.hid (below_then HB1.out (below_then HBW1.out ((Below.refl _ _).alloc (Nat.le_refl _) _)))
  have R2' := Lib.hid (row_below (row_below R2.out HBW1.out) ((Below.refl _ _).alloc (Nat.le_refl _) (.cells cs.toArray 78)))
  have R3' := Lib.hid (row_below (row_below R3.out HBW1.out) ((Below.refl _ _).alloc (Nat.le_refl _) (.cells cs.toArray 78)))
  clear HB1 HBW1 R2 R3 HCS HST HR1
  obtain ⟨b6, hb6⟩ : ∃ b, b = w1.heap.size := ⟨_, rfl⟩
  generalize hW2 : w1.alloc (.cells cs.toArray 78) = W2 at *
  rw [← hb6] at RG ⊢
  clear hb6 hW2
  have HR2 := Lib.hid (range_row R2'.out)
  have HRD := Lib.hid (HRD2.out W2 HB2.out)
  clear HRD2 HRD1
  go_upto_region 2 with fail
  refine wp_region_list ?_
  dsimp only [List.toList_toArray]
  refine wpList_loadv rfl rfl rfl (run_loadAt_mid W2 (b0 + 1) 0 34 [.string y.f0, .string y.f1, .slice A2 y.f2.length c2] _ HR2.out hu34 rfl info34) ?_
  try simp only [Act.put, List.setIfInBounds_toArray, List.set_cons_zero, List.set_cons_succ]
  refine wpList_call (f := 39) (args := #[.agg #[.string y.f0, .string y.f1, .slice A2 y.f2.length c2]]) (R := fun v w' => (∃ cs : List Value, v = .tuple #[.agg cs.toArray, .bool by'] ∧ cs.length = 38 ∧ (∀ v ∈ cs, v.oneCell' = true) ∧ (by' = true → cs = gC (graphOf y))) ∧ Below W2.heap.size W2 w') rfl (by go_simp) (HRD.out.mono fun e w' h => read_R HBY.out h) ?_
  rintro v w3 ⟨⟨ds, rfl, hcl, hco, hcs⟩, hbw⟩
  have HDS := Lib.hid hcs
  have HBW3 := Lib.hid hbw
  have HST : Hid ((Instr.storeAt 78 (.pointer (some ⟨w3.heap.size, 0, none⟩)) (.agg ds.toArray)).run Try.prog (w3.alloc (.cells z 78)) = .ok () (w3.alloc (.cells ds.toArray 78))) := Lib.hid (by
    have := run_storeAt_row (w := w3.alloc (.cells z 78)) (ty := 78) (heap_alloc_new w3 (.cells z 78)) (by rw [HZ1.out, hcl]) hco (by rw [hcl]; exact info78)
    rw [this, World.setRow_alloc_new])
  clear hcs hbw hcl hco
  refine wpList_val (v := .tuple #[.agg ds.toArray, .bool by']) (w' := w3) rfl (by go_simp) ?_
  refine wpList_val (v := .agg ds.toArray) (w' := w3) rfl (by go_simp) ?_
  refine wpList_val (v := .bool by') (w' := w3) rfl (by go_simp) ?_
  refine wpList_val (v := .pointer (some ⟨w3.heap.size, 0, none⟩)) (w' := (w3.alloc (.cells z 78))) rfl (by go_simp) ?_
  refine wpList_unit (w' := w3.alloc (.cells ds.toArray 78)) rfl (by exact run_u HST.out) ?_
  refine wpList_val (v := .bool by') (w' := (w3.alloc (.cells ds.toArray 78))) rfl (by go_simp) ?_
  refine wpList_nil ?_
  simp only [Act.put, List.setIfInBounds_toArray, List.set_cons_zero, List.set_cons_succ]
  have RH : Hid (by' = true → (w3.alloc (.cells ds.toArray 78)).rangeAt w3.heap.size 0 (gC (graphOf y))) := Lib.hid (fun h => by rw [← HDS.out h]; exact range_row (heap_alloc_new w3 _))
  have HB4 : Hid (Below w.heap.size w (w3.alloc (.cells ds.toArray 78))) := Lib.hid (below_then HB2.out (below_then HBW3.out ((Below.refl _ _).alloc (Nat.le_refl _) _)))
  have RGG : Hid (bx = true → (w3.alloc (.cells ds.toArray 78)).rangeAt b6 0 (gC (graphOf x))) := Lib.hid (fun h => range_below (RG.out h) (below_then HBW3.out ((Below.refl _ _).alloc (Nat.le_refl _) _)))
  have R3 := Lib.hid (row_below (row_below R3'.out HBW3.out) ((Below.refl _ _).alloc (Nat.le_refl _) (.cells ds.toArray 78)))
  clear HB2 HBW3 R2' R3' RG HDS HST HR2 HRD
  obtain ⟨b8, hb8⟩ : ∃ b, b = w3.heap.size := ⟨_, rfl⟩
  generalize hW4 : w3.alloc (.cells ds.toArray 78) = W4 at *
  rw [← hb8] at RH ⊢
  clear hb8 hW4
  have HST4 : Hid ((Instr.storeAt 34 (.pointer (some ⟨b0 + 1 + 1, 0, none⟩)) (.agg #[.string ⟨#[]⟩, .string ⟨#[]⟩, .slice none 0 0])).run Try.prog W4 = .ok () (W4.setRow (b0 + 1 + 1) #[.string ⟨#[]⟩, .string ⟨#[]⟩, .slice none 0 0])) := Lib.hid (run_storeAt_row (ty := 34) (cs := [.string ⟨#[]⟩, .string ⟨#[]⟩, .slice none 0 0]) R3.out rfl (by
    intro v hv
    simp only [List.mem_cons, List.not_mem_nil, or_false] at hv
    rcases hv with rfl | rfl | rfl <;> rfl) info34)
  have HRW4 := Lib.hid (setRow_heap W4 (b0 + 1 + 1) _ #[.string ⟨#[]⟩, .string ⟨#[]⟩, .slice none 0 0] 34 (0, 0) R3.out)
  have HBS : Hid (Below w.heap.size w (W4.setRow (b0 + 1 + 1) #[.string ⟨#[]⟩, .string ⟨#[]⟩, .slice none 0 0])) := Lib.hid (below_setRow HB4.out (by rw [HB0.out]; omega) _)
  generalize hW9 : W4.setRow (b0 + 1 + 1) #[.string ⟨#[]⟩, .string ⟨#[]⟩, .slice none 0 0] = W9 at *
  clear hW9
  by_cases hbx : bx = true
  · subst hbx
    by_cases hby : by' = true
    · subst hby
      have e1 : W4.cell? ⟨b6, 1, none⟩ = some (.string x.f1) := by
        have := RGG.out rfl 1 _ (gC1 (graphOf x))
        rwa [Nat.zero_add] at this
      have e2 : W4.cell? ⟨b8, 0, none⟩ = some (.string y.f0) := by
        have := RH.out rfl 0 _ (gC0 (graphOf y))
        rwa [Nat.zero_add] at this
      by_cases hst : x.f1 = y.f0
      · have hne : (x.f1.toList == y.f0.toList) = true := (Lib.bytes_beq_iff _ _).2 hst
        have hne2 : (!(x.f1.toList == y.f0.toList)) = false := by rw [hne]; rfl
        have Y : Hid (compR x y = (callOf ((graphOf x).then (graphOf y)), 0)) := Lib.hid (YES.out ⟨HBX.out.symm, HBY.out.symm, hst⟩)
        have OK3 : Hid (((graphOf x).then (graphOf y)).Ok) := Lib.hid (then_ok OK1.out OK2.out)
        have HTH := Lib.hid (then_calls (graphOf x) (graphOf y) OK1.out OK2.out W4)
        have HCA : Hid (∀ w', Calls Try.prog 41 #[gV ((graphOf x).then (graphOf y))] w' (CallPost ((graphOf x).then (graphOf y)) w')) := Lib.hid (fun w' => call_calls _ OK3.out w')
        have HL1 : Hid ((gC (graphOf x)).length = 38) := Lib.hid (gC_len OK1.out)
        have HL2 : Hid ((gC (graphOf y)).length = 38) := Lib.hid (gC_len OK2.out)
        have RG1 := Lib.hid (RGG.out rfl)
        have RH1 := Lib.hid (RH.out rfl)
        clear HST4 HRW4 HBS W9 hst RGG RH
        go_upto_region 5 with fail
        clear e1 e2 hne hne2
        simp only [gV] at HTH HCA
        generalize gC (graphOf x) = gx at *
        generalize gC (graphOf y) = gy at *
        refine wp_region_list ?_
        dsimp only [List.toList_toArray]
        refine wpList_loadv rfl rfl rfl (run_loadAt_mid W4 b6 0 78 gx _ RG1.out hu78 rfl (by rw [HL1.out]; exact info78)) ?_
        try simp only [Act.put, List.setIfInBounds_toArray, List.set_cons_zero, List.set_cons_succ]
        refine wpList_loadv rfl rfl rfl (run_loadAt_mid W4 b8 0 78 gy _ RH1.out hu78 rfl (by rw [HL2.out]; exact info78)) ?_
        try simp only [Act.put, List.setIfInBounds_toArray, List.set_cons_zero, List.set_cons_succ]
        generalize hgg : (graphOf x).then (graphOf y) = g at *
        refine wpList_call (f := 40) (args := #[.agg gx.toArray, .agg gy.toArray]) (R := fun v w' => v = .agg (gC g).toArray ∧ Below W4.heap.size W4 w') rfl (by go_simp) (HTH.out.mono ?_) ?_
        · rintro e w' ⟨rfl, hb⟩
          exact ⟨_, rfl, rfl, hb⟩
        rintro v w5 ⟨rfl, hb5⟩
        have HB5 := Lib.hid hb5
        clear hb5 hgg HTH
        try simp only [Act.put, List.setIfInBounds_toArray, List.set_cons_zero, List.set_cons_succ]
        have HC5 := Lib.hid (HCA.out w5)
        clear HCA
        refine wpList_call (f := 41) (args := #[.agg (gC g).toArray]) (R := fun v w' => CallPost g w5 (.returned v) w') rfl (by go_simp) (HC5.out.mono ?_) ?_
        · rintro e w' h
          obtain ⟨A, c, rfl, _⟩ := id h
          exact ⟨_, rfl, h⟩
        rintro v w6 ⟨A3, c3, e6, hl6, hk6, hn6, hb6⟩
        injection e6 with e6
        subst e6
        have R36 := row_below (row_below R3.out HB5.out) hb6
        have hst6 := run_storeAt_row (ty := 34) (cs := [.string g.src, .string g.dst, .slice A3 (arcsTo g 36).length c3]) R36 rfl (by
          intro v hv
          simp only [List.mem_cons, List.not_mem_nil, or_false] at hv
          rcases hv with rfl | rfl | rfl <;> rfl) info34
        have HRW := Lib.hid (setRow_heap w6 (b0 + 1 + 1) _ #[.string g.src, .string g.dst, .slice A3 (arcsTo g 36).length c3] 34 (0, 0) R36)
        have HBS : Hid (Below w.heap.size w (w6.setRow (b0 + 1 + 1) #[.string g.src, .string g.dst, .slice A3 (arcsTo g 36).length c3])) := Lib.hid (below_setRow (below_then HB4.out (below_then HB5.out hb6)) (by rw [HB0.out]; omega) _)
        have HKD : Hid (Kd.C k24 (w6.setRow (b0 + 1 + 1) #[.string g.src, .string g.dst, .slice A3 (arcsTo g 36).length c3]) A3 (arcsTo g 36).length (arcsTo g 36)) := Lib.hid (kd_setRow hk6 _ (fun a ha => by
          have h1 := hn6 a ha
          have h2 := HB5.out.size
          have h3 := lt_of_heap R3.out
          omega))
        have HST6 := Lib.hid hst6
        have HLC := Lib.hid hl6
        clear R36 hst6 hl6 hk6 hn6 hb6
        generalize hW7 : w6.setRow (b0 + 1 + 1) #[.string g.src, .string g.dst, .slice A3 (arcsTo g 36).length c3] = W7 at *
        clear hW7
        refine wpList_unit (w' := W7) rfl (by exact run_u HST6.out) ?_
        refine wpList_val (v := .int .i64 0) (w' := W7) rfl (by go_simp) ?_
        refine wpList_nil ?_
        simp only [Act.put, List.setIfInBounds_toArray, List.set_cons_zero, List.set_cons_succ]
        go_wp2
        refine bodyPost_ret (results_cell_tmp rfl _ _ (b0 + 1 + 1) [.string g.src, .string g.dst, .slice A3 (arcsTo g 36).length c3] _ (.int .i64 0) rfl (range_row HRW.out) hu34 rfl info34 rfl) rfl ?_
        refine ⟨HBS.out, A3, c3, ?_, ?_, ?_⟩
        · rw [Y.out]
          rfl
        · rw [Y.out]
          exact HLC.out
        · rw [Y.out]
          exact HKD.out
      · have hne : (x.f1.toList == y.f0.toList) = false := (Lib.bytes_beq_false_iff _ _).2 hst
        have hne2 : (!(x.f1.toList == y.f0.toList)) = true := by rw [hne]; rfl
        have N : Hid (compR x y = (z34, 4)) := Lib.hid (NO.out (fun h => hst h.2.2))
        clear hst YES NO RGG RH HBX HBY
        go_upto_region 4 with fail
        refine wp_region_list ?_
        dsimp only [List.toList_toArray]
        refine wpList_val (v := .agg #[.string ⟨#[]⟩, .string ⟨#[]⟩, .slice none 0 0]) (w' := W4) rfl (exec_build0 rfl (build34 W4)) ?_
        refine wpList_unit (w' := W9) rfl (by exact run_u HST4.out) ?_
        refine wpList_val (v := .int .i64 4) (w' := W9) rfl (by go_simp) ?_
        refine wpList_nil ?_
        simp only [Act.put, List.setIfInBounds_toArray, List.set_cons_zero, List.set_cons_succ]
        go_wp2
        refine bodyPost_ret (results_cell_tmp rfl _ _ (b0 + 1 + 1) [.string ⟨#[]⟩, .string ⟨#[]⟩, .slice none 0 0] _ (.int .i64 4) rfl (range_row HRW4.out) hu34 rfl info34 rfl) rfl ?_
        refine ⟨HBS.out, none, 0, ?_, ?_, ?_⟩
        · rw [N.out]
          rfl
        · rw [N.out]
          exact Nat.le_refl _
        · rw [N.out]
          exact kd_nil _
    · obtain rfl : by' = false := by simpa using hby
      have N : Hid (compR x y = (z34, 4)) := Lib.hid (NO.out (fun h => by rw [← HBY.out] at h; exact absurd h.2.1 (by simp)))
      clear YES NO RGG RH HBX HBY hby
      go_upto_region 4 with fail
      refine wp_region_list ?_
      dsimp only [List.toList_toArray]
      refine wpList_val (v := .agg #[.string ⟨#[]⟩, .string ⟨#[]⟩, .slice none 0 0]) (w' := W4) rfl (exec_build0 rfl (build34 W4)) ?_
      refine wpList_unit (w' := W9) rfl (by exact run_u HST4.out) ?_
      refine wpList_val (v := .int .i64 4) (w' := W9) rfl (by go_simp) ?_
      refine wpList_nil ?_
      simp only [Act.put, List.setIfInBounds_toArray, List.set_cons_zero, List.set_cons_succ]
      go_wp2
      refine bodyPost_ret (results_cell_tmp rfl _ _ (b0 + 1 + 1) [.string ⟨#[]⟩, .string ⟨#[]⟩, .slice none 0 0] _ (.int .i64 4) rfl (range_row HRW4.out) hu34 rfl info34 rfl) rfl ?_
      refine ⟨HBS.out, none, 0, ?_, ?_, ?_⟩
      · rw [N.out]
        rfl
      · rw [N.out]
        exact Nat.le_refl _
      · rw [N.out]
        exact kd_nil _
  · obtain rfl : bx = false := by simpa using hbx
    have N : Hid (compR x y = (z34, 4)) := Lib.hid (NO.out (fun h => by rw [← HBX.out] at h; exact absurd h.1 (by simp)))
    clear YES NO RGG RH HBX HBY hbx
    go_upto_region 4 with fail
    refine wp_region_list ?_
    dsimp only [List.toList_toArray]
    refine wpList_val (v := .agg #[.string ⟨#[]⟩, .string ⟨#[]⟩, .slice none 0 0]) (w' := W4) rfl (exec_build0 rfl (build34 W4)) ?_
    refine wpList_unit (w' := W9) rfl (by exact run_u HST4.out) ?_
    refine wpList_val (v := .int .i64 4) (w' := W9) rfl (by go_simp) ?_
    refine wpList_nil ?_
    simp only [Act.put, List.setIfInBounds_toArray, List.set_cons_zero, List.set_cons_succ]
    go_wp2
    refine bodyPost_ret (results_cell_tmp rfl _ _ (b0 + 1 + 1) [.string ⟨#[]⟩, .string ⟨#[]⟩, .slice none 0 0] _ (.int .i64 4) rfl (range_row HRW4.out) hu34 rfl info34 rfl) rfl ?_
    refine ⟨HBS.out, none, 0, ?_, ?_, ?_⟩
    · rw [N.out]
      rfl
    · rw [N.out]
      exact Nat.le_refl _
    · rw [N.out]
      exact kd_nil _
end Go.Proofs.Ytdinmdjdkhlgcaa
