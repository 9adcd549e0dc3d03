/- The law SizesAssociates: its walk. -/
import Derived.Test.YtdinmdjdkhlgcaaSame
namespace Go.Proofs.Ytdinmdjdkhlgcaa
open Go.RowKit Go.Proofs.YtdinmdjdkhlgcaaW.PrintWords Go.Proofs.Ytdinmdjdkhlgcaa.Sz
set_option linter.unusedVariables false
set_option linter.unusedSimpArgs false

/-- The law's end: awake, and true. -/
theorem awake_R {w : World} {e : Ending} {w' : World} (h : e = .returned (.bool true) ∧ Below w.heap.size w w') : ∃ v, e = .returned v ∧ (v = .bool true ∧ Below w.heap.size w w') := ⟨_, h.1, rfl, h.2⟩
theorem bool_R {b : Bool} {w : World} {e : Ending} {w' : World} (h : e = .returned (.bool b) ∧ Below w.heap.size w w') : ∃ v, e = .returned v ∧ (v = .bool b ∧ Below w.heap.size w w') := ⟨_, h.1, rfl, h.2⟩
set_option maxHeartbeats 40000000 in
set_option maxRecDepth 100000 in
theorem assoc_calls (x y z : S34) (A1 : Option Addr) (c1 : Nat) (A2 : Option Addr) (c2 : Nat) (A3 : Option Addr) (c3 : Nat) (w : World) (hx : Kd.C k24 w A1 x.f2.length x.f2) (hc1 : x.f2.length ≤ c1) (hy : Kd.C k24 w A2 y.f2.length y.f2) (hc2 : y.f2.length ≤ c2) (hz : Kd.C k24 w A3 z.f2.length z.f2) (hc3 : z.f2.length ≤ c3) :
    Calls Try.prog 5 #[v34 x A1 c1, v34 y A2 c2, v34 z A3 c3] w fun e w' => e = .returned (.bool true) ∧ Below w.heap.size w w' := by
  have hu34 := Try.underlying34
  obtain ⟨W0, hW0⟩ : ∃ W0, W0 = ((w.alloc (.cells #[.string x.f0, .string x.f1, .slice A1 x.f2.length c1] 34)).alloc (.cells #[.string y.f0, .string y.f1, .slice A2 y.f2.length c2] 34)).alloc (.cells #[.string z.f0, .string z.f1, .slice A3 z.f2.length c3] 34) := ⟨_, rfl⟩
  obtain ⟨b0, hb0⟩ : ∃ b, b = w.heap.size := ⟨_, rfl⟩
  have rows : Below w.heap.size w W0 ∧ W0.heap[b0]? = some (.cells #[.string x.f0, .string x.f1, .slice A1 x.f2.length c1] 34 (0, 0)) ∧ W0.heap[b0 + 1]? = some (.cells #[.string y.f0, .string y.f1, .slice A2 y.f2.length c2] 34 (0, 0)) ∧ W0.heap[b0 + 1 + 1]? = some (.cells #[.string z.f0, .string z.f1, .slice A3 z.f2.length c3] 34 (0, 0)) := by
    rw [hW0, hb0]
    have hb : ∀ (v : World) (o : Obj), Below v.heap.size v (v.alloc o) := fun v o => (Below.refl _ _).alloc (Nat.le_refl _) o
    have h1 := heap_alloc_new w (.cells #[.string x.f0, .string x.f1, .slice A1 x.f2.length c1] 34)
    have h2 := heap_alloc_new (w.alloc (.cells #[.string x.f0, .string x.f1, .slice A1 x.f2.length c1] 34)) (.cells #[.string y.f0, .string y.f1, .slice A2 y.f2.length c2] 34)
    have h3 := heap_alloc_new ((w.alloc (.cells #[.string x.f0, .string x.f1, .slice A1 x.f2.length c1] 34)).alloc (.cells #[.string y.f0, .string y.f1, .slice A2 y.f2.length c2] 34)) (.cells #[.string z.f0, .string z.f1, .slice A3 z.f2.length c3] 34)
    simp only [size_alloc] at h2 h3
    exact ⟨((Below.refl _ _).alloc (Nat.le_refl _) _).alloc (by simp) _ |>.alloc (by simp; omega) _, row_below (row_below h1 (hb _ _)) (hb _ _), row_below h2 (hb _ _), h3⟩
  obtain ⟨B0, r1, r2, r3⟩ := rows
  have HB := Lib.hid B0
  have R1 := Lib.hid r1
  have R2 := Lib.hid r2
  have R3 := Lib.hid r3
  have KX := Lib.hid hx
  have KY := Lib.hid hy
  have KZ := Lib.hid hz
  have C1 := Lib.hid hc1
  have C2 := Lib.hid hc2
  have C3 := Lib.hid hc3
  clear hx hy hz hc1 hc2 hc3 B0 r1 r2 r3
  go_enter Try.func5, Try.ntmps5
  go_upto_region 1 with fail
  rw [← hW0, ← hb0]
  clear hW0 hb0
  cases hx : bigC x with
  | true =>
    refine wp_region_list ?_
    dsimp only [List.toList_toArray]
    refine wpList_loadv rfl rfl rfl (run_loadAt_mid W0 b0 0 34 (l34 x A1 c1) _ (range_row R1.out) hu34 rfl info34) ?_
    try simp only [Act.put, List.setIfInBounds_toArray, List.set_cons_zero, List.set_cons_succ]
    try simp only [Act.put, List.setIfInBounds_toArray, List.set_cons_zero, List.set_cons_succ]
    have HC := Lib.hid (big_calls x A1 c1 W0 (Kd.C_below KX.out HB.out) C1.out)
    rw [hx] at HC
    refine wpList_call (f := 15) (args := #[.agg #[.string x.f0, .string x.f1, .slice A1 x.f2.length c1]]) (R := fun v w' => v = .bool true ∧ Below W0.heap.size W0 w') rfl (by go_simp) (HC.out.mono fun e w' h => bool_R h) ?_
    rintro v w1 ⟨rfl, hb⟩
    have n_ := Lib.hid (below_then HB.out hb)
    clear HB
    have HB := n_
    clear n_
    have n_ := Lib.hid (row_below R1.out hb)
    clear R1
    have R1 := n_
    clear n_
    have n_ := Lib.hid (row_below R2.out hb)
    clear R2
    have R2 := n_
    clear n_
    have n_ := Lib.hid (row_below R3.out hb)
    clear R3
    have R3 := n_
    clear n_
    clear hb HC
    try simp only [Act.put, List.setIfInBounds_toArray, List.set_cons_zero, List.set_cons_succ]
    refine wpList_val (v := .bool true) (w' := w1) rfl (by go_simp) ?_
    refine wpList_skip (by kernel_rfl) ?_
    refine wpList_skip (by kernel_rfl) ?_
    try simp only [Act.put, List.setIfInBounds_toArray, List.set_cons_zero, List.set_cons_succ]
    refine wpList_val (v := .bool true) (w' := w1) rfl (by go_simp) ?_
    try simp only [Act.put, List.setIfInBounds_toArray, List.set_cons_zero, List.set_cons_succ]
    refine wpList_val (v := .bool true) (w' := w1) rfl (by go_simp) ?_
    refine wpList_skip (by kernel_rfl) ?_
    refine wpList_skip (by kernel_rfl) ?_
    try simp only [Act.put, List.setIfInBounds_toArray, List.set_cons_zero, List.set_cons_succ]
    refine wpList_val (v := .bool true) (w' := w1) rfl (by go_simp) ?_
    refine wpList_nil ?_
    simp only [Act.put, List.setIfInBounds_toArray, List.set_cons_zero, List.set_cons_succ]
    go_upto_region 2 with fail
    refine wp_region_list ?_
    dsimp only [List.toList_toArray]
    refine wpList_call (f := 10) (args := #[]) (R := fun v w' => v = .bool true ∧ Below w1.heap.size w1 w') rfl (by go_simp) ((awake_calls w1).mono fun e w' h => awake_R h) ?_
    rintro v w9 ⟨rfl, hb⟩
    have n_ := Lib.hid (below_then HB.out hb)
    clear HB
    have HB := n_
    clear n_
    clear hb
    try simp only [Act.put, List.setIfInBounds_toArray, List.set_cons_zero, List.set_cons_succ]
    refine wpList_val (v := .bool true) (w' := w9) rfl (by go_simp) ?_
    refine wpList_nil ?_
    simp only [Act.put, List.setIfInBounds_toArray, List.set_cons_zero, List.set_cons_succ]
    go_wp2
    go_ret
    exact ⟨rfl, HB.out⟩
  | false =>
    cases hy : bigC y with
    | true =>
      refine wp_region_list ?_
      dsimp only [List.toList_toArray]
      refine wpList_loadv rfl rfl rfl (run_loadAt_mid W0 b0 0 34 (l34 x A1 c1) _ (range_row R1.out) hu34 rfl info34) ?_
      try simp only [Act.put, List.setIfInBounds_toArray, List.set_cons_zero, List.set_cons_succ]
      try simp only [Act.put, List.setIfInBounds_toArray, List.set_cons_zero, List.set_cons_succ]
      have HC := Lib.hid (big_calls x A1 c1 W0 (Kd.C_below KX.out HB.out) C1.out)
      rw [hx] at HC
      refine wpList_call (f := 15) (args := #[.agg #[.string x.f0, .string x.f1, .slice A1 x.f2.length c1]]) (R := fun v w' => v = .bool false ∧ Below W0.heap.size W0 w') rfl (by go_simp) (HC.out.mono fun e w' h => bool_R h) ?_
      rintro v w1 ⟨rfl, hb⟩
      have n_ := Lib.hid (below_then HB.out hb)
      clear HB
      have HB := n_
      clear n_
      have n_ := Lib.hid (row_below R1.out hb)
      clear R1
      have R1 := n_
      clear n_
      have n_ := Lib.hid (row_below R2.out hb)
      clear R2
      have R2 := n_
      clear n_
      have n_ := Lib.hid (row_below R3.out hb)
      clear R3
      have R3 := n_
      clear n_
      clear hb HC
      try simp only [Act.put, List.setIfInBounds_toArray, List.set_cons_zero, List.set_cons_succ]
      refine wpList_val (v := .bool false) (w' := w1) rfl (by go_simp) ?_
      try simp only [Act.put, List.setIfInBounds_toArray, List.set_cons_zero, List.set_cons_succ]
      try simp only [Act.put, List.setIfInBounds_toArray, List.set_cons_zero, List.set_cons_succ]
      refine wpList_loadv rfl (by kernel_rfl) rfl (run_loadAt_mid w1 (b0 + 1) 0 34 (l34 y A2 c2) _ (range_row R2.out) hu34 rfl info34) ?_
      try simp only [Act.put, List.setIfInBounds_toArray, List.set_cons_zero, List.set_cons_succ]
      try simp only [Act.put, List.setIfInBounds_toArray, List.set_cons_zero, List.set_cons_succ]
      have HC := Lib.hid (big_calls y A2 c2 w1 (Kd.C_below KY.out HB.out) C2.out)
      rw [hy] at HC
      refine wpList_call (f := 15) (args := #[.agg #[.string y.f0, .string y.f1, .slice A2 y.f2.length c2]]) (R := fun v w' => v = .bool true ∧ Below w1.heap.size w1 w') (by kernel_rfl) (by go_simp) (HC.out.mono fun e w' h => bool_R h) ?_
      rintro v w2 ⟨rfl, hb⟩
      have n_ := Lib.hid (below_then HB.out hb)
      clear HB
      have HB := n_
      clear n_
      have n_ := Lib.hid (row_below R1.out hb)
      clear R1
      have R1 := n_
      clear n_
      have n_ := Lib.hid (row_below R2.out hb)
      clear R2
      have R2 := n_
      clear n_
      have n_ := Lib.hid (row_below R3.out hb)
      clear R3
      have R3 := n_
      clear n_
      clear hb HC
      try simp only [Act.put, List.setIfInBounds_toArray, List.set_cons_zero, List.set_cons_succ]
      refine wpList_val (v := .bool true) (w' := w2) rfl (by go_simp) ?_
      try simp only [Act.put, List.setIfInBounds_toArray, List.set_cons_zero, List.set_cons_succ]
      refine wpList_val (v := .bool true) (w' := w2) rfl (by go_simp) ?_
      refine wpList_skip (by kernel_rfl) ?_
      refine wpList_skip (by kernel_rfl) ?_
      try simp only [Act.put, List.setIfInBounds_toArray, List.set_cons_zero, List.set_cons_succ]
      refine wpList_val (v := .bool true) (w' := w2) rfl (by go_simp) ?_
      refine wpList_nil ?_
      simp only [Act.put, List.setIfInBounds_toArray, List.set_cons_zero, List.set_cons_succ]
      go_upto_region 2 with fail
      refine wp_region_list ?_
      dsimp only [List.toList_toArray]
      refine wpList_call (f := 10) (args := #[]) (R := fun v w' => v = .bool true ∧ Below w2.heap.size w2 w') rfl (by go_simp) ((awake_calls w2).mono fun e w' h => awake_R h) ?_
      rintro v w9 ⟨rfl, hb⟩
      have n_ := Lib.hid (below_then HB.out hb)
      clear HB
      have HB := n_
      clear n_
      clear hb
      try simp only [Act.put, List.setIfInBounds_toArray, List.set_cons_zero, List.set_cons_succ]
      refine wpList_val (v := .bool true) (w' := w9) rfl (by go_simp) ?_
      refine wpList_nil ?_
      simp only [Act.put, List.setIfInBounds_toArray, List.set_cons_zero, List.set_cons_succ]
      go_wp2
      go_ret
      exact ⟨rfl, HB.out⟩
    | false =>
      cases hz : bigC z with
      | true =>
        refine wp_region_list ?_
        dsimp only [List.toList_toArray]
        refine wpList_loadv rfl rfl rfl (run_loadAt_mid W0 b0 0 34 (l34 x A1 c1) _ (range_row R1.out) hu34 rfl info34) ?_
        try simp only [Act.put, List.setIfInBounds_toArray, List.set_cons_zero, List.set_cons_succ]
        try simp only [Act.put, List.setIfInBounds_toArray, List.set_cons_zero, List.set_cons_succ]
        have HC := Lib.hid (big_calls x A1 c1 W0 (Kd.C_below KX.out HB.out) C1.out)
        rw [hx] at HC
        refine wpList_call (f := 15) (args := #[.agg #[.string x.f0, .string x.f1, .slice A1 x.f2.length c1]]) (R := fun v w' => v = .bool false ∧ Below W0.heap.size W0 w') rfl (by go_simp) (HC.out.mono fun e w' h => bool_R h) ?_
        rintro v w1 ⟨rfl, hb⟩
        have n_ := Lib.hid (below_then HB.out hb)
        clear HB
        have HB := n_
        clear n_
        have n_ := Lib.hid (row_below R1.out hb)
        clear R1
        have R1 := n_
        clear n_
        have n_ := Lib.hid (row_below R2.out hb)
        clear R2
        have R2 := n_
        clear n_
        have n_ := Lib.hid (row_below R3.out hb)
        clear R3
        have R3 := n_
        clear n_
        clear hb HC
        try simp only [Act.put, List.setIfInBounds_toArray, List.set_cons_zero, List.set_cons_succ]
        refine wpList_val (v := .bool false) (w' := w1) rfl (by go_simp) ?_
        try simp only [Act.put, List.setIfInBounds_toArray, List.set_cons_zero, List.set_cons_succ]
        try simp only [Act.put, List.setIfInBounds_toArray, List.set_cons_zero, List.set_cons_succ]
        refine wpList_loadv rfl (by kernel_rfl) rfl (run_loadAt_mid w1 (b0 + 1) 0 34 (l34 y A2 c2) _ (range_row R2.out) hu34 rfl info34) ?_
        try simp only [Act.put, List.setIfInBounds_toArray, List.set_cons_zero, List.set_cons_succ]
        try simp only [Act.put, List.setIfInBounds_toArray, List.set_cons_zero, List.set_cons_succ]
        have HC := Lib.hid (big_calls y A2 c2 w1 (Kd.C_below KY.out HB.out) C2.out)
        rw [hy] at HC
        refine wpList_call (f := 15) (args := #[.agg #[.string y.f0, .string y.f1, .slice A2 y.f2.length c2]]) (R := fun v w' => v = .bool false ∧ Below w1.heap.size w1 w') (by kernel_rfl) (by go_simp) (HC.out.mono fun e w' h => bool_R h) ?_
        rintro v w2 ⟨rfl, hb⟩
        have n_ := Lib.hid (below_then HB.out hb)
        clear HB
        have HB := n_
        clear n_
        have n_ := Lib.hid (row_below R1.out hb)
        clear R1
        have R1 := n_
        clear n_
        have n_ := Lib.hid (row_below R2.out hb)
        clear R2
        have R2 := n_
        clear n_
        have n_ := Lib.hid (row_below R3.out hb)
        clear R3
        have R3 := n_
        clear n_
        clear hb HC
        try simp only [Act.put, List.setIfInBounds_toArray, List.set_cons_zero, List.set_cons_succ]
        refine wpList_val (v := .bool false) (w' := w2) rfl (by go_simp) ?_
        try simp only [Act.put, List.setIfInBounds_toArray, List.set_cons_zero, List.set_cons_succ]
        refine wpList_val (v := .bool false) (w' := w2) rfl (by go_simp) ?_
        try simp only [Act.put, List.setIfInBounds_toArray, List.set_cons_zero, List.set_cons_succ]
        try simp only [Act.put, List.setIfInBounds_toArray, List.set_cons_zero, List.set_cons_succ]
        refine wpList_loadv rfl (by kernel_rfl) rfl (run_loadAt_mid w2 (b0 + 1 + 1) 0 34 (l34 z A3 c3) _ (range_row R3.out) hu34 rfl info34) ?_
        try simp only [Act.put, List.setIfInBounds_toArray, List.set_cons_zero, List.set_cons_succ]
        try simp only [Act.put, List.setIfInBounds_toArray, List.set_cons_zero, List.set_cons_succ]
        have HC := Lib.hid (big_calls z A3 c3 w2 (Kd.C_below KZ.out HB.out) C3.out)
        rw [hz] at HC
        refine wpList_call (f := 15) (args := #[.agg #[.string z.f0, .string z.f1, .slice A3 z.f2.length c3]]) (R := fun v w' => v = .bool true ∧ Below w2.heap.size w2 w') (by kernel_rfl) (by go_simp) (HC.out.mono fun e w' h => bool_R h) ?_
        rintro v w3 ⟨rfl, hb⟩
        have n_ := Lib.hid (below_then HB.out hb)
        clear HB
        have HB := n_
        clear n_
        have n_ := Lib.hid (row_below R1.out hb)
        clear R1
        have R1 := n_
        clear n_
        have n_ := Lib.hid (row_below R2.out hb)
        clear R2
        have R2 := n_
        clear n_
        have n_ := Lib.hid (row_below R3.out hb)
        clear R3
        have R3 := n_
        clear n_
        clear hb HC
        try simp only [Act.put, List.setIfInBounds_toArray, List.set_cons_zero, List.set_cons_succ]
        refine wpList_val (v := .bool true) (w' := w3) rfl (by go_simp) ?_
        refine wpList_nil ?_
        simp only [Act.put, List.setIfInBounds_toArray, List.set_cons_zero, List.set_cons_succ]
        go_upto_region 2 with fail
        refine wp_region_list ?_
        dsimp only [List.toList_toArray]
        refine wpList_call (f := 10) (args := #[]) (R := fun v w' => v = .bool true ∧ Below w3.heap.size w3 w') rfl (by go_simp) ((awake_calls w3).mono fun e w' h => awake_R h) ?_
        rintro v w9 ⟨rfl, hb⟩
        have n_ := Lib.hid (below_then HB.out hb)
        clear HB
        have HB := n_
        clear n_
        clear hb
        try simp only [Act.put, List.setIfInBounds_toArray, List.set_cons_zero, List.set_cons_succ]
        refine wpList_val (v := .bool true) (w' := w9) rfl (by go_simp) ?_
        refine wpList_nil ?_
        simp only [Act.put, List.setIfInBounds_toArray, List.set_cons_zero, List.set_cons_succ]
        go_wp2
        go_ret
        exact ⟨rfl, HB.out⟩
      | false =>
        refine wp_region_list ?_
        dsimp only [List.toList_toArray]
        refine wpList_loadv rfl rfl rfl (run_loadAt_mid W0 b0 0 34 (l34 x A1 c1) _ (range_row R1.out) hu34 rfl info34) ?_
        try simp only [Act.put, List.setIfInBounds_toArray, List.set_cons_zero, List.set_cons_succ]
        try simp only [Act.put, List.setIfInBounds_toArray, List.set_cons_zero, List.set_cons_succ]
        have HC := Lib.hid (big_calls x A1 c1 W0 (Kd.C_below KX.out HB.out) C1.out)
        rw [hx] at HC
        refine wpList_call (f := 15) (args := #[.agg #[.string x.f0, .string x.f1, .slice A1 x.f2.length c1]]) (R := fun v w' => v = .bool false ∧ Below W0.heap.size W0 w') rfl (by go_simp) (HC.out.mono fun e w' h => bool_R h) ?_
        rintro v w1 ⟨rfl, hb⟩
        have n_ := Lib.hid (below_then HB.out hb)
        clear HB
        have HB := n_
        clear n_
        have n_ := Lib.hid (row_below R1.out hb)
        clear R1
        have R1 := n_
        clear n_
        have n_ := Lib.hid (row_below R2.out hb)
        clear R2
        have R2 := n_
        clear n_
        have n_ := Lib.hid (row_below R3.out hb)
        clear R3
        have R3 := n_
        clear n_
        clear hb HC
        try simp only [Act.put, List.setIfInBounds_toArray, List.set_cons_zero, List.set_cons_succ]
        refine wpList_val (v := .bool false) (w' := w1) rfl (by go_simp) ?_
        try simp only [Act.put, List.setIfInBounds_toArray, List.set_cons_zero, List.set_cons_succ]
        try simp only [Act.put, List.setIfInBounds_toArray, List.set_cons_zero, List.set_cons_succ]
        refine wpList_loadv rfl (by kernel_rfl) rfl (run_loadAt_mid w1 (b0 + 1) 0 34 (l34 y A2 c2) _ (range_row R2.out) hu34 rfl info34) ?_
        try simp only [Act.put, List.setIfInBounds_toArray, List.set_cons_zero, List.set_cons_succ]
        try simp only [Act.put, List.setIfInBounds_toArray, List.set_cons_zero, List.set_cons_succ]
        have HC := Lib.hid (big_calls y A2 c2 w1 (Kd.C_below KY.out HB.out) C2.out)
        rw [hy] at HC
        refine wpList_call (f := 15) (args := #[.agg #[.string y.f0, .string y.f1, .slice A2 y.f2.length c2]]) (R := fun v w' => v = .bool false ∧ Below w1.heap.size w1 w') (by kernel_rfl) (by go_simp) (HC.out.mono fun e w' h => bool_R h) ?_
        rintro v w2 ⟨rfl, hb⟩
        have n_ := Lib.hid (below_then HB.out hb)
        clear HB
        have HB := n_
        clear n_
        have n_ := Lib.hid (row_below R1.out hb)
        clear R1
        have R1 := n_
        clear n_
        have n_ := Lib.hid (row_below R2.out hb)
        clear R2
        have R2 := n_
        clear n_
        have n_ := Lib.hid (row_below R3.out hb)
        clear R3
        have R3 := n_
        clear n_
        clear hb HC
        try simp only [Act.put, List.setIfInBounds_toArray, List.set_cons_zero, List.set_cons_succ]
        refine wpList_val (v := .bool false) (w' := w2) rfl (by go_simp) ?_
        try simp only [Act.put, List.setIfInBounds_toArray, List.set_cons_zero, List.set_cons_succ]
        refine wpList_val (v := .bool false) (w' := w2) rfl (by go_simp) ?_
        try simp only [Act.put, List.setIfInBounds_toArray, List.set_cons_zero, List.set_cons_succ]
        try simp only [Act.put, List.setIfInBounds_toArray, List.set_cons_zero, List.set_cons_succ]
        refine wpList_loadv rfl (by kernel_rfl) rfl (run_loadAt_mid w2 (b0 + 1 + 1) 0 34 (l34 z A3 c3) _ (range_row R3.out) hu34 rfl info34) ?_
        try simp only [Act.put, List.setIfInBounds_toArray, List.set_cons_zero, List.set_cons_succ]
        try simp only [Act.put, List.setIfInBounds_toArray, List.set_cons_zero, List.set_cons_succ]
        have HC := Lib.hid (big_calls z A3 c3 w2 (Kd.C_below KZ.out HB.out) C3.out)
        rw [hz] at HC
        refine wpList_call (f := 15) (args := #[.agg #[.string z.f0, .string z.f1, .slice A3 z.f2.length c3]]) (R := fun v w' => v = .bool false ∧ Below w2.heap.size w2 w') (by kernel_rfl) (by go_simp) (HC.out.mono fun e w' h => bool_R h) ?_
        rintro v w3 ⟨rfl, hb⟩
        have n_ := Lib.hid (below_then HB.out hb)
        clear HB
        have HB := n_
        clear n_
        have n_ := Lib.hid (row_below R1.out hb)
        clear R1
        have R1 := n_
        clear n_
        have n_ := Lib.hid (row_below R2.out hb)
        clear R2
        have R2 := n_
        clear n_
        have n_ := Lib.hid (row_below R3.out hb)
        clear R3
        have R3 := n_
        clear n_
        clear hb HC
        try simp only [Act.put, List.setIfInBounds_toArray, List.set_cons_zero, List.set_cons_succ]
        refine wpList_val (v := .bool false) (w' := w3) rfl (by go_simp) ?_
        refine wpList_nil ?_
        simp only [Act.put, List.setIfInBounds_toArray, List.set_cons_zero, List.set_cons_succ]
        have SX := Lib.hid (bigC_max hx)
        have SY := Lib.hid (bigC_max hy)
        have SZ := Lib.hid (bigC_max hz)
        obtain ⟨⟨r1, e1⟩, h1⟩ : ∃ r, compR x y = r := ⟨_, rfl⟩
        obtain ⟨⟨r2, e2⟩, h2⟩ : ∃ r, compR y z = r := ⟨_, rfl⟩
        have H1 := Lib.hid h1
        have H2 := Lib.hid h2
        clear h1 h2 hx hy hz
        go_upto_region 3 with fail
        refine wp_region_list ?_
        dsimp only [List.toList_toArray]
        refine wpList_loadv rfl rfl rfl (run_loadAt_mid w3 b0 0 34 (l34 x A1 c1) _ (range_row R1.out) hu34 rfl info34) ?_
        try simp only [Act.put, List.setIfInBounds_toArray, List.set_cons_zero, List.set_cons_succ]
        try simp only [Act.put, List.setIfInBounds_toArray, List.set_cons_zero, List.set_cons_succ]
        refine wpList_loadv rfl rfl rfl (run_loadAt_mid w3 (b0 + 1) 0 34 (l34 y A2 c2) _ (range_row R2.out) hu34 rfl info34) ?_
        try simp only [Act.put, List.setIfInBounds_toArray, List.set_cons_zero, List.set_cons_succ]
        try simp only [Act.put, List.setIfInBounds_toArray, List.set_cons_zero, List.set_cons_succ]
        have HC := Lib.hid (compose_calls x y A1 c1 A2 c2 w3 (Kd.C_below KX.out HB.out) C1.out (Kd.C_below KY.out HB.out) C2.out SX.out.1 SX.out.2 SY.out.1 SY.out.2)
        refine wpList_call (f := 16) (args := #[.agg #[.string x.f0, .string x.f1, .slice A1 x.f2.length c1], .agg #[.string y.f0, .string y.f1, .slice A2 y.f2.length c2]]) (R := fun v w' => Below w3.heap.size w3 w' ∧ ∃ A c, v = .tuple #[v34 r1 A c, .int .i64 e1] ∧ r1.f2.length ≤ c ∧ Kd.C k24 w' A r1.f2.length r1.f2) rfl (by go_simp) (HC.out.mono fun e w' h => comp_R H1.out h) ?_
        rintro v w4 ⟨hb, A4, c4, rfl, hl, hk⟩
        have n_ := Lib.hid (below_then HB.out (below_then hb ((Below.refl _ _).alloc (Nat.le_refl _) (.cells #[.string r1.f0, .string r1.f1, .slice A4 r1.f2.length c4] 34))))
        clear HB
        have HB := n_
        clear n_
        have n_ := Lib.hid (row_below R1.out (below_then hb ((Below.refl _ _).alloc (Nat.le_refl _) (.cells #[.string r1.f0, .string r1.f1, .slice A4 r1.f2.length c4] 34))))
        clear R1
        have R1 := n_
        clear n_
        have n_ := Lib.hid (row_below R2.out (below_then hb ((Below.refl _ _).alloc (Nat.le_refl _) (.cells #[.string r1.f0, .string r1.f1, .slice A4 r1.f2.length c4] 34))))
        clear R2
        have R2 := n_
        clear n_
        have n_ := Lib.hid (row_below R3.out (below_then hb ((Below.refl _ _).alloc (Nat.le_refl _) (.cells #[.string r1.f0, .string r1.f1, .slice A4 r1.f2.length c4] 34))))
        clear R3
        have R3 := n_
        clear n_
        have C4 := Lib.hid hl
        have KR : Hid (Kd.C k24 (w4.alloc (.cells #[.string r1.f0, .string r1.f1, .slice A4 r1.f2.length c4] 34)) A4 r1.f2.length r1.f2) := Lib.hid (Kd.C_below hk ((Below.refl _ _).alloc (Nat.le_refl _) _))
        have R4 := Lib.hid (box34 (w := w4) r1 A4 c4)
        have HST := Lib.hid (store_new34 w4 r1 A4 c4)
        clear hb hl hk HC
        try simp only [Act.put, List.setIfInBounds_toArray, List.set_cons_zero, List.set_cons_succ]
        refine wpList_val (v := .tuple #[.agg #[.string r1.f0, .string r1.f1, .slice A4 r1.f2.length c4], .int .i64 e1]) (w' := w4) rfl (by go_simp) ?_
        try simp only [Act.put, List.setIfInBounds_toArray, List.set_cons_zero, List.set_cons_succ]
        refine wpList_val (v := .agg #[.string r1.f0, .string r1.f1, .slice A4 r1.f2.length c4]) (w' := w4) rfl (by go_simp) ?_
        try simp only [Act.put, List.setIfInBounds_toArray, List.set_cons_zero, List.set_cons_succ]
        refine wpList_val (v := .int .i64 e1) (w' := w4) rfl (by go_simp) ?_
        try simp only [Act.put, List.setIfInBounds_toArray, List.set_cons_zero, List.set_cons_succ]
        refine wpList_val (v := .pointer (some ⟨w4.heap.size, 0, none⟩)) (w' := (w4.alloc (.cells #[.string ⟨#[]⟩, .string ⟨#[]⟩, .slice none 0 0] 34))) rfl (by go_simp) ?_
        try simp only [Act.put, List.setIfInBounds_toArray, List.set_cons_zero, List.set_cons_succ]
        refine wpList_unit (w' := (w4.alloc (.cells #[.string r1.f0, .string r1.f1, .slice A4 r1.f2.length c4] 34))) rfl (by exact run_u HST.out) ?_
        try simp only [Act.put, List.setIfInBounds_toArray, List.set_cons_zero, List.set_cons_succ]
        refine wpList_val (v := .int .i64 e1) (w' := (w4.alloc (.cells #[.string r1.f0, .string r1.f1, .slice A4 r1.f2.length c4] 34))) rfl (by go_simp) ?_
        refine wpList_nil ?_
        simp only [Act.put, List.setIfInBounds_toArray, List.set_cons_zero, List.set_cons_succ]
        clear HST
        obtain ⟨b7, hbb⟩ : ∃ b, b = w4.heap.size := ⟨_, rfl⟩
        generalize w4.alloc (.cells #[.string r1.f0, .string r1.f1, .slice A4 r1.f2.length c4] 34) = W7 at *
        rw [← hbb] at R4 ⊢
        clear hbb
        go_upto_region 4 with fail
        refine wp_region_list ?_
        dsimp only [List.toList_toArray]
        refine wpList_loadv rfl rfl rfl (run_loadAt_mid W7 (b0 + 1) 0 34 (l34 y A2 c2) _ (range_row R2.out) hu34 rfl info34) ?_
        try simp only [Act.put, List.setIfInBounds_toArray, List.set_cons_zero, List.set_cons_succ]
        try simp only [Act.put, List.setIfInBounds_toArray, List.set_cons_zero, List.set_cons_succ]
        refine wpList_loadv rfl rfl rfl (run_loadAt_mid W7 (b0 + 1 + 1) 0 34 (l34 z A3 c3) _ (range_row R3.out) hu34 rfl info34) ?_
        try simp only [Act.put, List.setIfInBounds_toArray, List.set_cons_zero, List.set_cons_succ]
        try simp only [Act.put, List.setIfInBounds_toArray, List.set_cons_zero, List.set_cons_succ]
        have HC := Lib.hid (compose_calls y z A2 c2 A3 c3 W7 (Kd.C_below KY.out HB.out) C2.out (Kd.C_below KZ.out HB.out) C3.out SY.out.1 SY.out.2 SZ.out.1 SZ.out.2)
        refine wpList_call (f := 16) (args := #[.agg #[.string y.f0, .string y.f1, .slice A2 y.f2.length c2], .agg #[.string z.f0, .string z.f1, .slice A3 z.f2.length c3]]) (R := fun v w' => Below W7.heap.size W7 w' ∧ ∃ A c, v = .tuple #[v34 r2 A c, .int .i64 e2] ∧ r2.f2.length ≤ c ∧ Kd.C k24 w' A r2.f2.length r2.f2) rfl (by go_simp) (HC.out.mono fun e w' h => comp_R H2.out h) ?_
        rintro v w5 ⟨hb, A5, c5, rfl, hl, hk⟩
        have n_ := Lib.hid (below_then HB.out (below_then hb ((Below.refl _ _).alloc (Nat.le_refl _) (.cells #[.string r2.f0, .string r2.f1, .slice A5 r2.f2.length c5] 34))))
        clear HB
        have HB := n_
        clear n_
        have n_ := Lib.hid (row_below R1.out (below_then hb ((Below.refl _ _).alloc (Nat.le_refl _) (.cells #[.string r2.f0, .string r2.f1, .slice A5 r2.f2.length c5] 34))))
        clear R1
        have R1 := n_
        clear n_
        have n_ := Lib.hid (row_below R2.out (below_then hb ((Below.refl _ _).alloc (Nat.le_refl _) (.cells #[.string r2.f0, .string r2.f1, .slice A5 r2.f2.length c5] 34))))
        clear R2
        have R2 := n_
        clear n_
        have n_ := Lib.hid (row_below R3.out (below_then hb ((Below.refl _ _).alloc (Nat.le_refl _) (.cells #[.string r2.f0, .string r2.f1, .slice A5 r2.f2.length c5] 34))))
        clear R3
        have R3 := n_
        clear n_
        have n_ := Lib.hid (row_below R4.out (below_then hb ((Below.refl _ _).alloc (Nat.le_refl _) (.cells #[.string r2.f0, .string r2.f1, .slice A5 r2.f2.length c5] 34))))
        clear R4
        have R4 := n_
        clear n_
        have C5 := Lib.hid hl
        have KS : Hid (Kd.C k24 (w5.alloc (.cells #[.string r2.f0, .string r2.f1, .slice A5 r2.f2.length c5] 34)) A5 r2.f2.length r2.f2) := Lib.hid (Kd.C_below hk ((Below.refl _ _).alloc (Nat.le_refl _) _))
        have R5 := Lib.hid (box34 (w := w5) r2 A5 c5)
        have HST := Lib.hid (store_new34 w5 r2 A5 c5)
        have n_ : Hid (Kd.C k24 (w5.alloc (.cells #[.string r2.f0, .string r2.f1, .slice A5 r2.f2.length c5] 34)) A4 r1.f2.length r1.f2) := Lib.hid (Kd.C_below KR.out (below_then hb ((Below.refl _ _).alloc (Nat.le_refl _) _)))
        clear KR
        have KR := n_
        clear n_
        clear hb hl hk HC
        try simp only [Act.put, List.setIfInBounds_toArray, List.set_cons_zero, List.set_cons_succ]
        refine wpList_val (v := .tuple #[.agg #[.string r2.f0, .string r2.f1, .slice A5 r2.f2.length c5], .int .i64 e2]) (w' := w5) rfl (by go_simp) ?_
        try simp only [Act.put, List.setIfInBounds_toArray, List.set_cons_zero, List.set_cons_succ]
        refine wpList_val (v := .agg #[.string r2.f0, .string r2.f1, .slice A5 r2.f2.length c5]) (w' := w5) rfl (by go_simp) ?_
        try simp only [Act.put, List.setIfInBounds_toArray, List.set_cons_zero, List.set_cons_succ]
        refine wpList_val (v := .int .i64 e2) (w' := w5) rfl (by go_simp) ?_
        try simp only [Act.put, List.setIfInBounds_toArray, List.set_cons_zero, List.set_cons_succ]
        refine wpList_val (v := .pointer (some ⟨w5.heap.size, 0, none⟩)) (w' := (w5.alloc (.cells #[.string ⟨#[]⟩, .string ⟨#[]⟩, .slice none 0 0] 34))) rfl (by go_simp) ?_
        try simp only [Act.put, List.setIfInBounds_toArray, List.set_cons_zero, List.set_cons_succ]
        refine wpList_unit (w' := (w5.alloc (.cells #[.string r2.f0, .string r2.f1, .slice A5 r2.f2.length c5] 34))) rfl (by exact run_u HST.out) ?_
        try simp only [Act.put, List.setIfInBounds_toArray, List.set_cons_zero, List.set_cons_succ]
        refine wpList_val (v := .int .i64 e2) (w' := (w5.alloc (.cells #[.string r2.f0, .string r2.f1, .slice A5 r2.f2.length c5] 34))) rfl (by go_simp) ?_
        refine wpList_nil ?_
        simp only [Act.put, List.setIfInBounds_toArray, List.set_cons_zero, List.set_cons_succ]
        clear HST
        obtain ⟨b9, hbb⟩ : ∃ b, b = w5.heap.size := ⟨_, rfl⟩
        generalize w5.alloc (.cells #[.string r2.f0, .string r2.f1, .slice A5 r2.f2.length c5] 34) = W9 at *
        rw [← hbb] at R5 ⊢
        clear hbb
        rcases compR_cases H1.out with ⟨rfl, _⟩ | ⟨rfl, _⟩
        · rcases compR_cases H2.out with ⟨rfl, _⟩ | ⟨rfl, _⟩
          · obtain ⟨q, hq1, hq2, hql, s1, s2, s3, s4⟩ := comp_comp H1.out H2.out SX.out SY.out SZ.out
            have HQ1 := Lib.hid hq1
            have HQ2 := Lib.hid hq2
            have HQL := Lib.hid hql
            have S1 := Lib.hid (And.intro s1 s2)
            have S2 := Lib.hid (And.intro s3 s4)
            clear hq1 hq2 hql s1 s2 s3 s4
            go_upto_region 7 with fail
            refine wp_region_list ?_
            dsimp only [List.toList_toArray]
            refine wpList_loadv rfl rfl rfl (run_loadAt_mid W9 b7 0 34 (l34 r1 A4 c4) _ (range_row R4.out) hu34 rfl info34) ?_
            try simp only [Act.put, List.setIfInBounds_toArray, List.set_cons_zero, List.set_cons_succ]
            try simp only [Act.put, List.setIfInBounds_toArray, List.set_cons_zero, List.set_cons_succ]
            refine wpList_loadv rfl rfl rfl (run_loadAt_mid W9 (b0 + 1 + 1) 0 34 (l34 z A3 c3) _ (range_row R3.out) hu34 rfl info34) ?_
            try simp only [Act.put, List.setIfInBounds_toArray, List.set_cons_zero, List.set_cons_succ]
            try simp only [Act.put, List.setIfInBounds_toArray, List.set_cons_zero, List.set_cons_succ]
            have HC := Lib.hid (compose_calls r1 z A4 c4 A3 c3 W9 (KR.out) C4.out (Kd.C_below KZ.out HB.out) C3.out S1.out.1 S1.out.2 SZ.out.1 SZ.out.2)
            refine wpList_call (f := 16) (args := #[.agg #[.string r1.f0, .string r1.f1, .slice A4 r1.f2.length c4], .agg #[.string z.f0, .string z.f1, .slice A3 z.f2.length c3]]) (R := fun v w' => Below W9.heap.size W9 w' ∧ ∃ A c, v = .tuple #[v34 q A c, .int .i64 0] ∧ q.f2.length ≤ c ∧ Kd.C k24 w' A q.f2.length q.f2) rfl (by go_simp) (HC.out.mono fun e w' h => comp_R HQ1.out h) ?_
            rintro v w6 ⟨hb, A6, c6, rfl, hl, hk⟩
            have n_ := Lib.hid (below_then HB.out (below_then hb ((Below.refl _ _).alloc (Nat.le_refl _) (.cells #[.string q.f0, .string q.f1, .slice A6 q.f2.length c6] 34))))
            clear HB
            have HB := n_
            clear n_
            have n_ := Lib.hid (row_below R1.out (below_then hb ((Below.refl _ _).alloc (Nat.le_refl _) (.cells #[.string q.f0, .string q.f1, .slice A6 q.f2.length c6] 34))))
            clear R1
            have R1 := n_
            clear n_
            have n_ := Lib.hid (row_below R3.out (below_then hb ((Below.refl _ _).alloc (Nat.le_refl _) (.cells #[.string q.f0, .string q.f1, .slice A6 q.f2.length c6] 34))))
            clear R3
            have R3 := n_
            clear n_
            have n_ := Lib.hid (row_below R5.out (below_then hb ((Below.refl _ _).alloc (Nat.le_refl _) (.cells #[.string q.f0, .string q.f1, .slice A6 q.f2.length c6] 34))))
            clear R5
            have R5 := n_
            clear n_
            have C6 := Lib.hid hl
            have KQ : Hid (Kd.C k24 (w6.alloc (.cells #[.string q.f0, .string q.f1, .slice A6 q.f2.length c6] 34)) A6 q.f2.length q.f2) := Lib.hid (Kd.C_below hk ((Below.refl _ _).alloc (Nat.le_refl _) _))
            have R6 := Lib.hid (box34 (w := w6) q A6 c6)
            have HST := Lib.hid (store_new34 w6 q A6 c6)
            have n_ : Hid (Kd.C k24 (w6.alloc (.cells #[.string q.f0, .string q.f1, .slice A6 q.f2.length c6] 34)) A5 r2.f2.length r2.f2) := Lib.hid (Kd.C_below KS.out (below_then hb ((Below.refl _ _).alloc (Nat.le_refl _) _)))
            clear KS
            have KS := n_
            clear n_
            clear hb hl hk HC
            try simp only [Act.put, List.setIfInBounds_toArray, List.set_cons_zero, List.set_cons_succ]
            refine wpList_val (v := .tuple #[.agg #[.string q.f0, .string q.f1, .slice A6 q.f2.length c6], .int .i64 0]) (w' := w6) rfl (by go_simp) ?_
            try simp only [Act.put, List.setIfInBounds_toArray, List.set_cons_zero, List.set_cons_succ]
            refine wpList_val (v := .agg #[.string q.f0, .string q.f1, .slice A6 q.f2.length c6]) (w' := w6) rfl (by go_simp) ?_
            try simp only [Act.put, List.setIfInBounds_toArray, List.set_cons_zero, List.set_cons_succ]
            refine wpList_val (v := .int .i64 0) (w' := w6) rfl (by go_simp) ?_
            try simp only [Act.put, List.setIfInBounds_toArray, List.set_cons_zero, List.set_cons_succ]
            refine wpList_val (v := .pointer (some ⟨w6.heap.size, 0, none⟩)) (w' := (w6.alloc (.cells #[.string ⟨#[]⟩, .string ⟨#[]⟩, .slice none 0 0] 34))) rfl (by go_simp) ?_
            try simp only [Act.put, List.setIfInBounds_toArray, List.set_cons_zero, List.set_cons_succ]
            refine wpList_unit (w' := (w6.alloc (.cells #[.string q.f0, .string q.f1, .slice A6 q.f2.length c6] 34))) rfl (by exact run_u HST.out) ?_
            try simp only [Act.put, List.setIfInBounds_toArray, List.set_cons_zero, List.set_cons_succ]
            refine wpList_val (v := .int .i64 0) (w' := (w6.alloc (.cells #[.string q.f0, .string q.f1, .slice A6 q.f2.length c6] 34))) rfl (by go_simp) ?_
            refine wpList_nil ?_
            simp only [Act.put, List.setIfInBounds_toArray, List.set_cons_zero, List.set_cons_succ]
            clear HST
            obtain ⟨b11, hbb⟩ : ∃ b, b = w6.heap.size := ⟨_, rfl⟩
            generalize w6.alloc (.cells #[.string q.f0, .string q.f1, .slice A6 q.f2.length c6] 34) = W11 at *
            rw [← hbb] at R6 ⊢
            clear hbb
            go_upto_region 8 with fail
            refine wp_region_list ?_
            dsimp only [List.toList_toArray]
            refine wpList_loadv rfl rfl rfl (run_loadAt_mid W11 b0 0 34 (l34 x A1 c1) _ (range_row R1.out) hu34 rfl info34) ?_
            try simp only [Act.put, List.setIfInBounds_toArray, List.set_cons_zero, List.set_cons_succ]
            try simp only [Act.put, List.setIfInBounds_toArray, List.set_cons_zero, List.set_cons_succ]
            refine wpList_loadv rfl rfl rfl (run_loadAt_mid W11 b9 0 34 (l34 r2 A5 c5) _ (range_row R5.out) hu34 rfl info34) ?_
            try simp only [Act.put, List.setIfInBounds_toArray, List.set_cons_zero, List.set_cons_succ]
            try simp only [Act.put, List.setIfInBounds_toArray, List.set_cons_zero, List.set_cons_succ]
            have HC := Lib.hid (compose_calls x r2 A1 c1 A5 c5 W11 (Kd.C_below KX.out HB.out) C1.out (KS.out) C5.out SX.out.1 SX.out.2 S2.out.1 S2.out.2)
            refine wpList_call (f := 16) (args := #[.agg #[.string x.f0, .string x.f1, .slice A1 x.f2.length c1], .agg #[.string r2.f0, .string r2.f1, .slice A5 r2.f2.length c5]]) (R := fun v w' => Below W11.heap.size W11 w' ∧ ∃ A c, v = .tuple #[v34 q A c, .int .i64 0] ∧ q.f2.length ≤ c ∧ Kd.C k24 w' A q.f2.length q.f2) rfl (by go_simp) (HC.out.mono fun e w' h => comp_R HQ2.out h) ?_
            rintro v w7 ⟨hb, A7, c7, rfl, hl, hk⟩
            have n_ := Lib.hid (below_then HB.out (below_then hb ((Below.refl _ _).alloc (Nat.le_refl _) (.cells #[.string q.f0, .string q.f1, .slice A7 q.f2.length c7] 34))))
            clear HB
            have HB := n_
            clear n_
            have n_ := Lib.hid (row_below R6.out (below_then hb ((Below.refl _ _).alloc (Nat.le_refl _) (.cells #[.string q.f0, .string q.f1, .slice A7 q.f2.length c7] 34))))
            clear R6
            have R6 := n_
            clear n_
            have C7 := Lib.hid hl
            have KP : Hid (Kd.C k24 (w7.alloc (.cells #[.string q.f0, .string q.f1, .slice A7 q.f2.length c7] 34)) A7 q.f2.length q.f2) := Lib.hid (Kd.C_below hk ((Below.refl _ _).alloc (Nat.le_refl _) _))
            have R7 := Lib.hid (box34 (w := w7) q A7 c7)
            have HST := Lib.hid (store_new34 w7 q A7 c7)
            have n_ : Hid (Kd.C k24 (w7.alloc (.cells #[.string q.f0, .string q.f1, .slice A7 q.f2.length c7] 34)) A6 q.f2.length q.f2) := Lib.hid (Kd.C_below KQ.out (below_then hb ((Below.refl _ _).alloc (Nat.le_refl _) _)))
            clear KQ
            have KQ := n_
            clear n_
            clear hb hl hk HC
            try simp only [Act.put, List.setIfInBounds_toArray, List.set_cons_zero, List.set_cons_succ]
            refine wpList_val (v := .tuple #[.agg #[.string q.f0, .string q.f1, .slice A7 q.f2.length c7], .int .i64 0]) (w' := w7) rfl (by go_simp) ?_
            try simp only [Act.put, List.setIfInBounds_toArray, List.set_cons_zero, List.set_cons_succ]
            refine wpList_val (v := .agg #[.string q.f0, .string q.f1, .slice A7 q.f2.length c7]) (w' := w7) rfl (by go_simp) ?_
            try simp only [Act.put, List.setIfInBounds_toArray, List.set_cons_zero, List.set_cons_succ]
            refine wpList_val (v := .int .i64 0) (w' := w7) rfl (by go_simp) ?_
            try simp only [Act.put, List.setIfInBounds_toArray, List.set_cons_zero, List.set_cons_succ]
            refine wpList_val (v := .pointer (some ⟨w7.heap.size, 0, none⟩)) (w' := (w7.alloc (.cells #[.string ⟨#[]⟩, .string ⟨#[]⟩, .slice none 0 0] 34))) rfl (by go_simp) ?_
            try simp only [Act.put, List.setIfInBounds_toArray, List.set_cons_zero, List.set_cons_succ]
            refine wpList_unit (w' := (w7.alloc (.cells #[.string q.f0, .string q.f1, .slice A7 q.f2.length c7] 34))) rfl (by exact run_u HST.out) ?_
            try simp only [Act.put, List.setIfInBounds_toArray, List.set_cons_zero, List.set_cons_succ]
            refine wpList_val (v := .int .i64 0) (w' := (w7.alloc (.cells #[.string q.f0, .string q.f1, .slice A7 q.f2.length c7] 34))) rfl (by go_simp) ?_
            refine wpList_nil ?_
            simp only [Act.put, List.setIfInBounds_toArray, List.set_cons_zero, List.set_cons_succ]
            clear HST
            obtain ⟨b13, hbb⟩ : ∃ b, b = w7.heap.size := ⟨_, rfl⟩
            generalize w7.alloc (.cells #[.string q.f0, .string q.f1, .slice A7 q.f2.length c7] 34) = W13 at *
            rw [← hbb] at R7 ⊢
            clear hbb
            go_upto_region 9 with fail
            refine wp_region_list ?_
            dsimp only [List.toList_toArray]
            refine wpList_val (v := .int .i64 0) (w' := W13) rfl (by go_simp) ?_
            try simp only [Act.put, List.setIfInBounds_toArray, List.set_cons_zero, List.set_cons_succ]
            refine wpList_val (v := .bool true) (w' := W13) rfl (by go_simp) ?_
            try simp only [Act.put, List.setIfInBounds_toArray, List.set_cons_zero, List.set_cons_succ]
            refine wpList_val (v := .bool true) (w' := W13) rfl (by go_simp) ?_
            try simp only [Act.put, List.setIfInBounds_toArray, List.set_cons_zero, List.set_cons_succ]
            refine wpList_val (v := .int .i64 0) (w' := W13) (by kernel_rfl) (by go_simp) ?_
            try simp only [Act.put, List.setIfInBounds_toArray, List.set_cons_zero, List.set_cons_succ]
            refine wpList_val (v := .bool true) (w' := W13) (by kernel_rfl) (by go_simp) ?_
            try simp only [Act.put, List.setIfInBounds_toArray, List.set_cons_zero, List.set_cons_succ]
            refine wpList_val (v := .bool true) (w' := W13) rfl (by go_simp) ?_
            try simp only [Act.put, List.setIfInBounds_toArray, List.set_cons_zero, List.set_cons_succ]
            refine wpList_val (v := .bool true) (w' := W13) rfl (by go_simp) ?_
            try simp only [Act.put, List.setIfInBounds_toArray, List.set_cons_zero, List.set_cons_succ]
            try simp only [Act.put, List.setIfInBounds_toArray, List.set_cons_zero, List.set_cons_succ]
            refine wpList_loadv rfl (by kernel_rfl) rfl (run_loadAt_mid W13 b11 0 34 (l34 q A6 c6) _ (range_row R6.out) hu34 rfl info34) ?_
            try simp only [Act.put, List.setIfInBounds_toArray, List.set_cons_zero, List.set_cons_succ]
            try simp only [Act.put, List.setIfInBounds_toArray, List.set_cons_zero, List.set_cons_succ]
            refine wpList_loadv rfl (by kernel_rfl) rfl (run_loadAt_mid W13 b13 0 34 (l34 q A7 c7) _ (range_row R7.out) hu34 rfl info34) ?_
            try simp only [Act.put, List.setIfInBounds_toArray, List.set_cons_zero, List.set_cons_succ]
            try simp only [Act.put, List.setIfInBounds_toArray, List.set_cons_zero, List.set_cons_succ]
            have HC := Lib.hid (same_calls q (Nat.le_trans HQL.out (by decide)) A6 c6 A7 c7 W13 KQ.out C6.out KP.out C7.out)
            refine wpList_call (f := 17) (args := #[.agg #[.string q.f0, .string q.f1, .slice A6 q.f2.length c6], .agg #[.string q.f0, .string q.f1, .slice A7 q.f2.length c7]]) (R := fun v w' => v = .bool true ∧ Below W13.heap.size W13 w') (by kernel_rfl) (by go_simp) (HC.out.mono fun e w' h => bool_R h) ?_
            rintro v w8 ⟨rfl, hb⟩
            have n_ := Lib.hid (below_then HB.out hb)
            clear HB
            have HB := n_
            clear n_
            clear hb HC
            try simp only [Act.put, List.setIfInBounds_toArray, List.set_cons_zero, List.set_cons_succ]
            refine wpList_val (v := .bool true) (w' := w8) rfl (by go_simp) ?_
            try simp only [Act.put, List.setIfInBounds_toArray, List.set_cons_zero, List.set_cons_succ]
            refine wpList_val (v := .bool true) (w' := w8) rfl (by go_simp) ?_
            try simp only [Act.put, List.setIfInBounds_toArray, List.set_cons_zero, List.set_cons_succ]
            try simp only [Act.put, List.setIfInBounds_toArray, List.set_cons_zero, List.set_cons_succ]
            refine wpList_call (f := 10) (args := #[]) (R := fun v w' => v = .bool true ∧ Below w8.heap.size w8 w') (by kernel_rfl) (by go_simp) ((awake_calls w8).mono fun e w' h => awake_R h) ?_
            rintro v w9 ⟨rfl, hb⟩
            have n_ := Lib.hid (below_then HB.out hb)
            clear HB
            have HB := n_
            clear n_
            clear hb
            try simp only [Act.put, List.setIfInBounds_toArray, List.set_cons_zero, List.set_cons_succ]
            refine wpList_val (v := .bool true) (w' := w9) rfl (by go_simp) ?_
            try simp only [Act.put, List.setIfInBounds_toArray, List.set_cons_zero, List.set_cons_succ]
            refine wpList_val (v := .bool true) (w' := w9) rfl (by go_simp) ?_
            refine wpList_nil ?_
            simp only [Act.put, List.setIfInBounds_toArray, List.set_cons_zero, List.set_cons_succ]
            go_wp2
            go_ret
            exact ⟨rfl, HB.out⟩
          · go_upto_region 6 with fail
            refine wp_region_list ?_
            dsimp only [List.toList_toArray]
            refine wpList_call (f := 10) (args := #[]) (R := fun v w' => v = .bool true ∧ Below W9.heap.size W9 w') rfl (by go_simp) ((awake_calls W9).mono fun e w' h => awake_R h) ?_
            rintro v w9 ⟨rfl, hb⟩
            have n_ := Lib.hid (below_then HB.out hb)
            clear HB
            have HB := n_
            clear n_
            clear hb
            try simp only [Act.put, List.setIfInBounds_toArray, List.set_cons_zero, List.set_cons_succ]
            refine wpList_val (v := .bool true) (w' := w9) rfl (by go_simp) ?_
            refine wpList_nil ?_
            simp only [Act.put, List.setIfInBounds_toArray, List.set_cons_zero, List.set_cons_succ]
            go_wp2
            go_ret
            exact ⟨rfl, HB.out⟩
        · go_upto_region 6 with fail
          refine wp_region_list ?_
          dsimp only [List.toList_toArray]
          refine wpList_call (f := 10) (args := #[]) (R := fun v w' => v = .bool true ∧ Below W9.heap.size W9 w') rfl (by go_simp) ((awake_calls W9).mono fun e w' h => awake_R h) ?_
          rintro v w9 ⟨rfl, hb⟩
          have n_ := Lib.hid (below_then HB.out hb)
          clear HB
          have HB := n_
          clear n_
          clear hb
          try simp only [Act.put, List.setIfInBounds_toArray, List.set_cons_zero, List.set_cons_succ]
          refine wpList_val (v := .bool true) (w' := w9) rfl (by go_simp) ?_
          refine wpList_nil ?_
          simp only [Act.put, List.setIfInBounds_toArray, List.set_cons_zero, List.set_cons_succ]
          go_wp2
          go_ret
          exact ⟨rfl, HB.out⟩
end Go.Proofs.Ytdinmdjdkhlgcaa
