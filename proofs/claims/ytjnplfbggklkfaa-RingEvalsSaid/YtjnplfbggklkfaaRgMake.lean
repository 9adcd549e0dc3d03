/- The functions that make expressions: v, num, Two, add, mul. -/
import Derived.Test.YtjnplfbggklkfaaRgRight
import Derived.Handy
import Derived.OwnWalk
namespace Go.Proofs.Ytjnplfbggklkfaa
open Go.RowKit Go.Proofs.YtjnplfbggklkfaaW.PrintWords Go.Proofs.Ytjnplfbggklkfaa.Rg
set_option linter.unusedVariables false
set_option linter.unusedSimpArgs false

set_option maxHeartbeats 4000000 in
set_option maxRecDepth 100000 in
theorem var15 (n : Int) (w : World) : Calls Try.prog 15 #[.int .i64 n] w fun e w' => e = .returned (.agg #[.int .i64 2, .int .i64 n, .slice none 0 0]) ∧ Below w.heap.size w w' := by
  have hu24 := Try.underlying24
  go_enter Try.func15, Try.ntmps15
  go_wp2
  go_returns
  exact ⟨rfl, (Below.refl _ _).alloc (Nat.le_refl _) _⟩
set_option maxHeartbeats 4000000 in
set_option maxRecDepth 100000 in
theorem num26 (n : Int) (w : World) : Calls Try.prog 26 #[.int .i64 n] w fun e w' => e = .returned (.agg #[.int .i64 1, .int .i64 n, .slice none 0 0]) ∧ Below w.heap.size w w' := by
  have hu24 := Try.underlying24
  go_enter Try.func26, Try.ntmps26
  go_wp2
  go_returns
  exact ⟨rfl, (Below.refl _ _).alloc (Nat.le_refl _) _⟩
theorem C_two {w : World} {g : Nat} {x y : S24} {A A' : Option Addr} {c c' : Nat} (h : w.heap[g]? = some (.cells #[.int .i64 x.f0, .int .i64 x.f1, .slice A x.f2.length c, .int .i64 y.f0, .int .i64 y.f1, .slice A' y.f2.length c'] 24 (0, 0)))
    (hx : Kd.C k24 w A x.f2.length x.f2) (hy : Kd.C k24 w A' y.f2.length y.f2) (hc : x.f2.length ≤ c) (hc' : y.f2.length ≤ c') : Kd.C k24 w (some ⟨g, 0, none⟩) 2 [x, y] := by
  refine ⟨rfl, by omega, fun _ => ⟨⟨g, 0, none⟩, rfl, fun j p hj => ?_⟩⟩
  have hcell := fun j => cell_of_row w g j _ _ _ h
  match j, hj with
  | 0, hj =>
    obtain rfl : x = p := by simpa using hj
    refine ⟨_, rfl, k24_mk w x hc hx, fun i u hi => ?_⟩
    match i, hi with
    | 0, hi => exact (hcell 0).trans hi
    | 1, hi => exact (hcell 1).trans hi
    | 2, hi => exact (hcell 2).trans hi
  | 1, hj =>
    obtain rfl : y = p := by simpa using hj
    refine ⟨_, rfl, k24_mk w y hc' hy, fun i u hi => ?_⟩
    match i, hi with
    | 0, hi => exact (hcell 3).trans hi
    | 1, hi => exact (hcell 4).trans hi
    | 2, hi => exact (hcell 5).trans hi
theorem size_alloc' (w : World) (o : Obj) : (w.alloc o).heap.size = w.heap.size + 1 := by simp
/-- As it was, from block p on to the end of w'. -/
def Agree (p : Nat) (w' w6 : World) : Prop := ∀ k, p ≤ k → k < w'.heap.size → w6.heap[k]? = w'.heap[k]?
/-- Where the parts lie, the whole lies. -/
def Lays (p : Nat) (w' : World) (D : Option Addr) (A : Option Addr) (x : S24) (A' : Option Addr) (y : S24) : Prop :=
  ∀ w6, Kd.C k24 w6 A x.f2.length x.f2 → Kd.C k24 w6 A' y.f2.length y.f2 → Agree p w' w6 → Kd.C k24 w6 D 2 [x, y]
set_option maxHeartbeats 4000000 in
set_option maxRecDepth 100000 in
theorem two22 (o : Int) (x y : S24) (A : Option Addr) (c : Nat) (A' : Option Addr) (c' : Nat) (w : World) (hc : x.f2.length ≤ c) (hc' : y.f2.length ≤ c') :
    Calls Try.prog 22 #[.int .i64 o, .agg #[.int .i64 x.f0, .int .i64 x.f1, .slice A x.f2.length c], .agg #[.int .i64 y.f0, .int .i64 y.f1, .slice A' y.f2.length c']] w fun e w' => ∃ B, e = .returned (.agg #[.int .i64 o, .int .i64 0, .slice B 2 2]) ∧ Lays w.heap.size w' B A x A' y ∧ Below w.heap.size w w' := by
  have hu24 := Try.underlying24
  have HC := Lib.hid hc
  have HC' := Lib.hid hc'
  clear hc hc'
  go_enter Try.func22, Try.ntmps22
  go_wp2
  go_returns
  refine ⟨_, rfl, fun w6 hx hy hk => ?_, (((Below.refl _ _).alloc (Nat.le_refl _) _).alloc (by simp) _).alloc (by simp; omega) _ |>.alloc (by simp; omega) _⟩
  refine C_two (c := c) (c' := c') ?_ hx hy HC.out HC'.out
  rw [hk _ (by omega) (by simp)]
  have h0 := heap_alloc_new (((w.alloc (.cells #[.int .i64 x.f0, .int .i64 x.f1, .slice A x.f2.length c] 24)).alloc (.cells #[.int .i64 y.f0, .int .i64 y.f1, .slice A' y.f2.length c'] 24)).alloc (.cells #[.int .i64 o, .int .i64 0, .slice (some ⟨w.heap.size + 1 + 1 + 1, 0, none⟩) 2 2] 24)) (.cells #[.int .i64 x.f0, .int .i64 x.f1, .slice A x.f2.length c, .int .i64 y.f0, .int .i64 y.f1, .slice A' y.f2.length c'] 24)
  simpa using h0
theorem put3 {w : World} {g : Nat} {a b c : Value} (h : w.heap[g]? = some (.cells #[a, b, c] 24 (0, 0))) (x y z : Value) :
    (((w.setCell ⟨g, 0, none⟩ x).setCell ⟨g, 1, none⟩ y).setCell ⟨g, 2, none⟩ z).heap[g]? = some (.cells #[x, y, z] 24 (0, 0)) := by
  have h1 := heap_setCell_same w g 0 _ 24 x h
  have h2 := heap_setCell_same _ g 1 _ 24 y h1
  exact heap_setCell_same _ g 2 _ 24 z h2
theorem put3_but (w : World) (g : Nat) (x y z : Value) (k : Nat) (hk : k ≠ g) : (((w.setCell ⟨g, 0, none⟩ x).setCell ⟨g, 1, none⟩ y).setCell ⟨g, 2, none⟩ z).heap[k]? = w.heap[k]? := by
  rw [Below.heap_setCell _ _ _ _ hk, Below.heap_setCell _ _ _ _ hk, Below.heap_setCell _ _ _ _ hk]
abbrev MakePost (o : Int) (x y : S24) (A A' : Option Addr) (w : World) (e : Ending) (w' : World) : Prop := ∃ B, e = .returned (.agg #[.int .i64 o, .int .i64 0, .slice B 2 2]) ∧ Lays w.heap.size w' B A x A' y ∧ Below w.heap.size w w'
set_option maxHeartbeats 4000000 in
set_option maxRecDepth 100000 in
theorem add10 (x y : S24) (A : Option Addr) (c : Nat) (A' : Option Addr) (c' : Nat) (w : World) (hc : x.f2.length ≤ c) (hc' : y.f2.length ≤ c') :
    Calls Try.prog 10 #[.agg #[.int .i64 x.f0, .int .i64 x.f1, .slice A x.f2.length c], .agg #[.int .i64 y.f0, .int .i64 y.f1, .slice A' y.f2.length c']] w (MakePost 3 x y A A' w) := by
  have hu24 := Try.underlying24
  have HT := Lib.hid fun w5 => two22 3 x y A c A' c' w5 hc hc'
  have BK : Hid ((((w.alloc (.cells #[.int .i64 x.f0, .int .i64 x.f1, .slice A x.f2.length c] 24)).alloc (.cells #[.int .i64 y.f0, .int .i64 y.f1, .slice A' y.f2.length c'] 24)).alloc (.cells #[.int .i64 0, .int .i64 0, .slice none 0 0] 24)).heap[w.heap.size + 1 + 1]? = some (.cells #[.int .i64 0, .int .i64 0, .slice none 0 0] 24 (0, 0))) := Lib.hid (by
    have h0 := heap_alloc_new ((w.alloc (.cells #[.int .i64 x.f0, .int .i64 x.f1, .slice A x.f2.length c] 24)).alloc (.cells #[.int .i64 y.f0, .int .i64 y.f1, .slice A' y.f2.length c'] 24)) (.cells #[.int .i64 0, .int .i64 0, .slice none 0 0] 24)
    simpa using h0)
  have B0 : Hid (Below w.heap.size w (((w.alloc (.cells #[.int .i64 x.f0, .int .i64 x.f1, .slice A x.f2.length c] 24)).alloc (.cells #[.int .i64 y.f0, .int .i64 y.f1, .slice A' y.f2.length c'] 24)).alloc (.cells #[.int .i64 0, .int .i64 0, .slice none 0 0] 24))) := Lib.hid ((((Below.refl _ _).alloc (Nat.le_refl _) _).alloc (by simp) _).alloc (by simp; omega) _)
  clear hc hc'
  go_enter Try.func10, Try.ntmps10
  go_wp2_with (go_at_call 22; refine (HT.out _).mono ?_; rintro e w2 ⟨B, rfl, hl, hb2⟩; have HL := Lib.hid hl; have HB2 := Lib.hid hb2; have bk := (hb2.block _ (Array.getElem?_eq_some_iff.1 BK.out).1).trans BK.out; have q0 := cell_of_row _ _ 0 _ _ _ bk; have q1 := cell_of_row _ _ 1 _ _ _ bk; have q2 := cell_of_row _ _ 2 _ _ _ bk; have f0 := frozen_of_row _ _ 0 _ _ bk; have f1 := frozen_of_row _ _ 1 _ _ bk; have f2 := frozen_of_row _ _ 2 _ _ bk; have BK2 := Lib.hid bk; clear bk hl hb2)
  refine bodyPost_ret (results_cell_row rfl _ _ (w.heap.size + 1 + 1) 24 #[.int .i64 3, .int .i64 0, .slice B 2 2] (0, 0) _ rfl (put3 BK2.out _ _ _) Try.underlying24 rfl (by kernel_rfl)) rfl ?_
  have hb := ((((below_then' B0.out HB2.out).setCell (p := ⟨w.heap.size + 1 + 1, 0, none⟩) (by simp only; omega) (.int .i64 3)).setCell (p := ⟨w.heap.size + 1 + 1, 1, none⟩) (by simp only; omega) (.int .i64 0)).setCell (p := ⟨w.heap.size + 1 + 1, 2, none⟩) (by simp only; omega) (.slice B 2 2))
  refine ⟨B, rfl, fun w6 hx hy hk => HL.out _ hx hy fun k h1 h2 => ?_, hb⟩
  simp only [size_alloc'] at h1
  rw [hk k (by omega) (by simpa using h2)]
  exact put3_but _ _ _ _ _ k (by omega)
set_option maxHeartbeats 4000000 in
set_option maxRecDepth 100000 in
theorem mul11 (x y : S24) (A : Option Addr) (c : Nat) (A' : Option Addr) (c' : Nat) (w : World) (hc : x.f2.length ≤ c) (hc' : y.f2.length ≤ c') :
    Calls Try.prog 11 #[.agg #[.int .i64 x.f0, .int .i64 x.f1, .slice A x.f2.length c], .agg #[.int .i64 y.f0, .int .i64 y.f1, .slice A' y.f2.length c']] w (MakePost 4 x y A A' w) := by
  have hu24 := Try.underlying24
  have HT := Lib.hid fun w5 => two22 4 x y A c A' c' w5 hc hc'
  have BK : Hid ((((w.alloc (.cells #[.int .i64 x.f0, .int .i64 x.f1, .slice A x.f2.length c] 24)).alloc (.cells #[.int .i64 y.f0, .int .i64 y.f1, .slice A' y.f2.length c'] 24)).alloc (.cells #[.int .i64 0, .int .i64 0, .slice none 0 0] 24)).heap[w.heap.size + 1 + 1]? = some (.cells #[.int .i64 0, .int .i64 0, .slice none 0 0] 24 (0, 0))) := Lib.hid (by
    have h0 := heap_alloc_new ((w.alloc (.cells #[.int .i64 x.f0, .int .i64 x.f1, .slice A x.f2.length c] 24)).alloc (.cells #[.int .i64 y.f0, .int .i64 y.f1, .slice A' y.f2.length c'] 24)) (.cells #[.int .i64 0, .int .i64 0, .slice none 0 0] 24)
    simpa using h0)
  have B0 : Hid (Below w.heap.size w (((w.alloc (.cells #[.int .i64 x.f0, .int .i64 x.f1, .slice A x.f2.length c] 24)).alloc (.cells #[.int .i64 y.f0, .int .i64 y.f1, .slice A' y.f2.length c'] 24)).alloc (.cells #[.int .i64 0, .int .i64 0, .slice none 0 0] 24))) := Lib.hid ((((Below.refl _ _).alloc (Nat.le_refl _) _).alloc (by simp) _).alloc (by simp; omega) _)
  clear hc hc'
  go_enter Try.func11, Try.ntmps11
  go_wp2_with (go_at_call 22; refine (HT.out _).mono ?_; rintro e w2 ⟨B, rfl, hl, hb2⟩; have HL := Lib.hid hl; have HB2 := Lib.hid hb2; have bk := (hb2.block _ (Array.getElem?_eq_some_iff.1 BK.out).1).trans BK.out; have q0 := cell_of_row _ _ 0 _ _ _ bk; have q1 := cell_of_row _ _ 1 _ _ _ bk; have q2 := cell_of_row _ _ 2 _ _ _ bk; have f0 := frozen_of_row _ _ 0 _ _ bk; have f1 := frozen_of_row _ _ 1 _ _ bk; have f2 := frozen_of_row _ _ 2 _ _ bk; have BK2 := Lib.hid bk; clear bk hl hb2)
  refine bodyPost_ret (results_cell_row rfl _ _ (w.heap.size + 1 + 1) 24 #[.int .i64 4, .int .i64 0, .slice B 2 2] (0, 0) _ rfl (put3 BK2.out _ _ _) Try.underlying24 rfl (by kernel_rfl)) rfl ?_
  have hb := ((((below_then' B0.out HB2.out).setCell (p := ⟨w.heap.size + 1 + 1, 0, none⟩) (by simp only; omega) (.int .i64 4)).setCell (p := ⟨w.heap.size + 1 + 1, 1, none⟩) (by simp only; omega) (.int .i64 0)).setCell (p := ⟨w.heap.size + 1 + 1, 2, none⟩) (by simp only; omega) (.slice B 2 2))
  refine ⟨B, rfl, fun w6 hx hy hk => HL.out _ hx hy fun k h1 h2 => ?_, hb⟩
  simp only [size_alloc'] at h1
  rw [hk k (by omega) (by simpa using h2)]
  exact put3_but _ _ _ _ _ k (by omega)
set_option maxHeartbeats 4000000 in
set_option maxRecDepth 100000 in
theorem num16 (n : Int) (w : World) : Calls Try.prog 16 #[.int .i64 n] w fun e w' => e = .returned (.agg #[.int .i64 1, .int .i64 n, .slice none 0 0]) ∧ Below w.heap.size w w' := by
  have hu24 := Try.underlying24
  have HT := Lib.hid fun w5 => num26 n w5
  have BK : Hid ((w.alloc (.cells #[.int .i64 0, .int .i64 0, .slice none 0 0] 24)).heap[w.heap.size]? = some (.cells #[.int .i64 0, .int .i64 0, .slice none 0 0] 24 (0, 0))) := Lib.hid (heap_alloc_new w (.cells #[.int .i64 0, .int .i64 0, .slice none 0 0] 24))
  have B0 : Hid (Below w.heap.size w (w.alloc (.cells #[.int .i64 0, .int .i64 0, .slice none 0 0] 24))) := Lib.hid ((Below.refl _ _).alloc (Nat.le_refl _) _)
  go_enter Try.func16, Try.ntmps16
  go_wp2_with (go_at_call 26; refine (HT.out _).mono ?_; rintro e w2 ⟨rfl, hb2⟩; have HB2 := Lib.hid hb2; have bk := (hb2.block _ (Array.getElem?_eq_some_iff.1 BK.out).1).trans BK.out; have q0 := cell_of_row _ _ 0 _ _ _ bk; have q1 := cell_of_row _ _ 1 _ _ _ bk; have q2 := cell_of_row _ _ 2 _ _ _ bk; have f0 := frozen_of_row _ _ 0 _ _ bk; have f1 := frozen_of_row _ _ 1 _ _ bk; have f2 := frozen_of_row _ _ 2 _ _ bk; have BK2 := Lib.hid bk; clear bk hb2)
  refine bodyPost_ret (results_cell_row rfl _ _ w.heap.size 24 #[.int .i64 1, .int .i64 n, .slice none 0 0] (0, 0) _ rfl (put3 BK2.out _ _ _) Try.underlying24 rfl (by kernel_rfl)) rfl ?_
  have hb := ((((below_then' B0.out HB2.out).setCell (p := ⟨w.heap.size, 0, none⟩) (by simp only; omega) (.int .i64 1)).setCell (p := ⟨w.heap.size, 1, none⟩) (by simp only; omega) (.int .i64 n)).setCell (p := ⟨w.heap.size, 2, none⟩) (by simp only; omega) (.slice none 0 0))
  exact ⟨rfl, hb⟩
end Go.Proofs.Ytjnplfbggklkfaa
