/- Texts of this claim, one behind the other: RgMake, RgEqual, RgAwake, Rg40, Rg41, RgAnswer, RgRefValid. -/
import Derived.Test.YtjnplfbggklkfaaEq1
import Derived.Handy
import Derived.OwnWalk
import Derived.Test.YtjnplfbggklkfaaEq2
import Derived.Deep.RegionHeld3
import Derived.Deep.CutRange
import Derived.Test.YtjnplfbggklkfaaEq3
import Derived.Test.YtjnplfbggklkfaaEq7

/- The functions that make expressions: v, num, Two, add, mul. -/
namespace Go.Proofs.Ytjnplfbggklkfaa
open Go.RowKit Go.Proofs.YtjnplfbggklkfaaW.PrintWords Go.Proofs.Ytjnplfbggklkfaa.Rg
set_option linter.unusedVariables false
set_option linter.unusedSimpArgs false

set_option maxHeartbeats 4000000 in
set_option maxRecDepth 100000 in
theorem var15 (n : Int) (w : World) : Calls Try.prog 15 #[.int .i64 n] w fun e w' => e = .returned (.agg #[.int .i64 2, .int .i64 n, .slice none 0 0]) ∧ Below w.heap.size w w' := by
  have hu24 := Try.underlying24
  go_enter Try.func15, Try.ntmps15
  go_wp2
  go_returns
  exact ⟨rfl, (Below.refl _ _).alloc (Nat.le_refl _) _⟩
set_option maxHeartbeats 4000000 in
set_option maxRecDepth 100000 in
theorem num26 (n : Int) (w : World) : Calls Try.prog 26 #[.int .i64 n] w fun e w' => e = .returned (.agg #[.int .i64 1, .int .i64 n, .slice none 0 0]) ∧ Below w.heap.size w w' := by
  have hu24 := Try.underlying24
  go_enter Try.func26, Try.ntmps26
  go_wp2
  go_returns
  exact ⟨rfl, (Below.refl _ _).alloc (Nat.le_refl _) _⟩
theorem C_two {w : World} {g : Nat} {x y : S24} {A A' : Option Addr} {c c' : Nat} (h : w.heap[g]? = some (.cells #[.int .i64 x.f0, .int .i64 x.f1, .slice A x.f2.length c, .int .i64 y.f0, .int .i64 y.f1, .slice A' y.f2.length c'] 24 (0, 0)))
    (hx : Kd.C k24 w A x.f2.length x.f2) (hy : Kd.C k24 w A' y.f2.length y.f2) (hc : x.f2.length ≤ c) (hc' : y.f2.length ≤ c') : Kd.C k24 w (some ⟨g, 0, none⟩) 2 [x, y] := by
  refine ⟨rfl, by omega, fun _ => ⟨⟨g, 0, none⟩, rfl, fun j p hj => ?_⟩⟩
  have hcell := fun j => cell_of_row w g j _ _ _ h
  match j, hj with
  | 0, hj =>
    obtain rfl : x = p := by simpa using hj
    refine ⟨_, rfl, k24_mk w x hc hx, fun i u hi => ?_⟩
    match i, hi with
    | 0, hi => exact (hcell 0).trans hi
    | 1, hi => exact (hcell 1).trans hi
    | 2, hi => exact (hcell 2).trans hi
  | 1, hj =>
    obtain rfl : y = p := by simpa using hj
    refine ⟨_, rfl, k24_mk w y hc' hy, fun i u hi => ?_⟩
    match i, hi with
    | 0, hi => exact (hcell 3).trans hi
    | 1, hi => exact (hcell 4).trans hi
    | 2, hi => exact (hcell 5).trans hi
theorem size_alloc' (w : World) (o : Obj) : (w.alloc o).heap.size = w.heap.size + 1 := by simp
/-- As it was, from block p on to the end of w'. -/
def Agree (p : Nat) (w' w6 : World) : Prop := ∀ k, p ≤ k → k < w'.heap.size → w6.heap[k]? = w'.heap[k]?
/-- Where the parts lie, the whole lies. -/
def Lays (p : Nat) (w' : World) (D : Option Addr) (A : Option Addr) (x : S24) (A' : Option Addr) (y : S24) : Prop :=
  ∀ w6, Kd.C k24 w6 A x.f2.length x.f2 → Kd.C k24 w6 A' y.f2.length y.f2 → Agree p w' w6 → Kd.C k24 w6 D 2 [x, y]
set_option maxHeartbeats 4000000 in
set_option maxRecDepth 100000 in
theorem two22 (o : Int) (x y : S24) (A : Option Addr) (c : Nat) (A' : Option Addr) (c' : Nat) (w : World) (hc : x.f2.length ≤ c) (hc' : y.f2.length ≤ c') :
    Calls Try.prog 22 #[.int .i64 o, .agg #[.int .i64 x.f0, .int .i64 x.f1, .slice A x.f2.length c], .agg #[.int .i64 y.f0, .int .i64 y.f1, .slice A' y.f2.length c']] w fun e w' => ∃ B, e = .returned (.agg #[.int .i64 o, .int .i64 0, .slice B 2 2]) ∧ Lays w.heap.size w' B A x A' y ∧ Below w.heap.size w w' := by
  have hu24 := Try.underlying24
  have HC := Lib.hid hc
  have HC' := Lib.hid hc'
  clear hc hc'
  go_enter Try.func22, Try.ntmps22
  go_wp2
  go_returns
  refine ⟨_, rfl, fun w6 hx hy hk => ?_, (((Below.refl _ _).alloc (Nat.le_refl _) _).alloc (by simp) _).alloc (by simp; omega) _ |>.alloc (by simp; omega) _⟩
  refine C_two (c := c) (c' := c') ?_ hx hy HC.out HC'.out
  rw [hk _ (by omega) (by simp)]
  have h0 := heap_alloc_new (((w.alloc (.cells #[.int .i64 x.f0, .int .i64 x.f1, .slice A x.f2.length c] 24)).alloc (.cells #[.int .i64 y.f0, .int .i64 y.f1, .slice A' y.f2.length c'] 24)).alloc (.cells #[.int .i64 o, .int .i64 0, .slice (some ⟨w.heap.size + 1 + 1 + 1, 0, none⟩) 2 2] 24)) (.cells #[.int .i64 x.f0, .int .i64 x.f1, .slice A x.f2.length c, .int .i64 y.f0, .int .i64 y.f1, .slice A' y.f2.length c'] 24)
  simpa using h0
theorem put3 {w : World} {g : Nat} {a b c : Value} (h : w.heap[g]? = some (.cells #[a, b, c] 24 (0, 0))) (x y z : Value) :
    (((w.setCell ⟨g, 0, none⟩ x).setCell ⟨g, 1, none⟩ y).setCell ⟨g, 2, none⟩ z).heap[g]? = some (.cells #[x, y, z] 24 (0, 0)) := by
  have h1 := heap_setCell_same w g 0 _ 24 x h
  have h2 := heap_setCell_same _ g 1 _ 24 y h1
  exact heap_setCell_same _ g 2 _ 24 z h2
theorem put3_but (w : World) (g : Nat) (x y z : Value) (k : Nat) (hk : k ≠ g) : (((w.setCell ⟨g, 0, none⟩ x).setCell ⟨g, 1, none⟩ y).setCell ⟨g, 2, none⟩ z).heap[k]? = w.heap[k]? := by
  rw [Below.heap_setCell _ _ _ _ hk, Below.heap_setCell _ _ _ _ hk, Below.heap_setCell _ _ _ _ hk]
abbrev MakePost (o : Int) (x y : S24) (A A' : Option Addr) (w : World) (e : Ending) (w' : World) : Prop := ∃ B, e = .returned (.agg #[.int .i64 o, .int .i64 0, .slice B 2 2]) ∧ Lays w.heap.size w' B A x A' y ∧ Below w.heap.size w w'
set_option maxHeartbeats 4000000 in
set_option maxRecDepth 100000 in
theorem add10 (x y : S24) (A : Option Addr) (c : Nat) (A' : Option Addr) (c' : Nat) (w : World) (hc : x.f2.length ≤ c) (hc' : y.f2.length ≤ c') :
    Calls Try.prog 10 #[.agg #[.int .i64 x.f0, .int .i64 x.f1, .slice A x.f2.length c], .agg #[.int .i64 y.f0, .int .i64 y.f1, .slice A' y.f2.length c']] w (MakePost 3 x y A A' w) := by
  have hu24 := Try.underlying24
  have HT := Lib.hid fun w5 => two22 3 x y A c A' c' w5 hc hc'
  have BK : Hid ((((w.alloc (.cells #[.int .i64 x.f0, .int .i64 x.f1, .slice A x.f2.length c] 24)).alloc (.cells #[.int .i64 y.f0, .int .i64 y.f1, .slice A' y.f2.length c'] 24)).alloc (.cells #[.int .i64 0, .int .i64 0, .slice none 0 0] 24)).heap[w.heap.size + 1 + 1]? = some (.cells #[.int .i64 0, .int .i64 0, .slice none 0 0] 24 (0, 0))) := Lib.hid (by
    have h0 := heap_alloc_new ((w.alloc (.cells #[.int .i64 x.f0, .int .i64 x.f1, .slice A x.f2.length c] 24)).alloc (.cells #[.int .i64 y.f0, .int .i64 y.f1, .slice A' y.f2.length c'] 24)) (.cells #[.int .i64 0, .int .i64 0, .slice none 0 0] 24)
    simpa using h0)
  have B0 : Hid (Below w.heap.size w (((w.alloc (.cells #[.int .i64 x.f0, .int .i64 x.f1, .slice A x.f2.length c] 24)).alloc (.cells #[.int .i64 y.f0, .int .i64 y.f1, .slice A' y.f2.length c'] 24)).alloc (.cells #[.int .i64 0, .int .i64 0, .slice none 0 0] 24))) := Lib.hid ((((Below.refl _ _).alloc (Nat.le_refl _) _).alloc (by simp) _).alloc (by simp; omega) _)
  clear hc hc'
  go_enter Try.func10, Try.ntmps10
  go_wp2_with (go_at_call 22; refine (HT.out _).mono ?_; rintro e w2 ⟨B, rfl, hl, hb2⟩; have HL := Lib.hid hl; have HB2 := Lib.hid hb2; have bk := (hb2.block _ (Array.getElem?_eq_some_iff.1 BK.out).1).trans BK.out; have q0 := cell_of_row _ _ 0 _ _ _ bk; have q1 := cell_of_row _ _ 1 _ _ _ bk; have q2 := cell_of_row _ _ 2 _ _ _ bk; have f0 := frozen_of_row _ _ 0 _ _ bk; have f1 := frozen_of_row _ _ 1 _ _ bk; have f2 := frozen_of_row _ _ 2 _ _ bk; have BK2 := Lib.hid bk; clear bk hl hb2)
  refine bodyPost_ret (results_cell_row rfl _ _ (w.heap.size + 1 + 1) 24 #[.int .i64 3, .int .i64 0, .slice B 2 2] (0, 0) _ rfl (put3 BK2.out _ _ _) Try.underlying24 rfl (by kernel_rfl)) rfl ?_
  have hb := ((((below_then' B0.out HB2.out).setCell (p := ⟨w.heap.size + 1 + 1, 0, none⟩) (by simp only; omega) (.int .i64 3)).setCell (p := ⟨w.heap.size + 1 + 1, 1, none⟩) (by simp only; omega) (.int .i64 0)).setCell (p := ⟨w.heap.size + 1 + 1, 2, none⟩) (by simp only; omega) (.slice B 2 2))
  refine ⟨B, rfl, fun w6 hx hy hk => HL.out _ hx hy fun k h1 h2 => ?_, hb⟩
  simp only [size_alloc'] at h1
  rw [hk k (by omega) (by simpa using h2)]
  exact put3_but _ _ _ _ _ k (by omega)
set_option maxHeartbeats 4000000 in
set_option maxRecDepth 100000 in
theorem mul11 (x y : S24) (A : Option Addr) (c : Nat) (A' : Option Addr) (c' : Nat) (w : World) (hc : x.f2.length ≤ c) (hc' : y.f2.length ≤ c') :
    Calls Try.prog 11 #[.agg #[.int .i64 x.f0, .int .i64 x.f1, .slice A x.f2.length c], .agg #[.int .i64 y.f0, .int .i64 y.f1, .slice A' y.f2.length c']] w (MakePost 4 x y A A' w) := by
  have hu24 := Try.underlying24
  have HT := Lib.hid fun w5 => two22 4 x y A c A' c' w5 hc hc'
  have BK : Hid ((((w.alloc (.cells #[.int .i64 x.f0, .int .i64 x.f1, .slice A x.f2.length c] 24)).alloc (.cells #[.int .i64 y.f0, .int .i64 y.f1, .slice A' y.f2.length c'] 24)).alloc (.cells #[.int .i64 0, .int .i64 0, .slice none 0 0] 24)).heap[w.heap.size + 1 + 1]? = some (.cells #[.int .i64 0, .int .i64 0, .slice none 0 0] 24 (0, 0))) := Lib.hid (by
    have h0 := heap_alloc_new ((w.alloc (.cells #[.int .i64 x.f0, .int .i64 x.f1, .slice A x.f2.length c] 24)).alloc (.cells #[.int .i64 y.f0, .int .i64 y.f1, .slice A' y.f2.length c'] 24)) (.cells #[.int .i64 0, .int .i64 0, .slice none 0 0] 24)
    simpa using h0)
  have B0 : Hid (Below w.heap.size w (((w.alloc (.cells #[.int .i64 x.f0, .int .i64 x.f1, .slice A x.f2.length c] 24)).alloc (.cells #[.int .i64 y.f0, .int .i64 y.f1, .slice A' y.f2.length c'] 24)).alloc (.cells #[.int .i64 0, .int .i64 0, .slice none 0 0] 24))) := Lib.hid ((((Below.refl _ _).alloc (Nat.le_refl _) _).alloc (by simp) _).alloc (by simp; omega) _)
  clear hc hc'
  go_enter Try.func11, Try.ntmps11
  go_wp2_with (go_at_call 22; refine (HT.out _).mono ?_; rintro e w2 ⟨B, rfl, hl, hb2⟩; have HL := Lib.hid hl; have HB2 := Lib.hid hb2; have bk := (hb2.block _ (Array.getElem?_eq_some_iff.1 BK.out).1).trans BK.out; have q0 := cell_of_row _ _ 0 _ _ _ bk; have q1 := cell_of_row _ _ 1 _ _ _ bk; have q2 := cell_of_row _ _ 2 _ _ _ bk; have f0 := frozen_of_row _ _ 0 _ _ bk; have f1 := frozen_of_row _ _ 1 _ _ bk; have f2 := frozen_of_row _ _ 2 _ _ bk; have BK2 := Lib.hid bk; clear bk hl hb2)
  refine bodyPost_ret (results_cell_row rfl _ _ (w.heap.size + 1 + 1) 24 #[.int .i64 4, .int .i64 0, .slice B 2 2] (0, 0) _ rfl (put3 BK2.out _ _ _) Try.underlying24 rfl (by kernel_rfl)) rfl ?_
  have hb := ((((below_then' B0.out HB2.out).setCell (p := ⟨w.heap.size + 1 + 1, 0, none⟩) (by simp only; omega) (.int .i64 4)).setCell (p := ⟨w.heap.size + 1 + 1, 1, none⟩) (by simp only; omega) (.int .i64 0)).setCell (p := ⟨w.heap.size + 1 + 1, 2, none⟩) (by simp only; omega) (.slice B 2 2))
  refine ⟨B, rfl, fun w6 hx hy hk => HL.out _ hx hy fun k h1 h2 => ?_, hb⟩
  simp only [size_alloc'] at h1
  rw [hk k (by omega) (by simpa using h2)]
  exact put3_but _ _ _ _ _ k (by omega)
set_option maxHeartbeats 4000000 in
set_option maxRecDepth 100000 in
theorem num16 (n : Int) (w : World) : Calls Try.prog 16 #[.int .i64 n] w fun e w' => e = .returned (.agg #[.int .i64 1, .int .i64 n, .slice none 0 0]) ∧ Below w.heap.size w w' := by
  have hu24 := Try.underlying24
  have HT := Lib.hid fun w5 => num26 n w5
  have BK : Hid ((w.alloc (.cells #[.int .i64 0, .int .i64 0, .slice none 0 0] 24)).heap[w.heap.size]? = some (.cells #[.int .i64 0, .int .i64 0, .slice none 0 0] 24 (0, 0))) := Lib.hid (heap_alloc_new w (.cells #[.int .i64 0, .int .i64 0, .slice none 0 0] 24))
  have B0 : Hid (Below w.heap.size w (w.alloc (.cells #[.int .i64 0, .int .i64 0, .slice none 0 0] 24))) := Lib.hid ((Below.refl _ _).alloc (Nat.le_refl _) _)
  go_enter Try.func16, Try.ntmps16
  go_wp2_with (go_at_call 26; refine (HT.out _).mono ?_; rintro e w2 ⟨rfl, hb2⟩; have HB2 := Lib.hid hb2; have bk := (hb2.block _ (Array.getElem?_eq_some_iff.1 BK.out).1).trans BK.out; have q0 := cell_of_row _ _ 0 _ _ _ bk; have q1 := cell_of_row _ _ 1 _ _ _ bk; have q2 := cell_of_row _ _ 2 _ _ _ bk; have f0 := frozen_of_row _ _ 0 _ _ bk; have f1 := frozen_of_row _ _ 1 _ _ bk; have f2 := frozen_of_row _ _ 2 _ _ bk; have BK2 := Lib.hid bk; clear bk hb2)
  refine bodyPost_ret (results_cell_row rfl _ _ w.heap.size 24 #[.int .i64 1, .int .i64 n, .slice none 0 0] (0, 0) _ rfl (put3 BK2.out _ _ _) Try.underlying24 rfl (by kernel_rfl)) rfl ?_
  have hb := ((((below_then' B0.out HB2.out).setCell (p := ⟨w.heap.size, 0, none⟩) (by simp only; omega) (.int .i64 1)).setCell (p := ⟨w.heap.size, 1, none⟩) (by simp only; omega) (.int .i64 n)).setCell (p := ⟨w.heap.size, 2, none⟩) (by simp only; omega) (.slice none 0 0))
  exact ⟨rfl, hb⟩
end Go.Proofs.Ytjnplfbggklkfaa

/- The ring's both and Equal, in the form that the print's texts want. -/
namespace Go.Proofs.Ytjnplfbggklkfaa
open Go.RowKit Go.Proofs.YtjnplfbggklkfaaW.PrintWords Go.Proofs.Ytjnplfbggklkfaa.Rg
set_option linter.unusedVariables false
set_option linter.unusedSimpArgs false

abbrev box2 (w : World) (x y : S24) (A : Option Addr) (c : Nat) (A' : Option Addr) (c' : Nat) : World :=
  (w.alloc (.cells #[.int .i64 x.f0, .int .i64 x.f1, .slice A x.f2.length c] 24)).alloc (.cells #[.int .i64 y.f0, .int .i64 y.f1, .slice A' y.f2.length c'] 24)
/-- What both walks need of the two boxes, at every later world. -/
structure Boxed (w w2 : World) (x y : S24) (A : Option Addr) (c : Nat) (A' : Option Addr) (c' : Nat) : Prop where
  b : Below w.heap.size w w2
  s : w.heap.size + 2 ≤ w2.heap.size
  x0 : w2.cell? ⟨w.heap.size, 0, none⟩ = some (.int .i64 x.f0)
  x1 : w2.cell? ⟨w.heap.size, 1, none⟩ = some (.int .i64 x.f1)
  x2 : w2.cell? ⟨w.heap.size, 2, none⟩ = some (.slice A x.f2.length c)
  y0 : w2.cell? ⟨w.heap.size + 1, 0, none⟩ = some (.int .i64 y.f0)
  y1 : w2.cell? ⟨w.heap.size + 1, 1, none⟩ = some (.int .i64 y.f1)
  y2 : w2.cell? ⟨w.heap.size + 1, 2, none⟩ = some (.slice A' y.f2.length c')
  hx : Kd.C k24 w2 A x.f2.length x.f2
  hy : Kd.C k24 w2 A' y.f2.length y.f2
theorem Boxed.start {w : World} {x y : S24} {A A' : Option Addr} {c c' : Nat} (hx : Kd.C k24 w A x.f2.length x.f2) (hy : Kd.C k24 w A' y.f2.length y.f2) : Boxed w (box2 w x y A c A' c') x y A c A' c' := by
  have hb : Below w.heap.size w (box2 w x y A c A' c') := ((Below.refl _ _).alloc (Nat.le_refl _) _).alloc (by simp) _
  have h1 := heap_alloc_new w (.cells #[.int .i64 x.f0, .int .i64 x.f1, .slice A x.f2.length c] 24)
  have h2 := heap_alloc_new (w.alloc (.cells #[.int .i64 x.f0, .int .i64 x.f1, .slice A x.f2.length c] 24)) (.cells #[.int .i64 y.f0, .int .i64 y.f1, .slice A' y.f2.length c'] 24)
  have h3 : (box2 w x y A c A' c').heap[w.heap.size]? = some (.cells #[.int .i64 x.f0, .int .i64 x.f1, .slice A x.f2.length c] 24 (0, 0)) := by
    rw [Below.heap_alloc _ _ _ (by simp)]
    exact h1
  have h4 : (box2 w x y A c A' c').heap[w.heap.size + 1]? = some (.cells #[.int .i64 y.f0, .int .i64 y.f1, .slice A' y.f2.length c'] 24 (0, 0)) := by simpa using h2
  exact ⟨hb, by simp, cell_of_row _ _ 0 _ _ _ h3, cell_of_row _ _ 1 _ _ _ h3, cell_of_row _ _ 2 _ _ _ h3, cell_of_row _ _ 0 _ _ _ h4, cell_of_row _ _ 1 _ _ _ h4, cell_of_row _ _ 2 _ _ _ h4, Kd.C_below hx hb, Kd.C_below hy hb⟩
theorem Boxed.next {w w2 w3 : World} {x y : S24} {A A' : Option Addr} {c c' : Nat} (h : Boxed w w2 x y A c A' c') (hb : Below w2.heap.size w2 w3) : Boxed w w3 x y A c A' c' :=
  ⟨below_then' h.b hb, Nat.le_trans h.s hb.size, cellB hb h.x0, cellB hb h.x1, cellB hb h.x2, cellB hb h.y0, cellB hb h.y1, cellB hb h.y2, Kd.C_below h.hx hb, Kd.C_below h.hy hb⟩

def BothPost (w : World) (x y : S24) (e : Ending) (w' : World) : Prop :=
  Below w.heap.size w w' ∧
  ((e = .returned (.tuple #[.map none, .map none, .int .i64 2]) ∧ (Bad x ∨ Bad y)) ∨
   ∃ r1 a r2 b, e = .returned (.tuple #[.map (some r1), .map (some r2), .int .i64 0]) ∧ MapIs w' r1 a ∧ MapIs w' r2 b ∧ Rep a (coef (den x)) ∧ Rep b (coef (den y)) ∧ ¬ Bad x ∧ ¬ Bad y)
set_option maxHeartbeats 4000000 in
set_option maxRecDepth 100000 in
theorem both_good (k : Nat) (x y : S24) (A : Option Addr) (c : Nat) (A' : Option Addr) (c' : Nat) (w : World) (hx : Kd.C k24 w A x.f2.length x.f2) (hy : Kd.C k24 w A' y.f2.length y.f2) (hc : x.f2.length ≤ c) (hc' : y.f2.length ≤ c')
    (v1 : ring_Valid.f k x.f0 x.f1 x.f2 = some true) (v2 : ring_Valid.f k y.f0 y.f1 y.f2 = some true) :
    Calls Try.prog 17 #[.agg #[.int .i64 x.f0, .int .i64 x.f1, .slice A x.f2.length c], .agg #[.int .i64 y.f0, .int .i64 y.f1, .slice A' y.f2.length c']] w (BothPost w x y) := by
  have hu24 := Try.underlying24
  have B0 := Lib.hid (Boxed.start (c := c) (c' := c') hx hy)
  have gx := valid_good v1
  have gy := valid_good v2
  rw [eta24] at gx gy
  have V1 := Lib.hid fun w5 (b : Boxed w w5 x y A c A' c') => ring_Valid.calls k x.f0 x.f1 A c x.f2 true w5 b.hx hc v1
  have V2 := Lib.hid fun w5 (b : Boxed w w5 x y A c A' c') => ring_Valid.calls k y.f0 y.f1 A' c' y.f2 true w5 b.hy hc' v2
  have N1 := Lib.hid fun w5 (b : Boxed w w5 x y A c A' c') => normal_calls gx A c w5 b.hx hc
  have N2 := Lib.hid fun w5 (b : Boxed w w5 x y A c A' c') => normal_calls gy A' c' w5 b.hy hc'
  clear hx hy hc hc' v1 v2 gx gy
  go_enter Try.func17, Try.ntmps17
  go_wp2_with (first
    | (go_at_call 27; refine (N2.out _ B3.out).mono ?_; rintro e w6 ⟨hb6, (⟨rfl, hbad2⟩ | ⟨r2, b, rfl, hr2, m2, p2, nb2⟩)⟩ <;> (have B4 := Lib.hid (B3.out.next hb6); have HB6 := Lib.hid hb6; clear hb6))
    | (go_at_call 27; refine (N1.out _ B2.out).mono ?_; rintro e w5 ⟨hb5, (⟨rfl, hbad1⟩ | ⟨r1, a, rfl, hr1, m1, p1, nb1⟩)⟩ <;> (have B3 := Lib.hid (B2.out.next hb5); have y0 := B3.out.y0; have y1 := B3.out.y1; have y2 := B3.out.y2; clear hb5))
    | (go_at_call 23; refine (V2.out _ B1.out).mono ?_; rintro e w4 ⟨rfl, hb4⟩; have B2 := Lib.hid (B1.out.next hb4); have x0 := B2.out.x0; have x1 := B2.out.x1; have x2 := B2.out.x2; clear hb4)
    | (go_at_call 23; refine (V1.out _ B0.out).mono ?_; rintro e w3 ⟨rfl, hb3⟩; have B1 := Lib.hid (B0.out.next hb3); have y0 := B1.out.y0; have y1 := B1.out.y1; have y2 := B1.out.y2; clear hb3))
  all_goals go_ret3
  all_goals first
    | exact ⟨B4.out.b, .inl ⟨rfl, .inl (by assumption)⟩⟩
    | exact ⟨B4.out.b, .inl ⟨rfl, .inr (by assumption)⟩⟩
    | exact ⟨B4.out.b, .inr ⟨_, _, _, _, rfl, m1.below HB6.out, m2, p1, p2, nb1, nb2⟩⟩
set_option maxHeartbeats 4000000 in
set_option maxRecDepth 100000 in
theorem both_bad2 (k : Nat) (x y : S24) (A : Option Addr) (c : Nat) (A' : Option Addr) (c' : Nat) (w : World) (hx : Kd.C k24 w A x.f2.length x.f2) (hy : Kd.C k24 w A' y.f2.length y.f2) (hc : x.f2.length ≤ c) (hc' : y.f2.length ≤ c')
    (v1 : ring_Valid.f k x.f0 x.f1 x.f2 = some true) (v2 : ring_Valid.f k y.f0 y.f1 y.f2 = some false) :
    Calls Try.prog 17 #[.agg #[.int .i64 x.f0, .int .i64 x.f1, .slice A x.f2.length c], .agg #[.int .i64 y.f0, .int .i64 y.f1, .slice A' y.f2.length c']] w fun e w' => e = .returned (.tuple #[.map none, .map none, .int .i64 4]) ∧ Below w.heap.size w w' := by
  have hu24 := Try.underlying24
  have B0 := Lib.hid (Boxed.start (c := c) (c' := c') hx hy)
  have V1 := Lib.hid fun w5 (b : Boxed w w5 x y A c A' c') => ring_Valid.calls k x.f0 x.f1 A c x.f2 true w5 b.hx hc v1
  have V2 := Lib.hid fun w5 (b : Boxed w w5 x y A c A' c') => ring_Valid.calls k y.f0 y.f1 A' c' y.f2 false w5 b.hy hc' v2
  clear hx hy hc hc' v1 v2
  go_enter Try.func17, Try.ntmps17
  go_wp2_with (first
    | (go_at_call 23; refine (V2.out _ B1.out).mono ?_; rintro e w4 ⟨rfl, hb4⟩; have B2 := Lib.hid (B1.out.next hb4); clear hb4)
    | (go_at_call 23; refine (V1.out _ B0.out).mono ?_; rintro e w3 ⟨rfl, hb3⟩; have B1 := Lib.hid (B0.out.next hb3); have y0 := B1.out.y0; have y1 := B1.out.y1; have y2 := B1.out.y2; clear hb3))
  go_ret3
  exact ⟨rfl, B2.out.b⟩
set_option maxHeartbeats 4000000 in
set_option maxRecDepth 100000 in
theorem both_bad1 (k : Nat) (x y : S24) (A : Option Addr) (c : Nat) (A' : Option Addr) (c' : Nat) (w : World) (hx : Kd.C k24 w A x.f2.length x.f2) (hy : Kd.C k24 w A' y.f2.length y.f2) (hc : x.f2.length ≤ c) (hc' : y.f2.length ≤ c')
    (v1 : ring_Valid.f k x.f0 x.f1 x.f2 = some false) :
    Calls Try.prog 17 #[.agg #[.int .i64 x.f0, .int .i64 x.f1, .slice A x.f2.length c], .agg #[.int .i64 y.f0, .int .i64 y.f1, .slice A' y.f2.length c']] w fun e w' => e = .returned (.tuple #[.map none, .map none, .int .i64 4]) ∧ Below w.heap.size w w' := by
  have hu24 := Try.underlying24
  have B0 := Lib.hid (Boxed.start (c := c) (c' := c') hx hy)
  have V1 := Lib.hid fun w5 (b : Boxed w w5 x y A c A' c') => ring_Valid.calls k x.f0 x.f1 A c x.f2 false w5 b.hx hc v1
  clear hx hy hc hc' v1
  go_enter Try.func17, Try.ntmps17
  go_wp2_with (go_at_call 23; refine (V1.out _ B0.out).mono ?_; rintro e w3 ⟨rfl, hb3⟩; have B1 := Lib.hid (B0.out.next hb3); clear hb3)
  go_ret3
  exact ⟨rfl, B1.out.b⟩

set_option maxHeartbeats 4000000 in
set_option maxRecDepth 100000 in
theorem equal_good (k : Nat) (x y : S24) (A : Option Addr) (c : Nat) (A' : Option Addr) (c' : Nat) (w : World) (hx : Kd.C k24 w A x.f2.length x.f2) (hy : Kd.C k24 w A' y.f2.length y.f2) (hc : x.f2.length ≤ c) (hc' : y.f2.length ≤ c')
    (v1 : ring_Valid.f k x.f0 x.f1 x.f2 = some true) (v2 : ring_Valid.f k y.f0 y.f1 y.f2 = some true) :
    Calls Try.prog 8 #[.agg #[.int .i64 x.f0, .int .i64 x.f1, .slice A x.f2.length c], .agg #[.int .i64 y.f0, .int .i64 y.f1, .slice A' y.f2.length c']] w fun e w' => e = .returned (.tuple #[.bool (verdict x y).1, .int .i64 (verdict x y).2]) ∧ Below w.heap.size w w' := by
  have hu24 := Try.underlying24
  have B0' := Boxed.start (c := c) (c' := c') hx hy
  have gx := valid_good v1
  have gy := valid_good v2
  rw [eta24] at gx gy
  have VB := Lib.hid fun (h : Bad x ∨ Bad y) => show verdict x y = (false, 2) by
    unfold verdict
    rw [if_pos (by
      rw [Bool.or_eq_true]
      exact h.imp (badB_iff gx).2 (badB_iff gy).2)]
  have VG := Lib.hid fun (h1 : ¬ Bad x) (h2 : ¬ Bad y) (a b : Asc) (pa : Rep a (coef (den x))) (pb : Rep b (coef (den y))) => show verdict x y = (sameB a b, 0) by
    unfold verdict
    rw [if_neg (by
      rw [Bool.or_eq_true, badB_iff gx, badB_iff gy]
      rintro (h | h)
      · exact h1 h
      · exact h2 h)]
    congr 1
    rw [Bool.eq_iff_iff, sameD_iff, same_rep pa pb]
  have HB := Lib.hid (both_good k x y A c A' c' _ B0'.hx B0'.hy hc hc' v1 v2)
  have B0 := Lib.hid B0'
  clear hx hy hc hc' v1 v2 gx gy B0'
  go_enter Try.func8, Try.ntmps8
  go_wp2_with (first
    | (go_at_call 18; refine (same_calls _ _ _ _ _ m1 m2).mono ?_; rintro e w4 ⟨rfl, hb4⟩; have B2 := Lib.hid (B1.out.next hb4); clear hb4; have VV := Lib.hid (VG.out nb1 nb2 _ _ p1 p2); generalize sameB a b = sb at *)
    | (go_at_call 17; refine HB.out.mono ?_; rintro e w3 ⟨hb3, (⟨rfl, hbad⟩ | ⟨r1, a, r2, b, rfl, m1, m2, p1, p2, nb1, nb2⟩)⟩ <;> (have B1 := Lib.hid (B0.out.next hb3); clear hb3)))
  all_goals go_ret2
  all_goals first
    | exact ⟨by rw [VV.out]; rfl, B2.out.b⟩
    | exact ⟨by rw [VB.out hbad]; rfl, B1.out.b⟩
set_option maxHeartbeats 4000000 in
set_option maxRecDepth 100000 in
theorem equal_bad (x y : S24) (A : Option Addr) (c : Nat) (A' : Option Addr) (c' : Nat) (w : World) (hx : Kd.C k24 w A x.f2.length x.f2) (hy : Kd.C k24 w A' y.f2.length y.f2)
    (h : ∀ w5, Boxed w w5 x y A c A' c' → Calls Try.prog 17 #[.agg #[.int .i64 x.f0, .int .i64 x.f1, .slice A x.f2.length c], .agg #[.int .i64 y.f0, .int .i64 y.f1, .slice A' y.f2.length c']] w5 fun e w' => e = .returned (.tuple #[.map none, .map none, .int .i64 4]) ∧ Below w5.heap.size w5 w') :
    Calls Try.prog 8 #[.agg #[.int .i64 x.f0, .int .i64 x.f1, .slice A x.f2.length c], .agg #[.int .i64 y.f0, .int .i64 y.f1, .slice A' y.f2.length c']] w fun e w' => e = .returned (.tuple #[.bool false, .int .i64 4]) ∧ Below w.heap.size w w' := by
  have hu24 := Try.underlying24
  have B0' := Boxed.start (c := c) (c' := c') hx hy
  have HB := Lib.hid (h _ B0')
  have B0 := Lib.hid B0'
  clear hx hy h B0'
  go_enter Try.func8, Try.ntmps8
  go_wp2_with (go_at_call 17; refine HB.out.mono ?_; rintro e w3 ⟨rfl, hb3⟩; have B1 := Lib.hid (B0.out.next hb3); clear hb3)
  go_ret2
  exact ⟨rfl, B1.out.b⟩

namespace Rg
def ring_Equal.f (k : Nat) (a0_0 a0_1 : Int) (l0_2 : List S24) (a1_0 a1_1 : Int) (l1_2 : List S24) : Option (Bool × Int) :=
  (ring_Valid.f k a0_0 a0_1 l0_2).bind fun v1 => (if v1 = true then ((ring_Valid.f k a1_0 a1_1 l1_2).bind fun v2 => (if v2 = true then (some (verdict ⟨a0_0, a0_1, l0_2⟩ ⟨a1_0, a1_1, l1_2⟩)) else (some (false, 4)))) else (some (false, 4)))
theorem ring_Equal.mono : ∀ a0 a1 a2 a3 a4 a5 k, LeO (ring_Equal.f k a0 a1 a2 a3 a4 a5) (ring_Equal.f (k + 1) a0 a1 a2 a3 a4 a5) := by
  intro a0 a1 a2 a3 a4 a5 k
  unfold ring_Equal.f
  repeat' first
      | (with_reducible exact ring_Valid.mono _ _ _ _)
      | (with_reducible exact LeO.refl _)
      | (with_reducible refine LeO.ite ?_ ?_)
      | (with_reducible refine LeO.bind ?_ (fun _ => ?_))
      | exact ring_Valid.mono _ _ _ _
      | refine LeO.ite ?_ ?_
      | refine LeO.bind ?_ (fun _ => ?_)
theorem ring_Equal.calls (k : Nat) (a0_0 : Int) (a0_1 : Int) (A0_2 : Option Addr) (c0_2 : Nat) (l0_2 : List (S24)) (a1_0 : Int) (a1_1 : Int) (A1_2 : Option Addr) (c1_2 : Nat) (l1_2 : List (S24)) (r1 : Bool) (r2 : Int) (w : World) (hr0_2 : Kd.C k24 w A0_2 l0_2.length l0_2) (hc0_2 : l0_2.length ≤ c0_2) (hr1_2 : Kd.C k24 w A1_2 l1_2.length l1_2) (hc1_2 : l1_2.length ≤ c1_2) (h : ring_Equal.f k a0_0 a0_1 l0_2 a1_0 a1_1 l1_2 = some (r1, r2)) :
    Calls Try.prog 8 #[.agg #[.int .i64 a0_0, .int .i64 a0_1, .slice A0_2 l0_2.length c0_2], .agg #[.int .i64 a1_0, .int .i64 a1_1, .slice A1_2 l1_2.length c1_2]] w fun e w' => e = .returned (.tuple #[.bool r1, .int .i64 r2]) ∧ Below w.heap.size w w' := by
  unfold ring_Equal.f at h
  obtain ⟨v1, e1, h⟩ := Option.bind_eq_some_iff.1 h
  cases v1 with
  | false =>
    rw [if_neg (by decide)] at h
    obtain ⟨rfl, rfl⟩ := Prod.mk.injEq .. ▸ Option.some.inj h
    exact equal_bad ⟨a0_0, a0_1, l0_2⟩ ⟨a1_0, a1_1, l1_2⟩ A0_2 c0_2 A1_2 c1_2 w hr0_2 hr1_2 fun w5 b => both_bad1 k ⟨a0_0, a0_1, l0_2⟩ ⟨a1_0, a1_1, l1_2⟩ A0_2 c0_2 A1_2 c1_2 w5 b.hx b.hy hc0_2 hc1_2 e1
  | true =>
    rw [if_pos rfl] at h
    obtain ⟨v2, e2, h⟩ := Option.bind_eq_some_iff.1 h
    cases v2 with
    | false =>
      rw [if_neg (by decide)] at h
      obtain ⟨rfl, rfl⟩ := Prod.mk.injEq .. ▸ Option.some.inj h
      exact equal_bad ⟨a0_0, a0_1, l0_2⟩ ⟨a1_0, a1_1, l1_2⟩ A0_2 c0_2 A1_2 c1_2 w hr0_2 hr1_2 fun w5 b => both_bad2 k ⟨a0_0, a0_1, l0_2⟩ ⟨a1_0, a1_1, l1_2⟩ A0_2 c0_2 A1_2 c1_2 w5 b.hx b.hy hc0_2 hc1_2 e1 e2
    | true =>
      rw [if_pos rfl] at h
      have hv := Option.some.inj h
      have := equal_good k ⟨a0_0, a0_1, l0_2⟩ ⟨a1_0, a1_1, l1_2⟩ A0_2 c0_2 A1_2 c1_2 w hr0_2 hr1_2 hc0_2 hc1_2 e1 e2
      rw [hv] at this
      exact this
end Rg
end Go.Proofs.Ytjnplfbggklkfaa

/- The law's awake: two expressions of the ring that are equal, and found equal. -/
namespace Go.Proofs.Ytjnplfbggklkfaa
open Go.RowKit Go.Proofs.YtjnplfbggklkfaaW.PrintWords Go.Proofs.Ytjnplfbggklkfaa.Rg
set_option linter.unusedVariables false
set_option linter.unusedSimpArgs false

def eV : S24 := ⟨2, 0, []⟩
def e1 : S24 := ⟨1, 1, []⟩
def e2 : S24 := ⟨1, 2, []⟩
def eS : S24 := ⟨3, 0, [eV, e1]⟩
def eL : S24 := ⟨4, 0, [eS, eS]⟩
def eM : S24 := ⟨4, 0, [eV, eV]⟩
def eN : S24 := ⟨4, 0, [e2, eV]⟩
def eT : S24 := ⟨3, 0, [eM, eN]⟩
def eR : S24 := ⟨3, 0, [eT, e1]⟩
theorem C_nil (w : World) : Kd.C k24 w none 0 [] := ⟨rfl, by omega, fun h => absurd h (by omega)⟩
abbrev Z24 : Obj := .cells #[.int .i64 0, .int .i64 0, .slice none 0 0] 24
theorem t2_new {q w' : World} (hb : Below (q.alloc Z24).heap.size (q.alloc Z24) w') : w'.heap[q.heap.size]? = some (.cells #[.int .i64 0, .int .i64 0, .slice none 0 0] 24 (0, 0)) :=
  (hb.block _ (by simp)).trans (heap_alloc_new q Z24)
theorem t2_ne {q w' : World} (g : Nat) (v : Value) (hb : Below (q.alloc Z24).heap.size (q.alloc Z24) w') (h : q.cell? ⟨g, 0, none⟩ = some v) : q.heap.size ≠ g := Nat.ne_of_gt (World.block_lt_of_cell? q _ h)
theorem t2_newd {q w' : World} (hb : Below (q.alloc Z24).drew.heap.size (q.alloc Z24).drew w') : w'.heap[q.heap.size]? = some (.cells #[.int .i64 0, .int .i64 0, .slice none 0 0] 24 (0, 0)) :=
  (hb.block _ (by simp)).trans (heap_alloc_new q Z24)
theorem t2_ned {q w' : World} (g : Nat) (v : Value) (hb : Below (q.alloc Z24).drew.heap.size (q.alloc Z24).drew w') (h : q.cell? ⟨g, 0, none⟩ = some v) : q.heap.size ≠ g := Nat.ne_of_gt (World.block_lt_of_cell? q _ h)
theorem put3_cell {w : World} {g : Nat} {a : Addr} {v : Value} (x y z : Value) (hne : g ≠ a.block) (h : w.cell? a = some v) :
    (((w.setCell ⟨g, 0, none⟩ x).setCell ⟨g, 1, none⟩ y).setCell ⟨g, 2, none⟩ z).cell? a = some v := by
  rw [World.cell?_setCell_far _ _ _ _ hne, World.cell?_setCell_far _ _ _ _ hne, World.cell?_setCell_far _ _ _ _ hne]
  exact h
theorem t2_old {p w' : World} {g : Nat} {o : Obj} (hb : Below p.heap.size p w') (h : p.heap[g]? = some o) : w'.heap[g]? = some o := (hb.block _ (Array.getElem?_eq_some_iff.1 h).1).trans h
theorem C_alloc {w : World} {A : Option Addr} {n : Nat} {xs : List S24} (o : Obj) (h : Kd.C k24 w A n xs) : Kd.C k24 (w.alloc o) A n xs := Kd.C_below h ((Below.refl _ _).alloc (Nat.le_refl _) _)
theorem cell_alloc {w : World} {a : Addr} {v : Value} (o : Obj) (h : w.cell? a = some v) : (w.alloc o).cell? a = some v := cellB ((Below.refl _ _).alloc (Nat.le_refl _) o) h
theorem cell_drew {w : World} {a : Addr} {v : Value} (h : w.cell? a = some v) : w.drew.cell? a = some v := h
theorem C_drew {w : World} {A : Option Addr} {n : Nat} {xs : List S24} (h : Kd.C k24 w A n xs) : Kd.C k24 w.drew A n xs := Kd.C_below h (Below.refl w.heap.size w).drew
theorem below_alloc_ {a w : World} (o : Obj) (h : Below a.heap.size a w) : Below a.heap.size a (w.alloc o) := h.alloc h.size o
/-! ### The makers' calls -/
theorem addV1 (w : World) : Calls Try.prog 10 #[.agg #[.int .i64 2, .int .i64 0, .slice none 0 0], .agg #[.int .i64 1, .int .i64 1, .slice none 0 0]] w fun e w' => ∃ D, e = .returned (.agg #[.int .i64 3, .int .i64 0, .slice D 2 2]) ∧ Lays w.heap.size w' D none eV none e1 ∧ Below w.heap.size w w' :=
  add10 eV e1 none 0 none 0 w (Nat.le_refl _) (Nat.le_refl _)
theorem mulSS (w : World) (B : Option Addr) (B' : Option Addr) : Calls Try.prog 11 #[.agg #[.int .i64 3, .int .i64 0, .slice B 2 2], .agg #[.int .i64 3, .int .i64 0, .slice B' 2 2]] w fun e w' => ∃ D, e = .returned (.agg #[.int .i64 4, .int .i64 0, .slice D 2 2]) ∧ Lays w.heap.size w' D B eS B' eS ∧ Below w.heap.size w w' :=
  mul11 eS eS B 2 B' 2 w (Nat.le_refl _) (Nat.le_refl _)
theorem mulVV (w : World) : Calls Try.prog 11 #[.agg #[.int .i64 2, .int .i64 0, .slice none 0 0], .agg #[.int .i64 2, .int .i64 0, .slice none 0 0]] w fun e w' => ∃ D, e = .returned (.agg #[.int .i64 4, .int .i64 0, .slice D 2 2]) ∧ Lays w.heap.size w' D none eV none eV ∧ Below w.heap.size w w' :=
  mul11 eV eV none 0 none 0 w (Nat.le_refl _) (Nat.le_refl _)
theorem mul2V (w : World) : Calls Try.prog 11 #[.agg #[.int .i64 1, .int .i64 2, .slice none 0 0], .agg #[.int .i64 2, .int .i64 0, .slice none 0 0]] w fun e w' => ∃ D, e = .returned (.agg #[.int .i64 4, .int .i64 0, .slice D 2 2]) ∧ Lays w.heap.size w' D none e2 none eV ∧ Below w.heap.size w w' :=
  mul11 e2 eV none 0 none 0 w (Nat.le_refl _) (Nat.le_refl _)
theorem addMN (w : World) (B : Option Addr) (B' : Option Addr) : Calls Try.prog 10 #[.agg #[.int .i64 4, .int .i64 0, .slice B 2 2], .agg #[.int .i64 4, .int .i64 0, .slice B' 2 2]] w fun e w' => ∃ D, e = .returned (.agg #[.int .i64 3, .int .i64 0, .slice D 2 2]) ∧ Lays w.heap.size w' D B eM B' eN ∧ Below w.heap.size w w' :=
  add10 eM eN B 2 B' 2 w (Nat.le_refl _) (Nat.le_refl _)
theorem addT1 (w : World) (B : Option Addr) : Calls Try.prog 10 #[.agg #[.int .i64 3, .int .i64 0, .slice B 2 2], .agg #[.int .i64 1, .int .i64 1, .slice none 0 0]] w fun e w' => ∃ D, e = .returned (.agg #[.int .i64 3, .int .i64 0, .slice D 2 2]) ∧ Lays w.heap.size w' D B eT none e1 ∧ Below w.heap.size w w' :=
  add10 eT e1 B 2 none 0 w (Nat.le_refl _) (Nat.le_refl _)
theorem Lays.go {p : Nat} {w' w6 : World} {D A A' : Option Addr} {x y : S24} (h : Lays p w' D A x A' y) (hx : Kd.C k24 w6 A x.f2.length x.f2) (hy : Kd.C k24 w6 A' y.f2.length y.f2) (hk : Agree p w' w6) : Kd.C k24 w6 D 2 [x, y] := h w6 hx hy hk
theorem Lays.go' {p n : Nat} {xs : List S24} {w' w6 : World} {D A A' : Option Addr} {x y : S24} (h : Lays p w' D A x A' y) (hn : n = 2) (hx' : xs = [x, y]) (hx : Kd.C k24 w6 A x.f2.length x.f2) (hy : Kd.C k24 w6 A' y.f2.length y.f2) (hk : Agree p w' w6) : Kd.C k24 w6 D n xs := by
  subst hn hx'
  exact h w6 hx hy hk
theorem Agree.below {p : Nat} {w' w6 : World} (h : Below w'.heap.size w' w6) : Agree p w' w6 := fun k _ hk => h.block k hk
theorem Agree.put3 {p : Nat} {w' w6 : World} (h : Below w'.heap.size w' w6) (g : Nat) (x y z : Value) (hg : g < p ∨ w'.heap.size ≤ g) : Agree p w' (((w6.setCell ⟨g, 0, none⟩ x).setCell ⟨g, 1, none⟩ y).setCell ⟨g, 2, none⟩ z) := fun k h1 h2 =>
  (put3_but w6 g x y z k (by omega)).trans (h.block k h2)
theorem below_put3 {a w6 : World} (h : Below a.heap.size a w6) (g : Nat) (x y z : Value) (hg : a.heap.size ≤ g) : Below a.heap.size a (((w6.setCell ⟨g, 0, none⟩ x).setCell ⟨g, 1, none⟩ y).setCell ⟨g, 2, none⟩ z) :=
  ((h.setCell (p := ⟨g, 0, none⟩) hg x).setCell (p := ⟨g, 1, none⟩) hg y).setCell (p := ⟨g, 2, none⟩) hg z
theorem below_drew_ {a w : World} (h : Below a.heap.size a w) : Below a.heap.size a w.drew := h.drew
theorem row_below {w w' : World} {g : Nat} {o : Obj} (h : w.heap[g]? = some o) (hb : Below w.heap.size w w') : w'.heap[g]? = some o := t2_old hb h
theorem size_drew (w : World) : w.drew.heap.size = w.heap.size := rfl
theorem row_alloc {w : World} {g : Nat} {r : Obj} (o : Obj) (h : w.heap[g]? = some r) : (w.alloc o).heap[g]? = some r := t2_old ((Below.refl _ _).alloc (Nat.le_refl _) o) h
theorem row_put3 {w : World} {k : Nat} {r : Obj} (g : Nat) (x y z : Value) (hk : k ≠ g) (h : w.heap[k]? = some r) : (((w.setCell ⟨g, 0, none⟩ x).setCell ⟨g, 1, none⟩ y).setCell ⟨g, 2, none⟩ z).heap[k]? = some r := (put3_but w g x y z k hk).trans h
theorem row_drew {w : World} {g : Nat} {r : Obj} (h : w.heap[g]? = some r) : w.drew.heap[g]? = some r := h
/-- What stands when the left expression is laid down. -/
structure AwA (w : World) (g1 g2 : Nat) (B : Option Addr) (wx : World) : Prop where
  b : Below w.heap.size w wx
  r1 : wx.heap[g1]? = some (.cells #[.int .i64 2, .int .i64 0, .slice none 0 0] 24 (0, 0))
  r2 : wx.heap[g2]? = some (.cells #[.int .i64 4, .int .i64 0, .slice B 2 2] 24 (0, 0))
  c : Kd.C k24 wx B 2 [eS, eS]
theorem AwA.new {w w4 : World} {g1 : Nat} {B : Option Addr} (h : Below w.heap.size w w4) (r1 : w4.heap[g1]? = some (.cells #[.int .i64 2, .int .i64 0, .slice none 0 0] 24 (0, 0)))
    (c : Kd.C k24 (w4.alloc (.cells #[.int .i64 4, .int .i64 0, .slice B 2 2] 24)) B 2 [eS, eS]) :
    ∃ g2 B', Value.pointer (some ⟨w4.heap.size, 0, none⟩) = .pointer (some ⟨g2, 0, none⟩) ∧ Hid (AwA w g1 g2 B' (w4.alloc (.cells #[.int .i64 4, .int .i64 0, .slice B 2 2] 24))) :=
  ⟨_, B, rfl, Lib.hid ⟨below_alloc_ _ h, row_alloc _ r1, heap_alloc_new _ _, c⟩⟩
theorem AwA.put {w w4 : World} {g1 g : Nat} {B : Option Addr} (h : Below w.heap.size w w4) (r1 : w4.heap[g1]? = some (.cells #[.int .i64 2, .int .i64 0, .slice none 0 0] 24 (0, 0))) (bk : w4.heap[g]? = some (.cells #[.int .i64 0, .int .i64 0, .slice none 0 0] 24 (0, 0)))
    (hne : g ≠ g1) (hg : w.heap.size ≤ g) (c : Kd.C k24 (((w4.setCell ⟨g, 0, none⟩ (.int .i64 4)).setCell ⟨g, 1, none⟩ (.int .i64 0)).setCell ⟨g, 2, none⟩ (.slice B 2 2)) B 2 [eS, eS]) :
    ∃ g2 B', Value.pointer (some ⟨g, 0, none⟩) = .pointer (some ⟨g2, 0, none⟩) ∧ Hid (AwA w g1 g2 B' (((w4.setCell ⟨g, 0, none⟩ (.int .i64 4)).setCell ⟨g, 1, none⟩ (.int .i64 0)).setCell ⟨g, 2, none⟩ (.slice B 2 2))) :=
  ⟨_, B, rfl, Lib.hid ⟨below_put3 h _ _ _ _ hg, row_put3 _ _ _ _ (fun e => hne e.symm) r1, put3 bk _ _ _, c⟩⟩
/-- What stands when both are laid down. -/
structure AwB (w : World) (g2 g3 : Nat) (B D : Option Addr) (wx : World) : Prop where
  b : Below w.heap.size w wx
  r2 : wx.heap[g2]? = some (.cells #[.int .i64 4, .int .i64 0, .slice B 2 2] 24 (0, 0))
  r3 : wx.heap[g3]? = some (.cells #[.int .i64 3, .int .i64 0, .slice D 2 2] 24 (0, 0))
  c : Kd.C k24 wx B 2 [eS, eS]
  d : Kd.C k24 wx D 2 [eT, e1]
theorem AwB.new {w wc w4 : World} {g1 g2 : Nat} {B D : Option Addr} (H : Hid (AwA w g1 g2 B wc)) (h : Below wc.heap.size wc w4)
    (c : Kd.C k24 (w4.alloc (.cells #[.int .i64 3, .int .i64 0, .slice D 2 2] 24)) D 2 [eT, e1]) :
    ∃ g3 D', Value.pointer (some ⟨w4.heap.size, 0, none⟩) = .pointer (some ⟨g3, 0, none⟩) ∧ Hid (AwB w g2 g3 B D' (w4.alloc (.cells #[.int .i64 3, .int .i64 0, .slice D 2 2] 24))) :=
  ⟨_, D, rfl, Lib.hid ⟨below_alloc_ _ (below_then' H.out.b h), row_alloc _ (t2_old h H.out.r2), heap_alloc_new _ _, Kd.C_below H.out.c (below_alloc_ _ h), c⟩⟩
theorem AwB.put {w wc w4 : World} {g1 g2 g : Nat} {B D : Option Addr} (H : Hid (AwA w g1 g2 B wc)) (h : Below wc.heap.size wc w4) (bk : w4.heap[g]? = some (.cells #[.int .i64 0, .int .i64 0, .slice none 0 0] 24 (0, 0)))
    (hg : wc.heap.size ≤ g) (c : Kd.C k24 (((w4.setCell ⟨g, 0, none⟩ (.int .i64 3)).setCell ⟨g, 1, none⟩ (.int .i64 0)).setCell ⟨g, 2, none⟩ (.slice D 2 2)) D 2 [eT, e1]) :
    ∃ g3 D', Value.pointer (some ⟨g, 0, none⟩) = .pointer (some ⟨g3, 0, none⟩) ∧ Hid (AwB w g2 g3 B D' (((w4.setCell ⟨g, 0, none⟩ (.int .i64 3)).setCell ⟨g, 1, none⟩ (.int .i64 0)).setCell ⟨g, 2, none⟩ (.slice D 2 2))) :=
  have h2 := below_put3 h g (.int .i64 3) (.int .i64 0) (.slice D 2 2) hg
  ⟨_, D, rfl, Lib.hid ⟨below_then' H.out.b h2, t2_old h2 H.out.r2, put3 bk _ _ _, Kd.C_below H.out.c h2, c⟩⟩
theorem validL : ring_Valid.f 40 eL.f0 eL.f1 eL.f2 = some true := by kernel_rfl
theorem validR : ring_Valid.f 40 eR.f0 eR.f1 eR.f2 = some true := by kernel_rfl
theorem verdictLR : verdict eL eR = (true, 0) := by kernel_rfl
theorem equalLR (w : World) (B D : Option Addr) (hb : Kd.C k24 w B 2 [eS, eS]) (hd : Kd.C k24 w D 2 [eT, e1]) :
    Calls Try.prog 8 #[.agg #[.int .i64 4, .int .i64 0, .slice B 2 2], .agg #[.int .i64 3, .int .i64 0, .slice D 2 2]] w fun e w' => e = .returned (.tuple #[.bool true, .int .i64 0]) ∧ Below w.heap.size w w' := by
  have h := equal_good 40 eL eR B 2 D 2 w hb hd (Nat.le_refl _) (Nat.le_refl _) validL validR
  rw [verdictLR] at h
  exact h
set_option maxHeartbeats 16000000 in
set_option maxRecDepth 100000 in
theorem awake_calls (w : World) : Calls Try.prog 7 #[] w fun e w' => e = .returned (.bool true) ∧ Below w.heap.size w w' := by
  have hu24 := Try.underlying24
  go_enter Try.func7, Try.ntmps7
  go_upto_region 2 with (go_at_call 15; refine (var15 _ _).mono ?_; rintro e w2 ⟨rfl, hb2⟩)
  have c0 : (w2.alloc (.cells #[.int .i64 2, .int .i64 0, .slice none 0 0] 24)).cell? ⟨w2.heap.size, 0, none⟩ = some (.int .i64 2) := cell_of_row _ _ 0 _ _ _ (heap_alloc_new w2 _)
  have c1 : (w2.alloc (.cells #[.int .i64 2, .int .i64 0, .slice none 0 0] 24)).cell? ⟨w2.heap.size, 1, none⟩ = some (.int .i64 0) := cell_of_row _ _ 1 _ _ _ (heap_alloc_new w2 _)
  have c2 : (w2.alloc (.cells #[.int .i64 2, .int .i64 0, .slice none 0 0] 24)).cell? ⟨w2.heap.size, 2, none⟩ = some (.slice none 0 0) := cell_of_row _ _ 2 _ _ _ (heap_alloc_new w2 _)
  have r3 := Lib.hid (heap_alloc_new w2 (.cells #[.int .i64 2, .int .i64 0, .slice none 0 0] 24))
  have z2 := hb2.size
  have z3 : w2.heap.size + 1 ≤ (w2.alloc (.cells #[.int .i64 2, .int .i64 0, .slice none 0 0] 24)).heap.size := by simp
  have hb3 := below_alloc_ (.cells #[.int .i64 2, .int .i64 0, .slice none 0 0] 24) hb2
  generalize hw3 : w2.alloc (.cells #[.int .i64 2, .int .i64 0, .slice none 0 0] 24) = w3 at *
  go_cut [2] from 6 to 33 (fun v2 wx => ∃ g2 B, v2 = .pointer (some ⟨g2, 0, none⟩) ∧ Hid (AwA w w2.heap.size g2 B wx))
  case first =>
    go_region_held3 (fun w' => w'.cell? ⟨w2.heap.size, 0, none⟩ = some (.int .i64 2) ∧ w'.cell? ⟨w2.heap.size, 1, none⟩ = some (.int .i64 0) ∧ w'.cell? ⟨w2.heap.size, 2, none⟩ = some (.slice none 0 0)) (((try dsimp only); refine ⟨?_, ?_, ?_⟩ <;> (first | ((repeat (first | with_reducible assumption | with_reducible (refine cell_drew ?_) | with_reducible (refine cell_alloc _ ?_) | with_reducible (refine cellB (by assumption) ?_))); done) | (with_reducible (refine put3_cell _ _ _ (ne ?_) ?_) <;> (repeat (first | with_reducible assumption | with_reducible (refine cell_drew ?_) | with_reducible (refine cell_alloc _ ?_) | with_reducible (refine cellB (by assumption) ?_))); done))))
      (first
        | (go_at_call 16; refine (num16 _ _).mono ?_; rintro e w4 ⟨rfl, hb4⟩; have z4 := hb4.size; (try simp only [size_alloc', size_drew] at z4); (first | (with_reducible have bk := t2_newd hb4; have ne := t2_ned (w2.heap.size) (.int .i64 2) hb4; have q0 := cell_of_row _ _ 0 _ _ _ bk; have q1 := cell_of_row _ _ 1 _ _ _ bk; have q2 := cell_of_row _ _ 2 _ _ _ bk; have f0 := frozen_of_row _ _ 0 _ _ bk; have f1 := frozen_of_row _ _ 1 _ _ bk; have f2 := frozen_of_row _ _ 2 _ _ bk) | (with_reducible have bk := t2_new hb4; have ne := t2_ne (w2.heap.size) (.int .i64 2) hb4; have q0 := cell_of_row _ _ 0 _ _ _ bk; have q1 := cell_of_row _ _ 1 _ _ _ bk; have q2 := cell_of_row _ _ 2 _ _ _ bk; have f0 := frozen_of_row _ _ 0 _ _ bk; have f1 := frozen_of_row _ _ 1 _ _ bk; have f2 := frozen_of_row _ _ 2 _ _ bk) | (with_reducible have bk := t2_old hb4 bk; have q0 := cell_of_row _ _ 0 _ _ _ bk; have q1 := cell_of_row _ _ 1 _ _ _ bk; have q2 := cell_of_row _ _ 2 _ _ _ bk; have f0 := frozen_of_row _ _ 0 _ _ bk; have f1 := frozen_of_row _ _ 1 _ _ bk; have f2 := frozen_of_row _ _ 2 _ _ bk) | skip))
        | (go_at_call 10; refine (addV1 _).mono ?_; rintro e w4 ⟨B, rfl, hc4, hb4⟩; have z4 := hb4.size; (try simp only [size_alloc', size_drew] at z4); (first | (with_reducible have bk := t2_newd hb4; have ne := t2_ned (w2.heap.size) (.int .i64 2) hb4; have q0 := cell_of_row _ _ 0 _ _ _ bk; have q1 := cell_of_row _ _ 1 _ _ _ bk; have q2 := cell_of_row _ _ 2 _ _ _ bk; have f0 := frozen_of_row _ _ 0 _ _ bk; have f1 := frozen_of_row _ _ 1 _ _ bk; have f2 := frozen_of_row _ _ 2 _ _ bk) | (with_reducible have bk := t2_new hb4; have ne := t2_ne (w2.heap.size) (.int .i64 2) hb4; have q0 := cell_of_row _ _ 0 _ _ _ bk; have q1 := cell_of_row _ _ 1 _ _ _ bk; have q2 := cell_of_row _ _ 2 _ _ _ bk; have f0 := frozen_of_row _ _ 0 _ _ bk; have f1 := frozen_of_row _ _ 1 _ _ bk; have f2 := frozen_of_row _ _ 2 _ _ bk) | (with_reducible have bk := t2_old hb4 bk; have q0 := cell_of_row _ _ 0 _ _ _ bk; have q1 := cell_of_row _ _ 1 _ _ _ bk; have q2 := cell_of_row _ _ 2 _ _ _ bk; have f0 := frozen_of_row _ _ 0 _ _ bk; have f1 := frozen_of_row _ _ 1 _ _ bk; have f2 := frozen_of_row _ _ 2 _ _ bk) | skip))
        | (go_at_call 11; refine (mulSS _ _ _).mono ?_; rintro e w4 ⟨B, rfl, hc4, hb4⟩; have z4 := hb4.size; (try simp only [size_alloc', size_drew] at z4); (first | (with_reducible have bk := t2_newd hb4; have ne := t2_ned (w2.heap.size) (.int .i64 2) hb4; have q0 := cell_of_row _ _ 0 _ _ _ bk; have q1 := cell_of_row _ _ 1 _ _ _ bk; have q2 := cell_of_row _ _ 2 _ _ _ bk; have f0 := frozen_of_row _ _ 0 _ _ bk; have f1 := frozen_of_row _ _ 1 _ _ bk; have f2 := frozen_of_row _ _ 2 _ _ bk) | (with_reducible have bk := t2_new hb4; have ne := t2_ne (w2.heap.size) (.int .i64 2) hb4; have q0 := cell_of_row _ _ 0 _ _ _ bk; have q1 := cell_of_row _ _ 1 _ _ _ bk; have q2 := cell_of_row _ _ 2 _ _ _ bk; have f0 := frozen_of_row _ _ 0 _ _ bk; have f1 := frozen_of_row _ _ 1 _ _ bk; have f2 := frozen_of_row _ _ 2 _ _ bk) | (with_reducible have bk := t2_old hb4 bk; have q0 := cell_of_row _ _ 0 _ _ _ bk; have q1 := cell_of_row _ _ 1 _ _ _ bk; have q2 := cell_of_row _ _ 2 _ _ _ bk; have f0 := frozen_of_row _ _ 0 _ _ bk; have f1 := frozen_of_row _ _ 1 _ _ bk; have f2 := frozen_of_row _ _ 2 _ _ bk) | skip)))
    all_goals
      go_wp2_with fail
      go_meet
    all_goals have r3 := r3.out
    all_goals first
      | (with_reducible refine AwA.new ?_ ?_ ?_)
      | (with_reducible refine AwA.put ?_ ?_ (by assumption) ?_ ?_ ?_)
    all_goals first
      | ((repeat (first | with_reducible exact Below.refl _ _ | with_reducible assumption | with_reducible (refine below_drew_ ?_) | with_reducible (refine below_alloc_ _ ?_) | with_reducible (refine below_then' ?_ (by assumption)))); done)
      | ((repeat (first | with_reducible assumption | with_reducible (refine row_drew ?_) | with_reducible (refine row_alloc _ ?_) | with_reducible (refine row_below ?_ (by assumption)))); done)
      | omega
      | ((repeat' (first | exact C_nil _ | (refine Lays.go' (by assumption) rfl rfl ?_ ?_ ?_))); all_goals (first | ((with_reducible refine Agree.put3 ?_ _ _ _ _ ?_); (focus ((repeat (first | with_reducible exact Below.refl _ _ | with_reducible assumption | with_reducible (refine below_drew_ ?_) | with_reducible (refine below_alloc_ _ ?_) | with_reducible (refine below_then' ?_ (by assumption)))); done)); (try simp only [size_alloc', size_drew]); omega) | (refine Agree.below ?_; (repeat (first | with_reducible exact Below.refl _ _ | with_reducible assumption | with_reducible (refine below_drew_ ?_) | with_reducible (refine below_alloc_ _ ?_) | with_reducible (refine below_then' ?_ (by assumption)))); done)))
  case rest =>
    obtain ⟨g2, B, rfl, H⟩ := hcut
    clear c0 c1 c2 hb3 r3 z3
    obtain ⟨g1, hg1⟩ : ∃ g, g = w2.heap.size := ⟨_, rfl⟩
    simp only [← hg1] at *
    clear z2 hb2 hw3 hg1
    have c0 : wc.cell? ⟨g1, 0, none⟩ = some (.int .i64 2) := cell_of_row _ _ 0 _ _ _ H.out.r1
    have c1 : wc.cell? ⟨g1, 1, none⟩ = some (.int .i64 0) := cell_of_row _ _ 1 _ _ _ H.out.r1
    have c2 : wc.cell? ⟨g1, 2, none⟩ = some (.slice none 0 0) := cell_of_row _ _ 2 _ _ _ H.out.r1
    go_upto_region 3 with fail
    go_cut [3] from 6 to 33 (fun v3 wx => ∃ g3 D, v3 = .pointer (some ⟨g3, 0, none⟩) ∧ Hid (AwB w g2 g3 B D wx))
    case first =>
      go_region_held3 (fun w' => w'.cell? ⟨g1, 0, none⟩ = some (.int .i64 2) ∧ w'.cell? ⟨g1, 1, none⟩ = some (.int .i64 0) ∧ w'.cell? ⟨g1, 2, none⟩ = some (.slice none 0 0)) (((try dsimp only); refine ⟨?_, ?_, ?_⟩ <;> (first | ((repeat (first | with_reducible assumption | with_reducible (refine cell_drew ?_) | with_reducible (refine cell_alloc _ ?_) | with_reducible (refine cellB (by assumption) ?_))); done) | (with_reducible (refine put3_cell _ _ _ (ne ?_) ?_) <;> (repeat (first | with_reducible assumption | with_reducible (refine cell_drew ?_) | with_reducible (refine cell_alloc _ ?_) | with_reducible (refine cellB (by assumption) ?_))); done))))
        (first
          | (go_at_call 16; refine (num16 _ _).mono ?_; rintro e w4 ⟨rfl, hb4⟩; have z4 := hb4.size; (try simp only [size_alloc', size_drew] at z4); (first | (with_reducible have bk := t2_newd hb4; have ne := t2_ned (g1) (.int .i64 2) hb4; have q0 := cell_of_row _ _ 0 _ _ _ bk; have q1 := cell_of_row _ _ 1 _ _ _ bk; have q2 := cell_of_row _ _ 2 _ _ _ bk; have f0 := frozen_of_row _ _ 0 _ _ bk; have f1 := frozen_of_row _ _ 1 _ _ bk; have f2 := frozen_of_row _ _ 2 _ _ bk) | (with_reducible have bk := t2_new hb4; have ne := t2_ne (g1) (.int .i64 2) hb4; have q0 := cell_of_row _ _ 0 _ _ _ bk; have q1 := cell_of_row _ _ 1 _ _ _ bk; have q2 := cell_of_row _ _ 2 _ _ _ bk; have f0 := frozen_of_row _ _ 0 _ _ bk; have f1 := frozen_of_row _ _ 1 _ _ bk; have f2 := frozen_of_row _ _ 2 _ _ bk) | (with_reducible have bk := t2_old hb4 bk; have q0 := cell_of_row _ _ 0 _ _ _ bk; have q1 := cell_of_row _ _ 1 _ _ _ bk; have q2 := cell_of_row _ _ 2 _ _ _ bk; have f0 := frozen_of_row _ _ 0 _ _ bk; have f1 := frozen_of_row _ _ 1 _ _ bk; have f2 := frozen_of_row _ _ 2 _ _ bk) | skip))
          | (go_at_call 11; (first | with_reducible refine (mulVV _).mono ?_ | with_reducible refine (mul2V _).mono ?_); rintro e w4 ⟨B, rfl, hc4, hb4⟩; have z4 := hb4.size; (try simp only [size_alloc', size_drew] at z4); (first | (with_reducible have bk := t2_newd hb4; have ne := t2_ned (g1) (.int .i64 2) hb4; have q0 := cell_of_row _ _ 0 _ _ _ bk; have q1 := cell_of_row _ _ 1 _ _ _ bk; have q2 := cell_of_row _ _ 2 _ _ _ bk; have f0 := frozen_of_row _ _ 0 _ _ bk; have f1 := frozen_of_row _ _ 1 _ _ bk; have f2 := frozen_of_row _ _ 2 _ _ bk) | (with_reducible have bk := t2_new hb4; have ne := t2_ne (g1) (.int .i64 2) hb4; have q0 := cell_of_row _ _ 0 _ _ _ bk; have q1 := cell_of_row _ _ 1 _ _ _ bk; have q2 := cell_of_row _ _ 2 _ _ _ bk; have f0 := frozen_of_row _ _ 0 _ _ bk; have f1 := frozen_of_row _ _ 1 _ _ bk; have f2 := frozen_of_row _ _ 2 _ _ bk) | (with_reducible have bk := t2_old hb4 bk; have q0 := cell_of_row _ _ 0 _ _ _ bk; have q1 := cell_of_row _ _ 1 _ _ _ bk; have q2 := cell_of_row _ _ 2 _ _ _ bk; have f0 := frozen_of_row _ _ 0 _ _ bk; have f1 := frozen_of_row _ _ 1 _ _ bk; have f2 := frozen_of_row _ _ 2 _ _ bk) | skip))
          | (go_at_call 10; (first | with_reducible refine (addMN _ _ _).mono ?_ | with_reducible refine (addT1 _ _).mono ?_); rintro e w4 ⟨B, rfl, hc4, hb4⟩; have z4 := hb4.size; (try simp only [size_alloc', size_drew] at z4); (first | (with_reducible have bk := t2_newd hb4; have ne := t2_ned (g1) (.int .i64 2) hb4; have q0 := cell_of_row _ _ 0 _ _ _ bk; have q1 := cell_of_row _ _ 1 _ _ _ bk; have q2 := cell_of_row _ _ 2 _ _ _ bk; have f0 := frozen_of_row _ _ 0 _ _ bk; have f1 := frozen_of_row _ _ 1 _ _ bk; have f2 := frozen_of_row _ _ 2 _ _ bk) | (with_reducible have bk := t2_new hb4; have ne := t2_ne (g1) (.int .i64 2) hb4; have q0 := cell_of_row _ _ 0 _ _ _ bk; have q1 := cell_of_row _ _ 1 _ _ _ bk; have q2 := cell_of_row _ _ 2 _ _ _ bk; have f0 := frozen_of_row _ _ 0 _ _ bk; have f1 := frozen_of_row _ _ 1 _ _ bk; have f2 := frozen_of_row _ _ 2 _ _ bk) | (with_reducible have bk := t2_old hb4 bk; have q0 := cell_of_row _ _ 0 _ _ _ bk; have q1 := cell_of_row _ _ 1 _ _ _ bk; have q2 := cell_of_row _ _ 2 _ _ _ bk; have f0 := frozen_of_row _ _ 0 _ _ bk; have f1 := frozen_of_row _ _ 1 _ _ bk; have f2 := frozen_of_row _ _ 2 _ _ bk) | skip)))
      all_goals
        go_wp2_with fail
        go_meet
      all_goals first
        | (with_reducible refine AwB.new H ?_ ?_)
        | (with_reducible refine AwB.put H ?_ (by assumption) ?_ ?_)
      all_goals first
        | ((repeat (first | with_reducible exact Below.refl _ _ | with_reducible assumption | with_reducible (refine below_drew_ ?_) | with_reducible (refine below_alloc_ _ ?_) | with_reducible (refine below_then' ?_ (by assumption)))); done)
        | omega
        | ((repeat' (first | exact C_nil _ | (refine Lays.go' (by assumption) rfl rfl ?_ ?_ ?_))); all_goals (first | ((with_reducible refine Agree.put3 ?_ _ _ _ _ ?_); (focus ((repeat (first | with_reducible exact Below.refl _ _ | with_reducible assumption | with_reducible (refine below_drew_ ?_) | with_reducible (refine below_alloc_ _ ?_) | with_reducible (refine below_then' ?_ (by assumption)))); done)); (try simp only [size_alloc', size_drew]); omega) | (refine Agree.below ?_; (repeat (first | with_reducible exact Below.refl _ _ | with_reducible assumption | with_reducible (refine below_drew_ ?_) | with_reducible (refine below_alloc_ _ ?_) | with_reducible (refine below_then' ?_ (by assumption)))); done)))
    case rest =>
      obtain ⟨g3, D, rfl, H3⟩ := hcut
      clear c0 c1 c2 H
      have a0 := cell_of_row _ _ 0 _ _ _ H3.out.r2
      have a1 := cell_of_row _ _ 1 _ _ _ H3.out.r2
      have a2 := cell_of_row _ _ 2 _ _ _ H3.out.r2
      have b0 := cell_of_row _ _ 0 _ _ _ H3.out.r3
      have b1 := cell_of_row _ _ 1 _ _ _ H3.out.r3
      have b2 := cell_of_row _ _ 2 _ _ _ H3.out.r3
      have HE := Lib.hid fun w5 => equalLR w5 B D
      go_wp2_with (go_at_call 8; refine (HE.out _ H3.out.c H3.out.d).mono ?_; rintro e w4 ⟨rfl, hb4⟩)
      go_ret
      exact ⟨rfl, below_then' H3.out.b hb4⟩
namespace Rg
def tenetlaw24_awake.f : Option Bool := some true
theorem tenetlaw24_awake.calls (r : Bool) (w : World) (h : tenetlaw24_awake.f = some r) : Calls Try.prog 7 #[] w fun e w' => e = .returned (.bool r) ∧ Below w.heap.size w w' := by
  obtain rfl := Option.some.inj h
  exact awake_calls w
end Rg
end Go.Proofs.Ytjnplfbggklkfaa

-- Written by a program of this claim's session: print.py's form, some functions told by hand.
namespace Go.Proofs.Ytjnplfbggklkfaa.Rg
open Go.RowKit Go.Proofs.YtjnplfbggklkfaaW.PrintWords Go.Proofs.YtjnplfbggklkfaaW.PrintLast Go.Proofs.YtjnplfbggklkfaaW.PrintMore
attribute [local go_sem] max2_int min2_int max_two min_two max_three min_three max_four min_four   -- for this text's walks alone
set_option linter.unusedVariables false
set_option linter.unusedSimpArgs false

/-! ### tenetref24_Equal: function 9 -/
def tenetref24_Equal.j0 : Nat → Bool → Int → Int → List (S24) → Int → Int → List (S24) → Option (Bool × Int)
 | 0, _, _, _, _, _, _, _ => none
 | k + 1, x17, x304000, x304001, x304002, x305000, x305001, x305002 => if x17 = true then (some (false, 4)) else ((tenetref24_normal.f k x304000 x304001 x304002).bind fun bt307 => ((tenetref24_normal.f k x305000 x305001 x305002).bind fun bt311 => (if bt307.2 = true then (if bt311.2 = true then ((tenetref24_EqMonos.f k bt307.1 bt311.1).bind fun t315 => (some (t315, 0))) else (some (false, 2))) else (some (false, 2)))))
def tenetref24_Equal.f (k : Nat) (a0_0 : Int) (a0_1 : Int) (l0_2 : List (S24)) (a1_0 : Int) (a1_1 : Int) (l1_2 : List (S24)) : Option (Bool × Int) := (tenetref24_Valid.f k a0_0 a0_1 l0_2).bind fun t305 => (if t305 = true then ((tenetref24_Valid.f k a1_0 a1_1 l1_2).bind fun t306 => (tenetref24_Equal.j0 k (!t306) a0_0 a0_1 l0_2 a1_0 a1_1 l1_2)) else (tenetref24_Equal.j0 k true a0_0 a0_1 l0_2 a1_0 a1_1 l1_2))
theorem tenetref24_Equal.mono_l : ∀ k, (∀ y0 y1 y2 y3 y4 y5 y6, LeO (tenetref24_Equal.j0 k y0 y1 y2 y3 y4 y5 y6) (tenetref24_Equal.j0 (k + 1) y0 y1 y2 y3 y4 y5 y6))
 | 0 => fun _ _ _ _ _ _ _ r h => by simp [tenetref24_Equal.j0] at h
 | k + 1 => by
  have ih0 := tenetref24_Equal.mono_l k
  ·
   intro y0 y1 y2 y3 y4 y5 y6
   unfold tenetref24_Equal.j0
   repeat' first
   | (with_reducible exact ih0 _ _ _ _ _ _ _)
   | (with_reducible exact tenetref24_EqMonos.mono _ _ _)
   | (with_reducible exact tenetref24_Valid.mono _ _ _ _)
   | (with_reducible exact tenetref24_normal.mono _ _ _ _)
   | (with_reducible exact LeO.refl _)
   | (with_reducible exact LeO.none _)
   | (with_reducible refine LeO.ite ?_ ?_)
   | (with_reducible refine LeO.bind ?_ (fun _ => ?_))
   | exact ih0 _ _ _ _ _ _ _
   | exact tenetref24_EqMonos.mono _ _ _
   | exact tenetref24_Valid.mono _ _ _ _
   | exact tenetref24_normal.mono _ _ _ _
   | exact LeO.none _
   | refine LeO.ite ?_ ?_
   | refine LeO.bind ?_ (fun _ => ?_)
theorem tenetref24_Equal.mono : ∀ a0 a1 a2 a3 a4 a5 k, LeO (tenetref24_Equal.f k a0 a1 a2 a3 a4 a5) (tenetref24_Equal.f (k + 1) a0 a1 a2 a3 a4 a5) := by
 intro a0 a1 a2 a3 a4 a5 k
 have ih0 := tenetref24_Equal.mono_l k
 unfold tenetref24_Equal.f
 repeat' first
   | (with_reducible exact ih0 _ _ _ _ _ _ _)
   | (with_reducible exact tenetref24_EqMonos.mono _ _ _)
   | (with_reducible exact tenetref24_Valid.mono _ _ _ _)
   | (with_reducible exact tenetref24_normal.mono _ _ _ _)
   | (with_reducible exact LeO.refl _)
   | (with_reducible exact LeO.none _)
   | (with_reducible refine LeO.ite ?_ ?_)
   | (with_reducible refine LeO.bind ?_ (fun _ => ?_))
   | exact ih0 _ _ _ _ _ _ _
   | exact tenetref24_EqMonos.mono _ _ _
   | exact tenetref24_Valid.mono _ _ _ _
   | exact tenetref24_normal.mono _ _ _ _
   | exact LeO.none _
   | refine LeO.ite ?_ ?_
   | refine LeO.bind ?_ (fun _ => ?_)
set_option maxHeartbeats 8000000 in
set_option maxRecDepth 100000 in
theorem tenetref24_Equal.calls (k : Nat) (a0_0 : Int) (a0_1 : Int) (A0_2 : Option Addr) (c0_2 : Nat) (l0_2 : List (S24)) (a1_0 : Int) (a1_1 : Int) (A1_2 : Option Addr) (c1_2 : Nat) (l1_2 : List (S24)) (r1 : Bool) (r2 : Int) (w : World) (hr0_2 : Kd.C k24 w A0_2 l0_2.length l0_2) (hc0_2 : l0_2.length ≤ c0_2) (hr1_2 : Kd.C k24 w A1_2 l1_2.length l1_2) (hc1_2 : l1_2.length ≤ c1_2) (h : tenetref24_Equal.f k a0_0 a0_1 l0_2 a1_0 a1_1 l1_2 = some (r1, r2)) :
  Calls Try.prog 9 #[.agg #[.int .i64 a0_0, .int .i64 a0_1, .slice A0_2 l0_2.length c0_2], .agg #[.int .i64 a1_0, .int .i64 a1_1, .slice A1_2 l1_2.length c1_2]] w fun e w' => e = .returned (.tuple #[.bool r1, .int .i64 r2]) ∧ Below w.heap.size w w' := by
 have hu24 := Try.underlying24
 have HR0_2 := Am hr0_2
 have HC0_2 := Am hc0_2
 clear hr0_2 hc0_2
 have HR1_2 := Am hr1_2
 have HC1_2 := Am hc1_2
 clear hr1_2 hc1_2
 have HB := Am (Below.refl w.heap.size w)
 have H : ((tenetref24_Valid.f k a0_0 a0_1 l0_2).bind fun t305 => (if t305 = true then ((tenetref24_Valid.f k a1_0 a1_1 l1_2).bind fun t306 => (tenetref24_Equal.j0 k (!t306) a0_0 a0_1 l0_2 a1_0 a1_1 l1_2)) else (tenetref24_Equal.j0 k true a0_0 a0_1 l0_2 a1_0 a1_1 l1_2))) = some (r1, r2) := h
 clear h
 have HC3 := Am H
 clear H
 go_enter Try.func9, Try.ntmps9
 go_upto_region 1 with (first | ((with_reducible refine gate_dst (N := 2) rfl ?_); refine box_event ?hg (N := 2) ?hd (cs := #[.int .i64 a0_0, .int .i64 a0_1, .slice A0_2 l0_2.length c0_2]) (t := 24) ?hr ?_; (case hd => rfl); (case hg => rfl); (case hr => first | (go_simp; done) | (go_simp; rfl)); intro gb303 hg w4 hbox hb; have n0_ := Am (below_step (by repeat (first | (with_reducible first | exact HB.out | apply pA | apply pN | apply pD) | exact HB.out)) hb); have n1_ := Am (hbox); have n2_ := Am ((by rw [hg]; exact (below_size (by repeat (first | (with_reducible first | exact HB.out | apply pA | apply pN | apply pD) | exact HB.out))) : w.heap.size ≤ gb303)); have n3_ := Am ((by rw [hg]; exact (below_size (by repeat (first | (with_reducible first | exact HB.out | apply pA | apply pN | apply pD) | exact HB.out))) : w.heap.size ≤ gb303)); clear HB; have HB := n0_; have BK303 := n1_; have GW303 := n2_; have GE303 := n3_; clear n0_ n1_ n2_ n3_; clear hb hbox hg) | ((with_reducible refine gate_dst (N := 3) rfl ?_); refine box_event ?hg (N := 3) ?hd (cs := #[.int .i64 a1_0, .int .i64 a1_1, .slice A1_2 l1_2.length c1_2]) (t := 24) ?hr ?_; (case hd => rfl); (case hg => rfl); (case hr => first | (go_simp; done) | (go_simp; rfl)); intro gb304 hg w5 hbox hb; have n0_ := Am (blk_below (g := gb303) (o := .cells #[.int .i64 a0_0, .int .i64 a0_1, .slice A0_2 l0_2.length c0_2] 24 (0, 0)) (by (with_reducible repeat (first | refine bN ?_ _ | refine bD ?_ | refine bA ?_ _)); exact BK303.out) hb); have n1_ := Am (below_step (by repeat (first | (with_reducible first | exact HB.out | apply pA | apply pN | apply pD | refine pS ?_ GE303.out) | exact HB.out)) hb); have n2_ := Am (hbox); have n3_ := Am ((by rw [hg]; exact (below_size (by repeat (first | (with_reducible first | exact HB.out | apply pA | apply pN | apply pD | refine pS ?_ GE303.out) | exact HB.out))) : w.heap.size ≤ gb304)); have n4_ := Am ((by rw [hg]; exact (below_size (by repeat (first | (with_reducible first | exact HB.out | apply pA | apply pN | apply pD | refine pS ?_ GE303.out) | exact HB.out))) : w.heap.size ≤ gb304)); have n5_ := Am ((by rw [hg]; exact Nat.ne_of_lt (blk_lt (g := gb303) (o := .cells #[.int .i64 a0_0, .int .i64 a0_1, .slice A0_2 l0_2.length c0_2] 24 (0, 0)) (by (with_reducible repeat (first | refine bN ?_ _ | refine bD ?_ | refine bA ?_ _)); exact BK303.out)) : gb303 ≠ gb304)); have n6_ := Am ((by rw [hg]; exact Nat.ne_of_gt (blk_lt (g := gb303) (o := .cells #[.int .i64 a0_0, .int .i64 a0_1, .slice A0_2 l0_2.length c0_2] 24 (0, 0)) (by (with_reducible repeat (first | refine bN ?_ _ | refine bD ?_ | refine bA ?_ _)); exact BK303.out)) : gb304 ≠ gb303)); clear BK303; clear HB; have BK303 := n0_; have HB := n1_; have BK304 := n2_; have GW304 := n3_; have GE304 := n4_; have NB303_304 := n5_; have NB304_303 := n6_; clear n0_ n1_ n2_ n3_ n4_ n5_ n6_; clear hb hbox hg))
 (try simp only [Act.put, List.setIfInBounds_toArray, List.set_cons_zero, List.set_cons_succ])
 go_cut [17] (fun v17 wc => ∃ (kq : Nat) (x17_2 : Bool), v17 = .bool x17_2 ∧ Aside0 (tenetref24_Equal.j0 kq x17_2 a0_0 a0_1 l0_2 a1_0 a1_1 l1_2 = some (r1, r2)) ∧ Aside0 (kq ≤ k) ∧ Aside0 (wc.heap[gb303]? = some (.cells #[.int .i64 a0_0, .int .i64 a0_1, (.slice A0_2 l0_2.length c0_2)] 24 (0, 0))) ∧ Aside0 (wc.heap[gb304]? = some (.cells #[.int .i64 a1_0, .int .i64 a1_1, (.slice A1_2 l1_2.length c1_2)] 24 (0, 0))) ∧ Aside0 (Below w.heap.size w wc))
 case first =>
  have H := HC3.out
  clear HC3
  replace H := Option.bind_eq_some_iff.mp H
  obtain ⟨t305, A60, H⟩ := H
  replace H : (if t305 = true then ((tenetref24_Valid.f k a1_0 a1_1 l1_2).bind fun t306 => (tenetref24_Equal.j0 k (!t306) a0_0 a0_1 l0_2 a1_0 a1_1 l1_2)) else (tenetref24_Equal.j0 k true a0_0 a0_1 l0_2 a1_0 a1_1 l1_2)) = some (r1, r2) := H
  have A6 := Am A60
  clear A60
  by_cases c7 : t305 = true
  ·
   subst c7
   have H1 : ((tenetref24_Valid.f k a1_0 a1_1 l1_2).bind fun t306 => (tenetref24_Equal.j0 k (!t306) a0_0 a0_1 l0_2 a1_0 a1_1 l1_2)) = some (r1, r2) := by rw [if_pos rfl] at H; exact H
   clear H
   have H := H1
   clear H1
   replace H := Option.bind_eq_some_iff.mp H
   obtain ⟨t306, A80, H⟩ := H
   replace H : (tenetref24_Equal.j0 k (!t306) a0_0 a0_1 l0_2 a1_0 a1_1 l1_2) = some (r1, r2) := H
   have A8 := Am A80
   clear A80
   have H' := Am H
   clear H
   have hnb9 := NB303_304.out
   have hnc9 := NB304_303.out
   have hcz10_0 : w5.cell? ⟨gb303, 0, none⟩ = some (.int .i64 a0_0) := (blk_cell BK303.out 0).trans rfl
   have hcz10_1 : w5.cell? ⟨gb303, 1, none⟩ = some (.int .i64 a0_1) := (blk_cell BK303.out 1).trans rfl
   have hcz10_2 : w5.cell? ⟨gb303, 2, none⟩ = some (.slice A0_2 l0_2.length c0_2) := (blk_cell BK303.out 2).trans rfl
   have hfz10_0 := blk_frozen BK303.out 0
   have hfz10_1 := blk_frozen BK303.out 1
   have hfz10_2 := blk_frozen BK303.out 2
   go_wp2_with (first | ((with_reducible refine gate_callee (f := 19) rfl ?_); refine goesL_ (some 11) rfl rfl Try.func19 (by kernel_rfl) rfl #[.agg #[.int .i64 a0_0, .int .i64 a0_1, .slice A0_2 l0_2.length c0_2]] rfl (by (try simp only [List.map_toArray, List.map_cons, List.map_nil]); first | done | rfl | (simp only [List.length_drop, List.length_take]; rfl)) ?_; (with_reducible refine (tenetref24_Valid.calls k a0_0 a0_1 _ _ l0_2 true _ ?side1 ?side2 A6.out).mono ?_); (case side1 => repeat (first | exact (Kd.C_below HR0_2.out HB.out) | (with_reducible refine Kd.C_alloc ?_ _) | (with_reducible refine Kd.C_drewN ?_ _) | (with_reducible refine Kd.C_drew ?_))); (case side2 => exact HC0_2.out); rintro e w11 ⟨rfl, hb⟩; refine ⟨_, rfl, ?_⟩; have n0_ := Am (blk_below (g := gb303) (o := .cells #[.int .i64 a0_0, .int .i64 a0_1, .slice A0_2 l0_2.length c0_2] 24 (0, 0)) (by (with_reducible repeat (first | refine bN ?_ _ | refine bD ?_ | refine bA ?_ _)); exact BK303.out) hb); have n1_ := Am (blk_below (g := gb304) (o := .cells #[.int .i64 a1_0, .int .i64 a1_1, .slice A1_2 l1_2.length c1_2] 24 (0, 0)) (by (with_reducible repeat (first | refine bN ?_ _ | refine bD ?_ | refine bA ?_ _)); exact BK304.out) hb); have n2_ := Am (below_step (by repeat (first | (with_reducible first | exact HB.out | apply pA | apply pN | apply pD | refine pS ?_ GE303.out | refine pS ?_ GE304.out) | exact HB.out)) hb); clear BK303; clear BK304; clear HB; have BK303 := n0_; have BK304 := n1_; have HB := n2_; clear n0_ n1_ n2_; (try clear hb); (try clear hb2); (try clear hk); (try clear hi); have hcz12_0 : w11.cell? ⟨gb304, 0, none⟩ = some (.int .i64 a1_0) := (blk_cell BK304.out 0).trans rfl; have hcz12_1 : w11.cell? ⟨gb304, 1, none⟩ = some (.int .i64 a1_1) := (blk_cell BK304.out 1).trans rfl; have hcz12_2 : w11.cell? ⟨gb304, 2, none⟩ = some (.slice A1_2 l1_2.length c1_2) := (blk_cell BK304.out 2).trans rfl; have hfz12_0 := blk_frozen BK304.out 0; have hfz12_1 := blk_frozen BK304.out 1; have hfz12_2 := blk_frozen BK304.out 2) | (go_at_call 19; (with_reducible refine (tenetref24_Valid.calls k a1_0 a1_1 _ _ l1_2 t306 _ ?side1 ?side2 A8.out).mono ?_); (case side1 => repeat (first | exact (Kd.C_below HR1_2.out HB.out) | (with_reducible refine Kd.C_alloc ?_ _) | (with_reducible refine Kd.C_drewN ?_ _) | (with_reducible refine Kd.C_drew ?_))); (case side2 => exact HC1_2.out); rintro e w13 ⟨rfl, hb⟩; have n0_ := Am (blk_below (g := gb303) (o := .cells #[.int .i64 a0_0, .int .i64 a0_1, .slice A0_2 l0_2.length c0_2] 24 (0, 0)) (by (with_reducible repeat (first | refine bN ?_ _ | refine bD ?_ | refine bA ?_ _)); exact BK303.out) hb); have n1_ := Am (blk_below (g := gb304) (o := .cells #[.int .i64 a1_0, .int .i64 a1_1, .slice A1_2 l1_2.length c1_2] 24 (0, 0)) (by (with_reducible repeat (first | refine bN ?_ _ | refine bD ?_ | refine bA ?_ _)); exact BK304.out) hb); have n2_ := Am (below_step (by repeat (first | (with_reducible first | exact HB.out | apply pA | apply pN | apply pD | refine pS ?_ GE303.out | refine pS ?_ GE304.out) | exact HB.out)) hb); clear BK303; clear BK304; clear HB; have BK303 := n0_; have BK304 := n1_; have HB := n2_; clear n0_ n1_ n2_; (try clear hb); (try clear hb2); (try clear hk); (try clear hi)))
   go_meet
   case rel => exact ⟨_, (!t306), (by first | rfl | (simp; done) | (simp [*]; done)), H', ⟨by first | omega | exact Nat.le_refl _⟩, ⟨by (with_reducible repeat (first | refine bN ?_ _ | refine bD ?_ | refine bA ?_ _)); exact BK303.out⟩, ⟨by (with_reducible repeat (first | refine bN ?_ _ | refine bD ?_ | refine bA ?_ _)); exact BK304.out⟩, ⟨by repeat (first | (with_reducible first | exact HB.out | apply pA | apply pN | apply pD | refine pS ?_ GE303.out | refine pS ?_ GE304.out) | exact HB.out)⟩⟩
  ·
   replace c7 := Bool.eq_false_iff.mpr c7
   subst c7
   have H1 : (tenetref24_Equal.j0 k true a0_0 a0_1 l0_2 a1_0 a1_1 l1_2) = some (r1, r2) := by rw [if_neg (show ¬ (false = true) by decide)] at H; exact H
   clear H
   have H := H1
   clear H1
   have H' := Am H
   clear H
   have hnb14 := NB303_304.out
   have hnc14 := NB304_303.out
   have hcz15_0 : w5.cell? ⟨gb303, 0, none⟩ = some (.int .i64 a0_0) := (blk_cell BK303.out 0).trans rfl
   have hcz15_1 : w5.cell? ⟨gb303, 1, none⟩ = some (.int .i64 a0_1) := (blk_cell BK303.out 1).trans rfl
   have hcz15_2 : w5.cell? ⟨gb303, 2, none⟩ = some (.slice A0_2 l0_2.length c0_2) := (blk_cell BK303.out 2).trans rfl
   have hfz15_0 := blk_frozen BK303.out 0
   have hfz15_1 := blk_frozen BK303.out 1
   have hfz15_2 := blk_frozen BK303.out 2
   go_wp2_with (first | ((with_reducible refine gate_callee (f := 19) rfl ?_); refine goesL_ (some 11) rfl rfl Try.func19 (by kernel_rfl) rfl #[.agg #[.int .i64 a0_0, .int .i64 a0_1, .slice A0_2 l0_2.length c0_2]] rfl (by (try simp only [List.map_toArray, List.map_cons, List.map_nil]); first | done | rfl | (simp only [List.length_drop, List.length_take]; rfl)) ?_; (with_reducible refine (tenetref24_Valid.calls k a0_0 a0_1 _ _ l0_2 false _ ?side1 ?side2 A6.out).mono ?_); (case side1 => repeat (first | exact (Kd.C_below HR0_2.out HB.out) | (with_reducible refine Kd.C_alloc ?_ _) | (with_reducible refine Kd.C_drewN ?_ _) | (with_reducible refine Kd.C_drew ?_))); (case side2 => exact HC0_2.out); rintro e w16 ⟨rfl, hb⟩; refine ⟨_, rfl, ?_⟩; have n0_ := Am (blk_below (g := gb303) (o := .cells #[.int .i64 a0_0, .int .i64 a0_1, .slice A0_2 l0_2.length c0_2] 24 (0, 0)) (by (with_reducible repeat (first | refine bN ?_ _ | refine bD ?_ | refine bA ?_ _)); exact BK303.out) hb); have n1_ := Am (blk_below (g := gb304) (o := .cells #[.int .i64 a1_0, .int .i64 a1_1, .slice A1_2 l1_2.length c1_2] 24 (0, 0)) (by (with_reducible repeat (first | refine bN ?_ _ | refine bD ?_ | refine bA ?_ _)); exact BK304.out) hb); have n2_ := Am (below_step (by repeat (first | (with_reducible first | exact HB.out | apply pA | apply pN | apply pD | refine pS ?_ GE303.out | refine pS ?_ GE304.out) | exact HB.out)) hb); clear BK303; clear BK304; clear HB; have BK303 := n0_; have BK304 := n1_; have HB := n2_; clear n0_ n1_ n2_; (try clear hb); (try clear hb2); (try clear hk); (try clear hi)))
   go_meet
   case rel => exact ⟨_, (true), (by first | rfl | (simp; done) | (simp [*]; done)), H', ⟨by first | omega | exact Nat.le_refl _⟩, ⟨by (with_reducible repeat (first | refine bN ?_ _ | refine bD ?_ | refine bA ?_ _)); exact BK303.out⟩, ⟨by (with_reducible repeat (first | refine bN ?_ _ | refine bD ?_ | refine bA ?_ _)); exact BK304.out⟩, ⟨by repeat (first | (with_reducible first | exact HB.out | apply pA | apply pN | apply pD | refine pS ?_ GE303.out | refine pS ?_ GE304.out) | exact HB.out)⟩⟩
 case rest =>
  clear HC3
  try clear c1
  try clear p2
  try clear c7
  try clear c9
  try clear c14
  try clear hcz10_0
  try clear hcz10_1
  try clear hcz10_2
  try clear hcz12_0
  try clear hcz12_1
  try clear hcz12_2
  try clear hcz15_0
  try clear hcz15_1
  try clear hcz15_2
  try clear hfz10_0
  try clear hfz10_1
  try clear hfz10_2
  try clear hfz12_0
  try clear hfz12_1
  try clear hfz12_2
  try clear hfz15_0
  try clear hfz15_1
  try clear hfz15_2
  obtain ⟨kq, x17_2, rfl, HA, HJ2, BK303, BK304, HB⟩ := hcut
  cases kq with
  | zero => exact absurd HA.out (by simp [tenetref24_Equal.j0])
  | succ kj2 =>
   have H := HA.out
   clear HA
   simp only [tenetref24_Equal.j0] at H
   by_cases c17 : x17_2 = true
   ·
    subst c17
    have H1 : (some (false, 4)) = some (r1, r2) := by rw [if_pos rfl] at H; exact H
    clear H
    have H := H1
    clear H1
    simp only [Option.some.injEq, Prod.mk.injEq] at H
    obtain ⟨rfl, rfl⟩ := H
    go_wp2
    go_ret2
    exact ⟨by first | rfl | (simp [errW_none, errW_some] <;> rfl) | (simp [*, errW_none, errW_some] <;> rfl), by repeat (first | (with_reducible first | exact HB.out | apply pA | apply pN | apply pD | refine pS ?_ GE303.out | refine pS ?_ GE304.out) | exact HB.out)⟩
   ·
    replace c17 := Bool.eq_false_iff.mpr c17
    subst c17
    have H1 : ((tenetref24_normal.f kj2 a0_0 a0_1 l0_2).bind fun bt307 => ((tenetref24_normal.f kj2 a1_0 a1_1 l1_2).bind fun bt311 => (if bt307.2 = true then (if bt311.2 = true then ((tenetref24_EqMonos.f kj2 bt307.1 bt311.1).bind fun t315 => (some (t315, 0))) else (some (false, 2))) else (some (false, 2))))) = some (r1, r2) := by rw [if_neg (show ¬ (false = true) by decide)] at H; exact H
    clear H
    have H := H1
    clear H1
    replace H := Option.bind_eq_some_iff.mp H
    obtain ⟨⟨t307, t310⟩, A180, H⟩ := H
    replace H : ((tenetref24_normal.f kj2 a1_0 a1_1 l1_2).bind fun bt311 => (if t310 = true then (if bt311.2 = true then ((tenetref24_EqMonos.f kj2 t307 bt311.1).bind fun t315 => (some (t315, 0))) else (some (false, 2))) else (some (false, 2)))) = some (r1, r2) := H
    have A18 := Am A180
    clear A180
    replace H := Option.bind_eq_some_iff.mp H
    obtain ⟨⟨t311, t314⟩, A190, H⟩ := H
    replace H : (if t310 = true then (if t314 = true then ((tenetref24_EqMonos.f kj2 t307 t311).bind fun t315 => (some (t315, 0))) else (some (false, 2))) else (some (false, 2))) = some (r1, r2) := H
    have A19 := Am A190
    clear A190
    by_cases c20 : t310 = true
    ·
     subst c20
     have H1 : (if t314 = true then ((tenetref24_EqMonos.f kj2 t307 t311).bind fun t315 => (some (t315, 0))) else (some (false, 2))) = some (r1, r2) := by rw [if_pos rfl] at H; exact H
     clear H
     have H := H1
     clear H1
     by_cases c21 : t314 = true
     ·
      subst c21
      have H1 : ((tenetref24_EqMonos.f kj2 t307 t311).bind fun t315 => (some (t315, 0))) = some (r1, r2) := by rw [if_pos rfl] at H; exact H
      clear H
      have H := H1
      clear H1
      replace H := Option.bind_eq_some_iff.mp H
      obtain ⟨t315, A220, H⟩ := H
      replace H : (some (t315, 0)) = some (r1, r2) := H
      have A22 := Am A220
      clear A220
      simp only [Option.some.injEq, Prod.mk.injEq] at H
      obtain ⟨rfl, rfl⟩ := H
      have hnb23 := NB303_304.out
      have hnc23 := NB304_303.out
      have hcz24_0 : wc.cell? ⟨gb303, 0, none⟩ = some (.int .i64 a0_0) := (blk_cell BK303.out 0).trans rfl
      have hcz24_1 : wc.cell? ⟨gb303, 1, none⟩ = some (.int .i64 a0_1) := (blk_cell BK303.out 1).trans rfl
      have hcz24_2 : wc.cell? ⟨gb303, 2, none⟩ = some (.slice A0_2 l0_2.length c0_2) := (blk_cell BK303.out 2).trans rfl
      have hfz24_0 := blk_frozen BK303.out 0
      have hfz24_1 := blk_frozen BK303.out 1
      have hfz24_2 := blk_frozen BK303.out 2
      go_wp2_with (first | ((with_reducible refine gate_callee (f := 20) rfl ?_); refine goesL_ (some 20) rfl rfl Try.func20 (by kernel_rfl) rfl #[.agg #[.int .i64 a0_0, .int .i64 a0_1, .slice A0_2 l0_2.length c0_2]] rfl (by (try simp only [List.map_toArray, List.map_cons, List.map_nil]); first | done | rfl | (simp only [List.length_drop, List.length_take]; rfl)) ?_; (with_reducible refine (tenetref24_normal.calls kj2 a0_0 a0_1 _ _ l0_2 t307 true _ ?side1 ?side2 A18.out).mono ?_); (case side1 => repeat (first | exact (Kd.C_below HR0_2.out HB.out) | (with_reducible refine Kd.C_alloc ?_ _) | (with_reducible refine Kd.C_drewN ?_ _) | (with_reducible refine Kd.C_drew ?_))); (case side2 => exact HC0_2.out); rintro e w25 ⟨v308, rfl, ho0, hb⟩; refine ⟨_, rfl, ?_⟩; have n0_ := Am (Kd.V_lower (Kd.V_mono (ok' := fun k_ => k_ ≠ gb303 ∧ k_ ≠ gb304) ho0 (fun k_ hk_ => ⟨(Kd.freshB (g := gb303) (o := .cells #[.int .i64 a0_0, .int .i64 a0_1, .slice A0_2 l0_2.length c0_2] 24 (0, 0)) (by (with_reducible repeat (first | refine bN ?_ _ | refine bD ?_ | refine bA ?_ _)); exact BK303.out) k_ hk_), (Kd.freshB (g := gb304) (o := .cells #[.int .i64 a1_0, .int .i64 a1_1, .slice A1_2 l1_2.length c1_2] 24 (0, 0)) (by (with_reducible repeat (first | refine bN ?_ _ | refine bD ?_ | refine bA ?_ _)); exact BK304.out) k_ hk_)⟩)) (below_size (by repeat (first | (with_reducible first | exact HB.out | apply pA | apply pN | apply pD | refine pS ?_ GE303.out | refine pS ?_ GE304.out) | exact HB.out)))); have n1_ := Am (blk_below (g := gb303) (o := .cells #[.int .i64 a0_0, .int .i64 a0_1, .slice A0_2 l0_2.length c0_2] 24 (0, 0)) (by (with_reducible repeat (first | refine bN ?_ _ | refine bD ?_ | refine bA ?_ _)); exact BK303.out) hb); have n2_ := Am (blk_below (g := gb304) (o := .cells #[.int .i64 a1_0, .int .i64 a1_1, .slice A1_2 l1_2.length c1_2] 24 (0, 0)) (by (with_reducible repeat (first | refine bN ?_ _ | refine bD ?_ | refine bA ?_ _)); exact BK304.out) hb); have n3_ := Am (below_step (by repeat (first | (with_reducible first | exact HB.out | apply pA | apply pN | apply pD | refine pS ?_ GE303.out | refine pS ?_ GE304.out) | exact HB.out)) hb); clear BK303; clear BK304; clear HB; have HO309 := n0_; have BK303 := n1_; have BK304 := n2_; have HB := n3_; clear n0_ n1_ n2_ n3_; (try clear hb); (try clear hb2); (try clear hk); (try clear hi); (try clear ho0); have hcz26_0 : w25.cell? ⟨gb304, 0, none⟩ = some (.int .i64 a1_0) := (blk_cell BK304.out 0).trans rfl; have hcz26_1 : w25.cell? ⟨gb304, 1, none⟩ = some (.int .i64 a1_1) := (blk_cell BK304.out 1).trans rfl; have hcz26_2 : w25.cell? ⟨gb304, 2, none⟩ = some (.slice A1_2 l1_2.length c1_2) := (blk_cell BK304.out 2).trans rfl; have hfz26_0 := blk_frozen BK304.out 0; have hfz26_1 := blk_frozen BK304.out 1; have hfz26_2 := blk_frozen BK304.out 2) | ((with_reducible refine gate_callee (f := 20) rfl ?_); refine goesL_ (some 25) rfl rfl Try.func20 (by kernel_rfl) rfl #[.agg #[.int .i64 a1_0, .int .i64 a1_1, .slice A1_2 l1_2.length c1_2]] rfl (by (try simp only [List.map_toArray, List.map_cons, List.map_nil]); first | done | rfl | (simp only [List.length_drop, List.length_take]; rfl)) ?_; (with_reducible refine (tenetref24_normal.calls kj2 a1_0 a1_1 _ _ l1_2 t311 true _ ?side1 ?side2 A19.out).mono ?_); (case side1 => repeat (first | exact (Kd.C_below HR1_2.out HB.out) | (with_reducible refine Kd.C_alloc ?_ _) | (with_reducible refine Kd.C_drewN ?_ _) | (with_reducible refine Kd.C_drew ?_))); (case side2 => exact HC1_2.out); rintro e w27 ⟨v312, rfl, ho0, hb⟩; refine ⟨_, rfl, ?_⟩; have n0_ := Am (Kd.V_below (by (with_reducible repeat (first | apply Kd.V_alloc | apply Kd.V_drewN | apply Kd.V_drew)); exact HO309.out) hb); have n1_ := Am (Kd.V_lower (Kd.V_mono (ok' := fun k_ => k_ ≠ gb303 ∧ k_ ≠ gb304) ho0 (fun k_ hk_ => ⟨(Kd.freshB (g := gb303) (o := .cells #[.int .i64 a0_0, .int .i64 a0_1, .slice A0_2 l0_2.length c0_2] 24 (0, 0)) (by (with_reducible repeat (first | refine bN ?_ _ | refine bD ?_ | refine bA ?_ _)); exact BK303.out) k_ hk_), (Kd.freshB (g := gb304) (o := .cells #[.int .i64 a1_0, .int .i64 a1_1, .slice A1_2 l1_2.length c1_2] 24 (0, 0)) (by (with_reducible repeat (first | refine bN ?_ _ | refine bD ?_ | refine bA ?_ _)); exact BK304.out) k_ hk_)⟩)) (below_size (by repeat (first | (with_reducible first | exact HB.out | apply pA | apply pN | apply pD | refine pS ?_ GE303.out | refine pS ?_ GE304.out) | exact HB.out)))); have n2_ := Am (blk_below (g := gb303) (o := .cells #[.int .i64 a0_0, .int .i64 a0_1, .slice A0_2 l0_2.length c0_2] 24 (0, 0)) (by (with_reducible repeat (first | refine bN ?_ _ | refine bD ?_ | refine bA ?_ _)); exact BK303.out) hb); have n3_ := Am (blk_below (g := gb304) (o := .cells #[.int .i64 a1_0, .int .i64 a1_1, .slice A1_2 l1_2.length c1_2] 24 (0, 0)) (by (with_reducible repeat (first | refine bN ?_ _ | refine bD ?_ | refine bA ?_ _)); exact BK304.out) hb); have n4_ := Am (below_step (by repeat (first | (with_reducible first | exact HB.out | apply pA | apply pN | apply pD | refine pS ?_ GE303.out | refine pS ?_ GE304.out) | exact HB.out)) hb); clear HO309; clear BK303; clear BK304; clear HB; have HO309 := n0_; have HO313 := n1_; have BK303 := n2_; have BK304 := n3_; have HB := n4_; clear n0_ n1_ n2_ n3_ n4_; (try clear hb); (try clear hb2); (try clear hk); (try clear hi); (try clear ho0); obtain ⟨Ao28, co28, eo28⟩ := Kd.V_slice HO309.out; subst eo28; obtain ⟨Ao29, co29, eo29⟩ := Kd.V_slice HO313.out; subst eo29) | ((with_reducible refine gate_callee (f := 21) rfl ?_); refine goesL_ (some 36) rfl rfl Try.func21 (by kernel_rfl) rfl #[.slice Ao28 t307.length co28, .slice Ao29 t311.length co29] rfl (by (try simp only [List.map_toArray, List.map_cons, List.map_nil]); first | done | rfl | (simp only [List.length_drop, List.length_take]; rfl)) ?_; (with_reducible refine (tenetref24_EqMonos.calls kj2 _ _ t307 _ _ t311 t315 _ ?side1 ?side2 ?side3 ?side4 A22.out).mono ?_); (case side1 => repeat (first | exact (Kd.V_reads' HO309.out).2.2 | (with_reducible refine Kd.C_alloc ?_ _) | (with_reducible refine Kd.C_drewN ?_ _) | (with_reducible refine Kd.C_drew ?_))); (case side2 => exact (Kd.V_reads' HO309.out).2.1); (case side3 => repeat (first | exact (Kd.V_reads' HO313.out).2.2 | (with_reducible refine Kd.C_alloc ?_ _) | (with_reducible refine Kd.C_drewN ?_ _) | (with_reducible refine Kd.C_drew ?_))); (case side4 => exact (Kd.V_reads' HO313.out).2.1); rintro e w' ⟨rfl, ⟨nd, rfl⟩⟩; refine ⟨_, rfl, ?_⟩))
      go_ret2
      exact ⟨by first | rfl | (simp [errW_none, errW_some] <;> rfl) | (simp [*, errW_none, errW_some] <;> rfl), by repeat (first | (with_reducible first | exact HB.out | apply pA | apply pN | apply pD | refine pS ?_ GE303.out | refine pS ?_ GE304.out) | exact HB.out)⟩
     ·
      replace c21 := Bool.eq_false_iff.mpr c21
      subst c21
      have H1 : (some (false, 2)) = some (r1, r2) := by rw [if_neg (show ¬ (false = true) by decide)] at H; exact H
      clear H
      have H := H1
      clear H1
      simp only [Option.some.injEq, Prod.mk.injEq] at H
      obtain ⟨rfl, rfl⟩ := H
      have hnb30 := NB303_304.out
      have hnc30 := NB304_303.out
      have hcz31_0 : wc.cell? ⟨gb303, 0, none⟩ = some (.int .i64 a0_0) := (blk_cell BK303.out 0).trans rfl
      have hcz31_1 : wc.cell? ⟨gb303, 1, none⟩ = some (.int .i64 a0_1) := (blk_cell BK303.out 1).trans rfl
      have hcz31_2 : wc.cell? ⟨gb303, 2, none⟩ = some (.slice A0_2 l0_2.length c0_2) := (blk_cell BK303.out 2).trans rfl
      have hfz31_0 := blk_frozen BK303.out 0
      have hfz31_1 := blk_frozen BK303.out 1
      have hfz31_2 := blk_frozen BK303.out 2
      go_wp2_with (first | ((with_reducible refine gate_callee (f := 20) rfl ?_); refine goesL_ (some 20) rfl rfl Try.func20 (by kernel_rfl) rfl #[.agg #[.int .i64 a0_0, .int .i64 a0_1, .slice A0_2 l0_2.length c0_2]] rfl (by (try simp only [List.map_toArray, List.map_cons, List.map_nil]); first | done | rfl | (simp only [List.length_drop, List.length_take]; rfl)) ?_; (with_reducible refine (tenetref24_normal.calls kj2 a0_0 a0_1 _ _ l0_2 t307 true _ ?side1 ?side2 A18.out).mono ?_); (case side1 => repeat (first | exact (Kd.C_below HR0_2.out HB.out) | (with_reducible refine Kd.C_alloc ?_ _) | (with_reducible refine Kd.C_drewN ?_ _) | (with_reducible refine Kd.C_drew ?_))); (case side2 => exact HC0_2.out); rintro e w32 ⟨v308, rfl, ho0, hb⟩; refine ⟨_, rfl, ?_⟩; have n0_ := Am (Kd.V_lower (Kd.V_mono (ok' := fun k_ => k_ ≠ gb303 ∧ k_ ≠ gb304) ho0 (fun k_ hk_ => ⟨(Kd.freshB (g := gb303) (o := .cells #[.int .i64 a0_0, .int .i64 a0_1, .slice A0_2 l0_2.length c0_2] 24 (0, 0)) (by (with_reducible repeat (first | refine bN ?_ _ | refine bD ?_ | refine bA ?_ _)); exact BK303.out) k_ hk_), (Kd.freshB (g := gb304) (o := .cells #[.int .i64 a1_0, .int .i64 a1_1, .slice A1_2 l1_2.length c1_2] 24 (0, 0)) (by (with_reducible repeat (first | refine bN ?_ _ | refine bD ?_ | refine bA ?_ _)); exact BK304.out) k_ hk_)⟩)) (below_size (by repeat (first | (with_reducible first | exact HB.out | apply pA | apply pN | apply pD | refine pS ?_ GE303.out | refine pS ?_ GE304.out) | exact HB.out)))); have n1_ := Am (blk_below (g := gb303) (o := .cells #[.int .i64 a0_0, .int .i64 a0_1, .slice A0_2 l0_2.length c0_2] 24 (0, 0)) (by (with_reducible repeat (first | refine bN ?_ _ | refine bD ?_ | refine bA ?_ _)); exact BK303.out) hb); have n2_ := Am (blk_below (g := gb304) (o := .cells #[.int .i64 a1_0, .int .i64 a1_1, .slice A1_2 l1_2.length c1_2] 24 (0, 0)) (by (with_reducible repeat (first | refine bN ?_ _ | refine bD ?_ | refine bA ?_ _)); exact BK304.out) hb); have n3_ := Am (below_step (by repeat (first | (with_reducible first | exact HB.out | apply pA | apply pN | apply pD | refine pS ?_ GE303.out | refine pS ?_ GE304.out) | exact HB.out)) hb); clear BK303; clear BK304; clear HB; have HO309 := n0_; have BK303 := n1_; have BK304 := n2_; have HB := n3_; clear n0_ n1_ n2_ n3_; (try clear hb); (try clear hb2); (try clear hk); (try clear hi); (try clear ho0); have hcz33_0 : w32.cell? ⟨gb304, 0, none⟩ = some (.int .i64 a1_0) := (blk_cell BK304.out 0).trans rfl; have hcz33_1 : w32.cell? ⟨gb304, 1, none⟩ = some (.int .i64 a1_1) := (blk_cell BK304.out 1).trans rfl; have hcz33_2 : w32.cell? ⟨gb304, 2, none⟩ = some (.slice A1_2 l1_2.length c1_2) := (blk_cell BK304.out 2).trans rfl; have hfz33_0 := blk_frozen BK304.out 0; have hfz33_1 := blk_frozen BK304.out 1; have hfz33_2 := blk_frozen BK304.out 2) | ((with_reducible refine gate_callee (f := 20) rfl ?_); refine goesL_ (some 25) rfl rfl Try.func20 (by kernel_rfl) rfl #[.agg #[.int .i64 a1_0, .int .i64 a1_1, .slice A1_2 l1_2.length c1_2]] rfl (by (try simp only [List.map_toArray, List.map_cons, List.map_nil]); first | done | rfl | (simp only [List.length_drop, List.length_take]; rfl)) ?_; (with_reducible refine (tenetref24_normal.calls kj2 a1_0 a1_1 _ _ l1_2 t311 false _ ?side1 ?side2 A19.out).mono ?_); (case side1 => repeat (first | exact (Kd.C_below HR1_2.out HB.out) | (with_reducible refine Kd.C_alloc ?_ _) | (with_reducible refine Kd.C_drewN ?_ _) | (with_reducible refine Kd.C_drew ?_))); (case side2 => exact HC1_2.out); rintro e w34 ⟨v312, rfl, ho0, hb⟩; refine ⟨_, rfl, ?_⟩; have n0_ := Am (Kd.V_below (by (with_reducible repeat (first | apply Kd.V_alloc | apply Kd.V_drewN | apply Kd.V_drew)); exact HO309.out) hb); have n1_ := Am (Kd.V_lower (Kd.V_mono (ok' := fun k_ => k_ ≠ gb303 ∧ k_ ≠ gb304) ho0 (fun k_ hk_ => ⟨(Kd.freshB (g := gb303) (o := .cells #[.int .i64 a0_0, .int .i64 a0_1, .slice A0_2 l0_2.length c0_2] 24 (0, 0)) (by (with_reducible repeat (first | refine bN ?_ _ | refine bD ?_ | refine bA ?_ _)); exact BK303.out) k_ hk_), (Kd.freshB (g := gb304) (o := .cells #[.int .i64 a1_0, .int .i64 a1_1, .slice A1_2 l1_2.length c1_2] 24 (0, 0)) (by (with_reducible repeat (first | refine bN ?_ _ | refine bD ?_ | refine bA ?_ _)); exact BK304.out) k_ hk_)⟩)) (below_size (by repeat (first | (with_reducible first | exact HB.out | apply pA | apply pN | apply pD | refine pS ?_ GE303.out | refine pS ?_ GE304.out) | exact HB.out)))); have n2_ := Am (blk_below (g := gb303) (o := .cells #[.int .i64 a0_0, .int .i64 a0_1, .slice A0_2 l0_2.length c0_2] 24 (0, 0)) (by (with_reducible repeat (first | refine bN ?_ _ | refine bD ?_ | refine bA ?_ _)); exact BK303.out) hb); have n3_ := Am (blk_below (g := gb304) (o := .cells #[.int .i64 a1_0, .int .i64 a1_1, .slice A1_2 l1_2.length c1_2] 24 (0, 0)) (by (with_reducible repeat (first | refine bN ?_ _ | refine bD ?_ | refine bA ?_ _)); exact BK304.out) hb); have n4_ := Am (below_step (by repeat (first | (with_reducible first | exact HB.out | apply pA | apply pN | apply pD | refine pS ?_ GE303.out | refine pS ?_ GE304.out) | exact HB.out)) hb); clear HO309; clear BK303; clear BK304; clear HB; have HO309 := n0_; have HO313 := n1_; have BK303 := n2_; have BK304 := n3_; have HB := n4_; clear n0_ n1_ n2_ n3_ n4_; (try clear hb); (try clear hb2); (try clear hk); (try clear hi); (try clear ho0)))
      go_ret2
      exact ⟨by first | rfl | (simp [errW_none, errW_some] <;> rfl) | (simp [*, errW_none, errW_some] <;> rfl), by repeat (first | (with_reducible first | exact HB.out | apply pA | apply pN | apply pD | refine pS ?_ GE303.out | refine pS ?_ GE304.out) | exact HB.out)⟩
    ·
     replace c20 := Bool.eq_false_iff.mpr c20
     subst c20
     have H1 : (some (false, 2)) = some (r1, r2) := by rw [if_neg (show ¬ (false = true) by decide)] at H; exact H
     clear H
     have H := H1
     clear H1
     simp only [Option.some.injEq, Prod.mk.injEq] at H
     obtain ⟨rfl, rfl⟩ := H
     have hnb35 := NB303_304.out
     have hnc35 := NB304_303.out
     have hcz36_0 : wc.cell? ⟨gb303, 0, none⟩ = some (.int .i64 a0_0) := (blk_cell BK303.out 0).trans rfl
     have hcz36_1 : wc.cell? ⟨gb303, 1, none⟩ = some (.int .i64 a0_1) := (blk_cell BK303.out 1).trans rfl
     have hcz36_2 : wc.cell? ⟨gb303, 2, none⟩ = some (.slice A0_2 l0_2.length c0_2) := (blk_cell BK303.out 2).trans rfl
     have hfz36_0 := blk_frozen BK303.out 0
     have hfz36_1 := blk_frozen BK303.out 1
     have hfz36_2 := blk_frozen BK303.out 2
     go_wp2_with (first | ((with_reducible refine gate_callee (f := 20) rfl ?_); refine goesL_ (some 20) rfl rfl Try.func20 (by kernel_rfl) rfl #[.agg #[.int .i64 a0_0, .int .i64 a0_1, .slice A0_2 l0_2.length c0_2]] rfl (by (try simp only [List.map_toArray, List.map_cons, List.map_nil]); first | done | rfl | (simp only [List.length_drop, List.length_take]; rfl)) ?_; (with_reducible refine (tenetref24_normal.calls kj2 a0_0 a0_1 _ _ l0_2 t307 false _ ?side1 ?side2 A18.out).mono ?_); (case side1 => repeat (first | exact (Kd.C_below HR0_2.out HB.out) | (with_reducible refine Kd.C_alloc ?_ _) | (with_reducible refine Kd.C_drewN ?_ _) | (with_reducible refine Kd.C_drew ?_))); (case side2 => exact HC0_2.out); rintro e w37 ⟨v308, rfl, ho0, hb⟩; refine ⟨_, rfl, ?_⟩; have n0_ := Am (Kd.V_lower (Kd.V_mono (ok' := fun k_ => k_ ≠ gb303 ∧ k_ ≠ gb304) ho0 (fun k_ hk_ => ⟨(Kd.freshB (g := gb303) (o := .cells #[.int .i64 a0_0, .int .i64 a0_1, .slice A0_2 l0_2.length c0_2] 24 (0, 0)) (by (with_reducible repeat (first | refine bN ?_ _ | refine bD ?_ | refine bA ?_ _)); exact BK303.out) k_ hk_), (Kd.freshB (g := gb304) (o := .cells #[.int .i64 a1_0, .int .i64 a1_1, .slice A1_2 l1_2.length c1_2] 24 (0, 0)) (by (with_reducible repeat (first | refine bN ?_ _ | refine bD ?_ | refine bA ?_ _)); exact BK304.out) k_ hk_)⟩)) (below_size (by repeat (first | (with_reducible first | exact HB.out | apply pA | apply pN | apply pD | refine pS ?_ GE303.out | refine pS ?_ GE304.out) | exact HB.out)))); have n1_ := Am (blk_below (g := gb303) (o := .cells #[.int .i64 a0_0, .int .i64 a0_1, .slice A0_2 l0_2.length c0_2] 24 (0, 0)) (by (with_reducible repeat (first | refine bN ?_ _ | refine bD ?_ | refine bA ?_ _)); exact BK303.out) hb); have n2_ := Am (blk_below (g := gb304) (o := .cells #[.int .i64 a1_0, .int .i64 a1_1, .slice A1_2 l1_2.length c1_2] 24 (0, 0)) (by (with_reducible repeat (first | refine bN ?_ _ | refine bD ?_ | refine bA ?_ _)); exact BK304.out) hb); have n3_ := Am (below_step (by repeat (first | (with_reducible first | exact HB.out | apply pA | apply pN | apply pD | refine pS ?_ GE303.out | refine pS ?_ GE304.out) | exact HB.out)) hb); clear BK303; clear BK304; clear HB; have HO309 := n0_; have BK303 := n1_; have BK304 := n2_; have HB := n3_; clear n0_ n1_ n2_ n3_; (try clear hb); (try clear hb2); (try clear hk); (try clear hi); (try clear ho0); have hcz38_0 : w37.cell? ⟨gb304, 0, none⟩ = some (.int .i64 a1_0) := (blk_cell BK304.out 0).trans rfl; have hcz38_1 : w37.cell? ⟨gb304, 1, none⟩ = some (.int .i64 a1_1) := (blk_cell BK304.out 1).trans rfl; have hcz38_2 : w37.cell? ⟨gb304, 2, none⟩ = some (.slice A1_2 l1_2.length c1_2) := (blk_cell BK304.out 2).trans rfl; have hfz38_0 := blk_frozen BK304.out 0; have hfz38_1 := blk_frozen BK304.out 1; have hfz38_2 := blk_frozen BK304.out 2) | ((with_reducible refine gate_callee (f := 20) rfl ?_); refine goesL_ (some 25) rfl rfl Try.func20 (by kernel_rfl) rfl #[.agg #[.int .i64 a1_0, .int .i64 a1_1, .slice A1_2 l1_2.length c1_2]] rfl (by (try simp only [List.map_toArray, List.map_cons, List.map_nil]); first | done | rfl | (simp only [List.length_drop, List.length_take]; rfl)) ?_; (with_reducible refine (tenetref24_normal.calls kj2 a1_0 a1_1 _ _ l1_2 t311 t314 _ ?side1 ?side2 A19.out).mono ?_); (case side1 => repeat (first | exact (Kd.C_below HR1_2.out HB.out) | (with_reducible refine Kd.C_alloc ?_ _) | (with_reducible refine Kd.C_drewN ?_ _) | (with_reducible refine Kd.C_drew ?_))); (case side2 => exact HC1_2.out); rintro e w39 ⟨v312, rfl, ho0, hb⟩; refine ⟨_, rfl, ?_⟩; have n0_ := Am (Kd.V_below (by (with_reducible repeat (first | apply Kd.V_alloc | apply Kd.V_drewN | apply Kd.V_drew)); exact HO309.out) hb); have n1_ := Am (Kd.V_lower (Kd.V_mono (ok' := fun k_ => k_ ≠ gb303 ∧ k_ ≠ gb304) ho0 (fun k_ hk_ => ⟨(Kd.freshB (g := gb303) (o := .cells #[.int .i64 a0_0, .int .i64 a0_1, .slice A0_2 l0_2.length c0_2] 24 (0, 0)) (by (with_reducible repeat (first | refine bN ?_ _ | refine bD ?_ | refine bA ?_ _)); exact BK303.out) k_ hk_), (Kd.freshB (g := gb304) (o := .cells #[.int .i64 a1_0, .int .i64 a1_1, .slice A1_2 l1_2.length c1_2] 24 (0, 0)) (by (with_reducible repeat (first | refine bN ?_ _ | refine bD ?_ | refine bA ?_ _)); exact BK304.out) k_ hk_)⟩)) (below_size (by repeat (first | (with_reducible first | exact HB.out | apply pA | apply pN | apply pD | refine pS ?_ GE303.out | refine pS ?_ GE304.out) | exact HB.out)))); have n2_ := Am (blk_below (g := gb303) (o := .cells #[.int .i64 a0_0, .int .i64 a0_1, .slice A0_2 l0_2.length c0_2] 24 (0, 0)) (by (with_reducible repeat (first | refine bN ?_ _ | refine bD ?_ | refine bA ?_ _)); exact BK303.out) hb); have n3_ := Am (blk_below (g := gb304) (o := .cells #[.int .i64 a1_0, .int .i64 a1_1, .slice A1_2 l1_2.length c1_2] 24 (0, 0)) (by (with_reducible repeat (first | refine bN ?_ _ | refine bD ?_ | refine bA ?_ _)); exact BK304.out) hb); have n4_ := Am (below_step (by repeat (first | (with_reducible first | exact HB.out | apply pA | apply pN | apply pD | refine pS ?_ GE303.out | refine pS ?_ GE304.out) | exact HB.out)) hb); clear HO309; clear BK303; clear BK304; clear HB; have HO309 := n0_; have HO313 := n1_; have BK303 := n2_; have BK304 := n3_; have HB := n4_; clear n0_ n1_ n2_ n3_ n4_; (try clear hb); (try clear hb2); (try clear hk); (try clear hi); (try clear ho0)))
     go_ret2
     exact ⟨by first | rfl | (simp [errW_none, errW_some] <;> rfl) | (simp [*, errW_none, errW_some] <;> rfl), by repeat (first | (with_reducible first | exact HB.out | apply pA | apply pN | apply pD | refine pS ?_ GE303.out | refine pS ?_ GE304.out) | exact HB.out)⟩

end Go.Proofs.Ytjnplfbggklkfaa.Rg

-- Written by a program of this claim's session: print.py's form, some functions told by hand.
namespace Go.Proofs.Ytjnplfbggklkfaa.Rg
open Go.RowKit Go.Proofs.YtjnplfbggklkfaaW.PrintWords Go.Proofs.YtjnplfbggklkfaaW.PrintLast Go.Proofs.YtjnplfbggklkfaaW.PrintMore
attribute [local go_sem] max2_int min2_int max_two min_two max_three min_three max_four min_four   -- for this text's walks alone
set_option linter.unusedVariables false
set_option linter.unusedSimpArgs false

/-! ### tenetlaw24_RingEquals: function 3 -/
def tenetlaw24_RingEquals.j0 : Nat → Bool → Int → Int → List (S24) → Int → Int → List (S24) → Option (Bool)
 | 0, _, _, _, _, _, _, _ => none
 | k + 1, x14, x317000, x317001, x317002, x318000, x318001, x318002 => if x14 = true then ((tenetlaw24_awake.f).bind fun t320 => (some t320)) else ((ring_Equal.f k x317000 x317001 x317002 x318000 x318001 x318002).bind fun bt321 => ((tenetref24_Equal.f k x317000 x317001 x317002 x318000 x318001 x318002).bind fun bt323 => (if (bt321.1 == bt323.1) = true then (if bt321.2 = bt323.2 then ((tenetlaw24_awake.f).bind fun t325 => (some t325)) else (some false)) else (some false))))
def tenetlaw24_RingEquals.f (k : Nat) (a0_0 : Int) (a0_1 : Int) (l0_2 : List (S24)) (a1_0 : Int) (a1_1 : Int) (l1_2 : List (S24)) : Option (Bool) := (tenetlaw24_big.f k a0_0 a0_1 l0_2).bind fun t318 => (if t318 = true then (tenetlaw24_RingEquals.j0 k true a0_0 a0_1 l0_2 a1_0 a1_1 l1_2) else ((tenetlaw24_big.f k a1_0 a1_1 l1_2).bind fun t319 => (tenetlaw24_RingEquals.j0 k t319 a0_0 a0_1 l0_2 a1_0 a1_1 l1_2)))
theorem tenetlaw24_RingEquals.mono_l : ∀ k, (∀ y0 y1 y2 y3 y4 y5 y6, LeO (tenetlaw24_RingEquals.j0 k y0 y1 y2 y3 y4 y5 y6) (tenetlaw24_RingEquals.j0 (k + 1) y0 y1 y2 y3 y4 y5 y6))
 | 0 => fun _ _ _ _ _ _ _ r h => by simp [tenetlaw24_RingEquals.j0] at h
 | k + 1 => by
  have ih0 := tenetlaw24_RingEquals.mono_l k
  ·
   intro y0 y1 y2 y3 y4 y5 y6
   unfold tenetlaw24_RingEquals.j0
   repeat' first
   | (with_reducible exact ih0 _ _ _ _ _ _ _)
   | (with_reducible exact ring_Equal.mono _ _ _ _ _ _ _)
   | (with_reducible exact tenetlaw24_big.mono _ _ _ _)
   | (with_reducible exact tenetref24_Equal.mono _ _ _ _ _ _ _)
   | (with_reducible exact LeO.refl _)
   | (with_reducible exact LeO.none _)
   | (with_reducible refine LeO.ite ?_ ?_)
   | (with_reducible refine LeO.bind ?_ (fun _ => ?_))
   | exact ih0 _ _ _ _ _ _ _
   | exact ring_Equal.mono _ _ _ _ _ _ _
   | exact tenetlaw24_big.mono _ _ _ _
   | exact tenetref24_Equal.mono _ _ _ _ _ _ _
   | exact LeO.none _
   | refine LeO.ite ?_ ?_
   | refine LeO.bind ?_ (fun _ => ?_)
theorem tenetlaw24_RingEquals.mono : ∀ a0 a1 a2 a3 a4 a5 k, LeO (tenetlaw24_RingEquals.f k a0 a1 a2 a3 a4 a5) (tenetlaw24_RingEquals.f (k + 1) a0 a1 a2 a3 a4 a5) := by
 intro a0 a1 a2 a3 a4 a5 k
 have ih0 := tenetlaw24_RingEquals.mono_l k
 unfold tenetlaw24_RingEquals.f
 repeat' first
   | (with_reducible exact ih0 _ _ _ _ _ _ _)
   | (with_reducible exact ring_Equal.mono _ _ _ _ _ _ _)
   | (with_reducible exact tenetlaw24_big.mono _ _ _ _)
   | (with_reducible exact tenetref24_Equal.mono _ _ _ _ _ _ _)
   | (with_reducible exact LeO.refl _)
   | (with_reducible exact LeO.none _)
   | (with_reducible refine LeO.ite ?_ ?_)
   | (with_reducible refine LeO.bind ?_ (fun _ => ?_))
   | exact ih0 _ _ _ _ _ _ _
   | exact ring_Equal.mono _ _ _ _ _ _ _
   | exact tenetlaw24_big.mono _ _ _ _
   | exact tenetref24_Equal.mono _ _ _ _ _ _ _
   | exact LeO.none _
   | refine LeO.ite ?_ ?_
   | refine LeO.bind ?_ (fun _ => ?_)
set_option maxHeartbeats 8000000 in
set_option maxRecDepth 100000 in
theorem tenetlaw24_RingEquals.calls (k : Nat) (a0_0 : Int) (a0_1 : Int) (A0_2 : Option Addr) (c0_2 : Nat) (l0_2 : List (S24)) (a1_0 : Int) (a1_1 : Int) (A1_2 : Option Addr) (c1_2 : Nat) (l1_2 : List (S24)) (r : Bool) (w : World) (hr0_2 : Kd.C k24 w A0_2 l0_2.length l0_2) (hc0_2 : l0_2.length ≤ c0_2) (hr1_2 : Kd.C k24 w A1_2 l1_2.length l1_2) (hc1_2 : l1_2.length ≤ c1_2) (h : tenetlaw24_RingEquals.f k a0_0 a0_1 l0_2 a1_0 a1_1 l1_2 = some r) :
  Calls Try.prog 3 #[.agg #[.int .i64 a0_0, .int .i64 a0_1, .slice A0_2 l0_2.length c0_2], .agg #[.int .i64 a1_0, .int .i64 a1_1, .slice A1_2 l1_2.length c1_2]] w fun e w' => e = .returned (.bool r) ∧ Below w.heap.size w w' := by
 have hu24 := Try.underlying24
 have HR0_2 := Am hr0_2
 have HC0_2 := Am hc0_2
 clear hr0_2 hc0_2
 have HR1_2 := Am hr1_2
 have HC1_2 := Am hc1_2
 clear hr1_2 hc1_2
 have HB := Am (Below.refl w.heap.size w)
 have H : ((tenetlaw24_big.f k a0_0 a0_1 l0_2).bind fun t318 => (if t318 = true then (tenetlaw24_RingEquals.j0 k true a0_0 a0_1 l0_2 a1_0 a1_1 l1_2) else ((tenetlaw24_big.f k a1_0 a1_1 l1_2).bind fun t319 => (tenetlaw24_RingEquals.j0 k t319 a0_0 a0_1 l0_2 a1_0 a1_1 l1_2)))) = some r := h
 clear h
 have HC3 := Am H
 clear H
 go_enter Try.func3, Try.ntmps3
 go_upto_region 1 with (first | ((with_reducible refine gate_dst (N := 2) rfl ?_); refine box_event ?hg (N := 2) ?hd (cs := #[.int .i64 a0_0, .int .i64 a0_1, .slice A0_2 l0_2.length c0_2]) (t := 24) ?hr ?_; (case hd => rfl); (case hg => rfl); (case hr => first | (go_simp; done) | (go_simp; rfl)); intro gb316 hg w4 hbox hb; have n0_ := Am (below_step (by repeat (first | (with_reducible first | exact HB.out | apply pA | apply pN | apply pD) | exact HB.out)) hb); have n1_ := Am (hbox); have n2_ := Am ((by rw [hg]; exact (below_size (by repeat (first | (with_reducible first | exact HB.out | apply pA | apply pN | apply pD) | exact HB.out))) : w.heap.size ≤ gb316)); have n3_ := Am ((by rw [hg]; exact (below_size (by repeat (first | (with_reducible first | exact HB.out | apply pA | apply pN | apply pD) | exact HB.out))) : w.heap.size ≤ gb316)); clear HB; have HB := n0_; have BK316 := n1_; have GW316 := n2_; have GE316 := n3_; clear n0_ n1_ n2_ n3_; clear hb hbox hg) | ((with_reducible refine gate_dst (N := 3) rfl ?_); refine box_event ?hg (N := 3) ?hd (cs := #[.int .i64 a1_0, .int .i64 a1_1, .slice A1_2 l1_2.length c1_2]) (t := 24) ?hr ?_; (case hd => rfl); (case hg => rfl); (case hr => first | (go_simp; done) | (go_simp; rfl)); intro gb317 hg w5 hbox hb; have n0_ := Am (blk_below (g := gb316) (o := .cells #[.int .i64 a0_0, .int .i64 a0_1, .slice A0_2 l0_2.length c0_2] 24 (0, 0)) (by (with_reducible repeat (first | refine bN ?_ _ | refine bD ?_ | refine bA ?_ _)); exact BK316.out) hb); have n1_ := Am (below_step (by repeat (first | (with_reducible first | exact HB.out | apply pA | apply pN | apply pD | refine pS ?_ GE316.out) | exact HB.out)) hb); have n2_ := Am (hbox); have n3_ := Am ((by rw [hg]; exact (below_size (by repeat (first | (with_reducible first | exact HB.out | apply pA | apply pN | apply pD | refine pS ?_ GE316.out) | exact HB.out))) : w.heap.size ≤ gb317)); have n4_ := Am ((by rw [hg]; exact (below_size (by repeat (first | (with_reducible first | exact HB.out | apply pA | apply pN | apply pD | refine pS ?_ GE316.out) | exact HB.out))) : w.heap.size ≤ gb317)); have n5_ := Am ((by rw [hg]; exact Nat.ne_of_lt (blk_lt (g := gb316) (o := .cells #[.int .i64 a0_0, .int .i64 a0_1, .slice A0_2 l0_2.length c0_2] 24 (0, 0)) (by (with_reducible repeat (first | refine bN ?_ _ | refine bD ?_ | refine bA ?_ _)); exact BK316.out)) : gb316 ≠ gb317)); have n6_ := Am ((by rw [hg]; exact Nat.ne_of_gt (blk_lt (g := gb316) (o := .cells #[.int .i64 a0_0, .int .i64 a0_1, .slice A0_2 l0_2.length c0_2] 24 (0, 0)) (by (with_reducible repeat (first | refine bN ?_ _ | refine bD ?_ | refine bA ?_ _)); exact BK316.out)) : gb317 ≠ gb316)); clear BK316; clear HB; have BK316 := n0_; have HB := n1_; have BK317 := n2_; have GW317 := n3_; have GE317 := n4_; have NB316_317 := n5_; have NB317_316 := n6_; clear n0_ n1_ n2_ n3_ n4_ n5_ n6_; clear hb hbox hg))
 (try simp only [Act.put, List.setIfInBounds_toArray, List.set_cons_zero, List.set_cons_succ])
 go_cut [14] (fun v14 wc => ∃ (kq : Nat) (x14_2 : Bool), v14 = .bool x14_2 ∧ Aside0 (tenetlaw24_RingEquals.j0 kq x14_2 a0_0 a0_1 l0_2 a1_0 a1_1 l1_2 = some r) ∧ Aside0 (kq ≤ k) ∧ Aside0 (wc.heap[gb316]? = some (.cells #[.int .i64 a0_0, .int .i64 a0_1, (.slice A0_2 l0_2.length c0_2)] 24 (0, 0))) ∧ Aside0 (wc.heap[gb317]? = some (.cells #[.int .i64 a1_0, .int .i64 a1_1, (.slice A1_2 l1_2.length c1_2)] 24 (0, 0))) ∧ Aside0 (Below w.heap.size w wc))
 case first =>
  have H := HC3.out
  clear HC3
  replace H := Option.bind_eq_some_iff.mp H
  obtain ⟨t318, A60, H⟩ := H
  replace H : (if t318 = true then (tenetlaw24_RingEquals.j0 k true a0_0 a0_1 l0_2 a1_0 a1_1 l1_2) else ((tenetlaw24_big.f k a1_0 a1_1 l1_2).bind fun t319 => (tenetlaw24_RingEquals.j0 k t319 a0_0 a0_1 l0_2 a1_0 a1_1 l1_2))) = some r := H
  have A6 := Am A60
  clear A60
  by_cases c7 : t318 = true
  ·
   subst c7
   have H1 : (tenetlaw24_RingEquals.j0 k true a0_0 a0_1 l0_2 a1_0 a1_1 l1_2) = some r := by rw [if_pos rfl] at H; exact H
   clear H
   have H := H1
   clear H1
   have H' := Am H
   clear H
   have hnb8 := NB316_317.out
   have hnc8 := NB317_316.out
   have hcz9_0 : w5.cell? ⟨gb316, 0, none⟩ = some (.int .i64 a0_0) := (blk_cell BK316.out 0).trans rfl
   have hcz9_1 : w5.cell? ⟨gb316, 1, none⟩ = some (.int .i64 a0_1) := (blk_cell BK316.out 1).trans rfl
   have hcz9_2 : w5.cell? ⟨gb316, 2, none⟩ = some (.slice A0_2 l0_2.length c0_2) := (blk_cell BK316.out 2).trans rfl
   have hfz9_0 := blk_frozen BK316.out 0
   have hfz9_1 := blk_frozen BK316.out 1
   have hfz9_2 := blk_frozen BK316.out 2
   go_wp2_with (first | ((with_reducible refine gate_callee (f := 6) rfl ?_); refine goesL_ (some 10) rfl rfl Try.func6 (by kernel_rfl) rfl #[.agg #[.int .i64 a0_0, .int .i64 a0_1, .slice A0_2 l0_2.length c0_2]] rfl (by (try simp only [List.map_toArray, List.map_cons, List.map_nil]); first | done | rfl | (simp only [List.length_drop, List.length_take]; rfl)) ?_; (with_reducible refine (tenetlaw24_big.calls k a0_0 a0_1 _ _ l0_2 true _ ?side1 ?side2 A6.out).mono ?_); (case side1 => repeat (first | exact (Kd.C_below HR0_2.out HB.out) | (with_reducible refine Kd.C_alloc ?_ _) | (with_reducible refine Kd.C_drewN ?_ _) | (with_reducible refine Kd.C_drew ?_))); (case side2 => exact HC0_2.out); rintro e w10 ⟨rfl, hb⟩; refine ⟨_, rfl, ?_⟩; have n0_ := Am (blk_below (g := gb316) (o := .cells #[.int .i64 a0_0, .int .i64 a0_1, .slice A0_2 l0_2.length c0_2] 24 (0, 0)) (by (with_reducible repeat (first | refine bN ?_ _ | refine bD ?_ | refine bA ?_ _)); exact BK316.out) hb); have n1_ := Am (blk_below (g := gb317) (o := .cells #[.int .i64 a1_0, .int .i64 a1_1, .slice A1_2 l1_2.length c1_2] 24 (0, 0)) (by (with_reducible repeat (first | refine bN ?_ _ | refine bD ?_ | refine bA ?_ _)); exact BK317.out) hb); have n2_ := Am (below_step (by repeat (first | (with_reducible first | exact HB.out | apply pA | apply pN | apply pD | refine pS ?_ GE316.out | refine pS ?_ GE317.out) | exact HB.out)) hb); clear BK316; clear BK317; clear HB; have BK316 := n0_; have BK317 := n1_; have HB := n2_; clear n0_ n1_ n2_; (try clear hb); (try clear hb2); (try clear hk); (try clear hi)))
   go_meet
   case rel => exact ⟨_, (true), (by first | rfl | (simp; done) | (simp [*]; done)), H', ⟨by first | omega | exact Nat.le_refl _⟩, ⟨by (with_reducible repeat (first | refine bN ?_ _ | refine bD ?_ | refine bA ?_ _)); exact BK316.out⟩, ⟨by (with_reducible repeat (first | refine bN ?_ _ | refine bD ?_ | refine bA ?_ _)); exact BK317.out⟩, ⟨by repeat (first | (with_reducible first | exact HB.out | apply pA | apply pN | apply pD | refine pS ?_ GE316.out | refine pS ?_ GE317.out) | exact HB.out)⟩⟩
  ·
   replace c7 := Bool.eq_false_iff.mpr c7
   subst c7
   have H1 : ((tenetlaw24_big.f k a1_0 a1_1 l1_2).bind fun t319 => (tenetlaw24_RingEquals.j0 k t319 a0_0 a0_1 l0_2 a1_0 a1_1 l1_2)) = some r := by rw [if_neg (show ¬ (false = true) by decide)] at H; exact H
   clear H
   have H := H1
   clear H1
   replace H := Option.bind_eq_some_iff.mp H
   obtain ⟨t319, A110, H⟩ := H
   replace H : (tenetlaw24_RingEquals.j0 k t319 a0_0 a0_1 l0_2 a1_0 a1_1 l1_2) = some r := H
   have A11 := Am A110
   clear A110
   have H' := Am H
   clear H
   have hnb12 := NB316_317.out
   have hnc12 := NB317_316.out
   have hcz13_0 : w5.cell? ⟨gb316, 0, none⟩ = some (.int .i64 a0_0) := (blk_cell BK316.out 0).trans rfl
   have hcz13_1 : w5.cell? ⟨gb316, 1, none⟩ = some (.int .i64 a0_1) := (blk_cell BK316.out 1).trans rfl
   have hcz13_2 : w5.cell? ⟨gb316, 2, none⟩ = some (.slice A0_2 l0_2.length c0_2) := (blk_cell BK316.out 2).trans rfl
   have hfz13_0 := blk_frozen BK316.out 0
   have hfz13_1 := blk_frozen BK316.out 1
   have hfz13_2 := blk_frozen BK316.out 2
   go_wp2_with (first | ((with_reducible refine gate_callee (f := 6) rfl ?_); refine goesL_ (some 10) rfl rfl Try.func6 (by kernel_rfl) rfl #[.agg #[.int .i64 a0_0, .int .i64 a0_1, .slice A0_2 l0_2.length c0_2]] rfl (by (try simp only [List.map_toArray, List.map_cons, List.map_nil]); first | done | rfl | (simp only [List.length_drop, List.length_take]; rfl)) ?_; (with_reducible refine (tenetlaw24_big.calls k a0_0 a0_1 _ _ l0_2 false _ ?side1 ?side2 A6.out).mono ?_); (case side1 => repeat (first | exact (Kd.C_below HR0_2.out HB.out) | (with_reducible refine Kd.C_alloc ?_ _) | (with_reducible refine Kd.C_drewN ?_ _) | (with_reducible refine Kd.C_drew ?_))); (case side2 => exact HC0_2.out); rintro e w14 ⟨rfl, hb⟩; refine ⟨_, rfl, ?_⟩; have n0_ := Am (blk_below (g := gb316) (o := .cells #[.int .i64 a0_0, .int .i64 a0_1, .slice A0_2 l0_2.length c0_2] 24 (0, 0)) (by (with_reducible repeat (first | refine bN ?_ _ | refine bD ?_ | refine bA ?_ _)); exact BK316.out) hb); have n1_ := Am (blk_below (g := gb317) (o := .cells #[.int .i64 a1_0, .int .i64 a1_1, .slice A1_2 l1_2.length c1_2] 24 (0, 0)) (by (with_reducible repeat (first | refine bN ?_ _ | refine bD ?_ | refine bA ?_ _)); exact BK317.out) hb); have n2_ := Am (below_step (by repeat (first | (with_reducible first | exact HB.out | apply pA | apply pN | apply pD | refine pS ?_ GE316.out | refine pS ?_ GE317.out) | exact HB.out)) hb); clear BK316; clear BK317; clear HB; have BK316 := n0_; have BK317 := n1_; have HB := n2_; clear n0_ n1_ n2_; (try clear hb); (try clear hb2); (try clear hk); (try clear hi); have hcz15_0 : w14.cell? ⟨gb317, 0, none⟩ = some (.int .i64 a1_0) := (blk_cell BK317.out 0).trans rfl; have hcz15_1 : w14.cell? ⟨gb317, 1, none⟩ = some (.int .i64 a1_1) := (blk_cell BK317.out 1).trans rfl; have hcz15_2 : w14.cell? ⟨gb317, 2, none⟩ = some (.slice A1_2 l1_2.length c1_2) := (blk_cell BK317.out 2).trans rfl; have hfz15_0 := blk_frozen BK317.out 0; have hfz15_1 := blk_frozen BK317.out 1; have hfz15_2 := blk_frozen BK317.out 2) | (go_at_call 6; (with_reducible refine (tenetlaw24_big.calls k a1_0 a1_1 _ _ l1_2 t319 _ ?side1 ?side2 A11.out).mono ?_); (case side1 => repeat (first | exact (Kd.C_below HR1_2.out HB.out) | (with_reducible refine Kd.C_alloc ?_ _) | (with_reducible refine Kd.C_drewN ?_ _) | (with_reducible refine Kd.C_drew ?_))); (case side2 => exact HC1_2.out); rintro e w16 ⟨rfl, hb⟩; have n0_ := Am (blk_below (g := gb316) (o := .cells #[.int .i64 a0_0, .int .i64 a0_1, .slice A0_2 l0_2.length c0_2] 24 (0, 0)) (by (with_reducible repeat (first | refine bN ?_ _ | refine bD ?_ | refine bA ?_ _)); exact BK316.out) hb); have n1_ := Am (blk_below (g := gb317) (o := .cells #[.int .i64 a1_0, .int .i64 a1_1, .slice A1_2 l1_2.length c1_2] 24 (0, 0)) (by (with_reducible repeat (first | refine bN ?_ _ | refine bD ?_ | refine bA ?_ _)); exact BK317.out) hb); have n2_ := Am (below_step (by repeat (first | (with_reducible first | exact HB.out | apply pA | apply pN | apply pD | refine pS ?_ GE316.out | refine pS ?_ GE317.out) | exact HB.out)) hb); clear BK316; clear BK317; clear HB; have BK316 := n0_; have BK317 := n1_; have HB := n2_; clear n0_ n1_ n2_; (try clear hb); (try clear hb2); (try clear hk); (try clear hi)))
   go_meet
   case rel => exact ⟨_, (t319), (by first | rfl | (simp; done) | (simp [*]; done)), H', ⟨by first | omega | exact Nat.le_refl _⟩, ⟨by (with_reducible repeat (first | refine bN ?_ _ | refine bD ?_ | refine bA ?_ _)); exact BK316.out⟩, ⟨by (with_reducible repeat (first | refine bN ?_ _ | refine bD ?_ | refine bA ?_ _)); exact BK317.out⟩, ⟨by repeat (first | (with_reducible first | exact HB.out | apply pA | apply pN | apply pD | refine pS ?_ GE316.out | refine pS ?_ GE317.out) | exact HB.out)⟩⟩
 case rest =>
  clear HC3
  try clear c1
  try clear p2
  try clear c3
  try clear c6
  try clear c7
  try clear c8
  try clear c12
  try clear hcz13_0
  try clear hcz13_1
  try clear hcz13_2
  try clear hcz15_0
  try clear hcz15_1
  try clear hcz15_2
  try clear hcz9_0
  try clear hcz9_1
  try clear hcz9_2
  try clear hfz13_0
  try clear hfz13_1
  try clear hfz13_2
  try clear hfz15_0
  try clear hfz15_1
  try clear hfz15_2
  try clear hfz9_0
  try clear hfz9_1
  try clear hfz9_2
  obtain ⟨kq, x14_2, rfl, HA, HJ2, BK316, BK317, HB⟩ := hcut
  cases kq with
  | zero => exact absurd HA.out (by simp [tenetlaw24_RingEquals.j0])
  | succ kj2 =>
   have H := HA.out
   clear HA
   simp only [tenetlaw24_RingEquals.j0] at H
   by_cases c17 : x14_2 = true
   ·
    subst c17
    have H1 : ((tenetlaw24_awake.f).bind fun t320 => (some t320)) = some r := by rw [if_pos rfl] at H; exact H
    clear H
    have H := H1
    clear H1
    replace H := Option.bind_eq_some_iff.mp H
    obtain ⟨t320, A180, H⟩ := H
    replace H : (some t320) = some r := H
    have A18 := Am A180
    clear A180
    obtain rfl := Option.some.inj H
    go_wp2_with (first | ((with_reducible refine gate_callee (f := 7) rfl ?_); refine goesL_ (some 15) rfl rfl Try.func7 (by kernel_rfl) rfl #[] rfl (by (try simp only [List.map_toArray, List.map_cons, List.map_nil]); first | done | rfl | (simp only [List.length_drop, List.length_take]; rfl)) ?_; (with_reducible refine (tenetlaw24_awake.calls  t320 _ A18.out).mono ?_); rintro e w19 ⟨rfl, hb⟩; refine ⟨_, rfl, ?_⟩; have n0_ := Am (blk_below (g := gb316) (o := .cells #[.int .i64 a0_0, .int .i64 a0_1, .slice A0_2 l0_2.length c0_2] 24 (0, 0)) (by (with_reducible repeat (first | refine bN ?_ _ | refine bD ?_ | refine bA ?_ _)); exact BK316.out) hb); have n1_ := Am (blk_below (g := gb317) (o := .cells #[.int .i64 a1_0, .int .i64 a1_1, .slice A1_2 l1_2.length c1_2] 24 (0, 0)) (by (with_reducible repeat (first | refine bN ?_ _ | refine bD ?_ | refine bA ?_ _)); exact BK317.out) hb); have n2_ := Am (below_step (by repeat (first | (with_reducible first | exact HB.out | apply pA | apply pN | apply pD | refine pS ?_ GE316.out | refine pS ?_ GE317.out) | exact HB.out)) hb); clear BK316; clear BK317; clear HB; have BK316 := n0_; have BK317 := n1_; have HB := n2_; clear n0_ n1_ n2_; (try clear hb); (try clear hb2); (try clear hk); (try clear hi)))
    go_ret
    exact ⟨by first | rfl | (simp [errW_none, errW_some] <;> rfl) | (simp [*, errW_none, errW_some] <;> rfl), by repeat (first | (with_reducible first | exact HB.out | apply pA | apply pN | apply pD | refine pS ?_ GE316.out | refine pS ?_ GE317.out) | exact HB.out)⟩
   ·
    replace c17 := Bool.eq_false_iff.mpr c17
    subst c17
    have H1 : ((ring_Equal.f kj2 a0_0 a0_1 l0_2 a1_0 a1_1 l1_2).bind fun bt321 => ((tenetref24_Equal.f kj2 a0_0 a0_1 l0_2 a1_0 a1_1 l1_2).bind fun bt323 => (if (bt321.1 == bt323.1) = true then (if bt321.2 = bt323.2 then ((tenetlaw24_awake.f).bind fun t325 => (some t325)) else (some false)) else (some false)))) = some r := by rw [if_neg (show ¬ (false = true) by decide)] at H; exact H
    clear H
    have H := H1
    clear H1
    replace H := Option.bind_eq_some_iff.mp H
    obtain ⟨⟨t321, t322⟩, A200, H⟩ := H
    replace H : ((tenetref24_Equal.f kj2 a0_0 a0_1 l0_2 a1_0 a1_1 l1_2).bind fun bt323 => (if (t321 == bt323.1) = true then (if t322 = bt323.2 then ((tenetlaw24_awake.f).bind fun t325 => (some t325)) else (some false)) else (some false))) = some r := H
    have A20 := Am A200
    clear A200
    replace H := Option.bind_eq_some_iff.mp H
    obtain ⟨⟨t323, t324⟩, A210, H⟩ := H
    replace H : (if (t321 == t323) = true then (if t322 = t324 then ((tenetlaw24_awake.f).bind fun t325 => (some t325)) else (some false)) else (some false)) = some r := H
    have A21 := Am A210
    clear A210
    by_cases c22 : (t321 == t323) = true
    ·
     rw [if_pos c22] at H
     have c22b0 : (t321 == t323) = true := c22
     (try (have c22b1 : decide (t321 = t323) = true := by simpa using c22))
     (try (have c22b2 : (t321 == t323) = true := by simpa using c22))
     clear c22
     by_cases c23 : t322 = t324
     ·
      rw [if_pos c23] at H
      have c23b0 : (t322 == t324) = true := beq_iff_eq.mpr c23
      have c23b1 : (t322 != t324) = false := bne_eq_false_iff_eq.mpr c23
      clear c23
      replace H := Option.bind_eq_some_iff.mp H
      obtain ⟨t325, A240, H⟩ := H
      replace H : (some t325) = some r := H
      have A24 := Am A240
      clear A240
      obtain rfl := Option.some.inj H
      have hnb25 := NB316_317.out
      have hnc25 := NB317_316.out
      have hcz26_0 : wc.cell? ⟨gb316, 0, none⟩ = some (.int .i64 a0_0) := (blk_cell BK316.out 0).trans rfl
      have hcz26_1 : wc.cell? ⟨gb316, 1, none⟩ = some (.int .i64 a0_1) := (blk_cell BK316.out 1).trans rfl
      have hcz26_2 : wc.cell? ⟨gb316, 2, none⟩ = some (.slice A0_2 l0_2.length c0_2) := (blk_cell BK316.out 2).trans rfl
      have hfz26_0 := blk_frozen BK316.out 0
      have hfz26_1 := blk_frozen BK316.out 1
      have hfz26_2 := blk_frozen BK316.out 2
      have hcz27_0 : wc.cell? ⟨gb317, 0, none⟩ = some (.int .i64 a1_0) := (blk_cell BK317.out 0).trans rfl
      have hcz27_1 : wc.cell? ⟨gb317, 1, none⟩ = some (.int .i64 a1_1) := (blk_cell BK317.out 1).trans rfl
      have hcz27_2 : wc.cell? ⟨gb317, 2, none⟩ = some (.slice A1_2 l1_2.length c1_2) := (blk_cell BK317.out 2).trans rfl
      have hfz27_0 := blk_frozen BK317.out 0
      have hfz27_1 := blk_frozen BK317.out 1
      have hfz27_2 := blk_frozen BK317.out 2
      go_wp2_with (first | ((with_reducible refine gate_callee (f := 8) rfl ?_); refine goesL_ (some 19) rfl rfl Try.func8 (by kernel_rfl) rfl #[.agg #[.int .i64 a0_0, .int .i64 a0_1, .slice A0_2 l0_2.length c0_2], .agg #[.int .i64 a1_0, .int .i64 a1_1, .slice A1_2 l1_2.length c1_2]] rfl (by (try simp only [List.map_toArray, List.map_cons, List.map_nil]); first | done | rfl | (simp only [List.length_drop, List.length_take]; rfl)) ?_; (with_reducible refine (ring_Equal.calls kj2 a0_0 a0_1 _ _ l0_2 a1_0 a1_1 _ _ l1_2 t321 t322 _ ?side1 ?side2 ?side3 ?side4 A20.out).mono ?_); (case side1 => repeat (first | exact (Kd.C_below HR0_2.out HB.out) | (with_reducible refine Kd.C_alloc ?_ _) | (with_reducible refine Kd.C_drewN ?_ _) | (with_reducible refine Kd.C_drew ?_))); (case side2 => exact HC0_2.out); (case side3 => repeat (first | exact (Kd.C_below HR1_2.out HB.out) | (with_reducible refine Kd.C_alloc ?_ _) | (with_reducible refine Kd.C_drewN ?_ _) | (with_reducible refine Kd.C_drew ?_))); (case side4 => exact HC1_2.out); rintro e w28 ⟨rfl, hb⟩; refine ⟨_, rfl, ?_⟩; have n0_ := Am (blk_below (g := gb316) (o := .cells #[.int .i64 a0_0, .int .i64 a0_1, .slice A0_2 l0_2.length c0_2] 24 (0, 0)) (by (with_reducible repeat (first | refine bN ?_ _ | refine bD ?_ | refine bA ?_ _)); exact BK316.out) hb); have n1_ := Am (blk_below (g := gb317) (o := .cells #[.int .i64 a1_0, .int .i64 a1_1, .slice A1_2 l1_2.length c1_2] 24 (0, 0)) (by (with_reducible repeat (first | refine bN ?_ _ | refine bD ?_ | refine bA ?_ _)); exact BK317.out) hb); have n2_ := Am (below_step (by repeat (first | (with_reducible first | exact HB.out | apply pA | apply pN | apply pD | refine pS ?_ GE316.out | refine pS ?_ GE317.out) | exact HB.out)) hb); clear BK316; clear BK317; clear HB; have BK316 := n0_; have BK317 := n1_; have HB := n2_; clear n0_ n1_ n2_; (try clear hb); (try clear hb2); (try clear hk); (try clear hi); have hcz29_0 : w28.cell? ⟨gb316, 0, none⟩ = some (.int .i64 a0_0) := (blk_cell BK316.out 0).trans rfl; have hcz29_1 : w28.cell? ⟨gb316, 1, none⟩ = some (.int .i64 a0_1) := (blk_cell BK316.out 1).trans rfl; have hcz29_2 : w28.cell? ⟨gb316, 2, none⟩ = some (.slice A0_2 l0_2.length c0_2) := (blk_cell BK316.out 2).trans rfl; have hfz29_0 := blk_frozen BK316.out 0; have hfz29_1 := blk_frozen BK316.out 1; have hfz29_2 := blk_frozen BK316.out 2; have hcz30_0 : w28.cell? ⟨gb317, 0, none⟩ = some (.int .i64 a1_0) := (blk_cell BK317.out 0).trans rfl; have hcz30_1 : w28.cell? ⟨gb317, 1, none⟩ = some (.int .i64 a1_1) := (blk_cell BK317.out 1).trans rfl; have hcz30_2 : w28.cell? ⟨gb317, 2, none⟩ = some (.slice A1_2 l1_2.length c1_2) := (blk_cell BK317.out 2).trans rfl; have hfz30_0 := blk_frozen BK317.out 0; have hfz30_1 := blk_frozen BK317.out 1; have hfz30_2 := blk_frozen BK317.out 2) | ((with_reducible refine gate_callee (f := 9) rfl ?_); refine goesL_ (some 25) rfl rfl Try.func9 (by kernel_rfl) rfl #[.agg #[.int .i64 a0_0, .int .i64 a0_1, .slice A0_2 l0_2.length c0_2], .agg #[.int .i64 a1_0, .int .i64 a1_1, .slice A1_2 l1_2.length c1_2]] rfl (by (try simp only [List.map_toArray, List.map_cons, List.map_nil]); first | done | rfl | (simp only [List.length_drop, List.length_take]; rfl)) ?_; (with_reducible refine (tenetref24_Equal.calls kj2 a0_0 a0_1 _ _ l0_2 a1_0 a1_1 _ _ l1_2 t323 t324 _ ?side1 ?side2 ?side3 ?side4 A21.out).mono ?_); (case side1 => repeat (first | exact (Kd.C_below HR0_2.out HB.out) | (with_reducible refine Kd.C_alloc ?_ _) | (with_reducible refine Kd.C_drewN ?_ _) | (with_reducible refine Kd.C_drew ?_))); (case side2 => exact HC0_2.out); (case side3 => repeat (first | exact (Kd.C_below HR1_2.out HB.out) | (with_reducible refine Kd.C_alloc ?_ _) | (with_reducible refine Kd.C_drewN ?_ _) | (with_reducible refine Kd.C_drew ?_))); (case side4 => exact HC1_2.out); rintro e w31 ⟨rfl, hb⟩; refine ⟨_, rfl, ?_⟩; have n0_ := Am (blk_below (g := gb316) (o := .cells #[.int .i64 a0_0, .int .i64 a0_1, .slice A0_2 l0_2.length c0_2] 24 (0, 0)) (by (with_reducible repeat (first | refine bN ?_ _ | refine bD ?_ | refine bA ?_ _)); exact BK316.out) hb); have n1_ := Am (blk_below (g := gb317) (o := .cells #[.int .i64 a1_0, .int .i64 a1_1, .slice A1_2 l1_2.length c1_2] 24 (0, 0)) (by (with_reducible repeat (first | refine bN ?_ _ | refine bD ?_ | refine bA ?_ _)); exact BK317.out) hb); have n2_ := Am (below_step (by repeat (first | (with_reducible first | exact HB.out | apply pA | apply pN | apply pD | refine pS ?_ GE316.out | refine pS ?_ GE317.out) | exact HB.out)) hb); clear BK316; clear BK317; clear HB; have BK316 := n0_; have BK317 := n1_; have HB := n2_; clear n0_ n1_ n2_; (try clear hb); (try clear hb2); (try clear hk); (try clear hi)) | (go_at_call 7; (with_reducible refine (tenetlaw24_awake.calls  t325 _ A24.out).mono ?_); rintro e w32 ⟨rfl, hb⟩; have n0_ := Am (blk_below (g := gb316) (o := .cells #[.int .i64 a0_0, .int .i64 a0_1, .slice A0_2 l0_2.length c0_2] 24 (0, 0)) (by (with_reducible repeat (first | refine bN ?_ _ | refine bD ?_ | refine bA ?_ _)); exact BK316.out) hb); have n1_ := Am (blk_below (g := gb317) (o := .cells #[.int .i64 a1_0, .int .i64 a1_1, .slice A1_2 l1_2.length c1_2] 24 (0, 0)) (by (with_reducible repeat (first | refine bN ?_ _ | refine bD ?_ | refine bA ?_ _)); exact BK317.out) hb); have n2_ := Am (below_step (by repeat (first | (with_reducible first | exact HB.out | apply pA | apply pN | apply pD | refine pS ?_ GE316.out | refine pS ?_ GE317.out) | exact HB.out)) hb); clear BK316; clear BK317; clear HB; have BK316 := n0_; have BK317 := n1_; have HB := n2_; clear n0_ n1_ n2_; (try clear hb); (try clear hb2); (try clear hk); (try clear hi)))
      go_ret
      exact ⟨by first | rfl | (simp [errW_none, errW_some] <;> rfl) | (simp [*, errW_none, errW_some] <;> rfl), by repeat (first | (with_reducible first | exact HB.out | apply pA | apply pN | apply pD | refine pS ?_ GE316.out | refine pS ?_ GE317.out) | exact HB.out)⟩
     ·
      rw [if_neg c23] at H
      have c23b0 : (t322 == t324) = false := beq_eq_false_iff_ne.mpr c23
      have c23b1 : (t322 != t324) = true := bne_iff_ne.mpr c23
      obtain rfl := Option.some.inj H
      have hnb33 := NB316_317.out
      have hnc33 := NB317_316.out
      have hcz34_0 : wc.cell? ⟨gb316, 0, none⟩ = some (.int .i64 a0_0) := (blk_cell BK316.out 0).trans rfl
      have hcz34_1 : wc.cell? ⟨gb316, 1, none⟩ = some (.int .i64 a0_1) := (blk_cell BK316.out 1).trans rfl
      have hcz34_2 : wc.cell? ⟨gb316, 2, none⟩ = some (.slice A0_2 l0_2.length c0_2) := (blk_cell BK316.out 2).trans rfl
      have hfz34_0 := blk_frozen BK316.out 0
      have hfz34_1 := blk_frozen BK316.out 1
      have hfz34_2 := blk_frozen BK316.out 2
      have hcz35_0 : wc.cell? ⟨gb317, 0, none⟩ = some (.int .i64 a1_0) := (blk_cell BK317.out 0).trans rfl
      have hcz35_1 : wc.cell? ⟨gb317, 1, none⟩ = some (.int .i64 a1_1) := (blk_cell BK317.out 1).trans rfl
      have hcz35_2 : wc.cell? ⟨gb317, 2, none⟩ = some (.slice A1_2 l1_2.length c1_2) := (blk_cell BK317.out 2).trans rfl
      have hfz35_0 := blk_frozen BK317.out 0
      have hfz35_1 := blk_frozen BK317.out 1
      have hfz35_2 := blk_frozen BK317.out 2
      go_wp2_with (first | ((with_reducible refine gate_callee (f := 8) rfl ?_); refine goesL_ (some 19) rfl rfl Try.func8 (by kernel_rfl) rfl #[.agg #[.int .i64 a0_0, .int .i64 a0_1, .slice A0_2 l0_2.length c0_2], .agg #[.int .i64 a1_0, .int .i64 a1_1, .slice A1_2 l1_2.length c1_2]] rfl (by (try simp only [List.map_toArray, List.map_cons, List.map_nil]); first | done | rfl | (simp only [List.length_drop, List.length_take]; rfl)) ?_; (with_reducible refine (ring_Equal.calls kj2 a0_0 a0_1 _ _ l0_2 a1_0 a1_1 _ _ l1_2 t321 t322 _ ?side1 ?side2 ?side3 ?side4 A20.out).mono ?_); (case side1 => repeat (first | exact (Kd.C_below HR0_2.out HB.out) | (with_reducible refine Kd.C_alloc ?_ _) | (with_reducible refine Kd.C_drewN ?_ _) | (with_reducible refine Kd.C_drew ?_))); (case side2 => exact HC0_2.out); (case side3 => repeat (first | exact (Kd.C_below HR1_2.out HB.out) | (with_reducible refine Kd.C_alloc ?_ _) | (with_reducible refine Kd.C_drewN ?_ _) | (with_reducible refine Kd.C_drew ?_))); (case side4 => exact HC1_2.out); rintro e w36 ⟨rfl, hb⟩; refine ⟨_, rfl, ?_⟩; have n0_ := Am (blk_below (g := gb316) (o := .cells #[.int .i64 a0_0, .int .i64 a0_1, .slice A0_2 l0_2.length c0_2] 24 (0, 0)) (by (with_reducible repeat (first | refine bN ?_ _ | refine bD ?_ | refine bA ?_ _)); exact BK316.out) hb); have n1_ := Am (blk_below (g := gb317) (o := .cells #[.int .i64 a1_0, .int .i64 a1_1, .slice A1_2 l1_2.length c1_2] 24 (0, 0)) (by (with_reducible repeat (first | refine bN ?_ _ | refine bD ?_ | refine bA ?_ _)); exact BK317.out) hb); have n2_ := Am (below_step (by repeat (first | (with_reducible first | exact HB.out | apply pA | apply pN | apply pD | refine pS ?_ GE316.out | refine pS ?_ GE317.out) | exact HB.out)) hb); clear BK316; clear BK317; clear HB; have BK316 := n0_; have BK317 := n1_; have HB := n2_; clear n0_ n1_ n2_; (try clear hb); (try clear hb2); (try clear hk); (try clear hi); have hcz37_0 : w36.cell? ⟨gb316, 0, none⟩ = some (.int .i64 a0_0) := (blk_cell BK316.out 0).trans rfl; have hcz37_1 : w36.cell? ⟨gb316, 1, none⟩ = some (.int .i64 a0_1) := (blk_cell BK316.out 1).trans rfl; have hcz37_2 : w36.cell? ⟨gb316, 2, none⟩ = some (.slice A0_2 l0_2.length c0_2) := (blk_cell BK316.out 2).trans rfl; have hfz37_0 := blk_frozen BK316.out 0; have hfz37_1 := blk_frozen BK316.out 1; have hfz37_2 := blk_frozen BK316.out 2; have hcz38_0 : w36.cell? ⟨gb317, 0, none⟩ = some (.int .i64 a1_0) := (blk_cell BK317.out 0).trans rfl; have hcz38_1 : w36.cell? ⟨gb317, 1, none⟩ = some (.int .i64 a1_1) := (blk_cell BK317.out 1).trans rfl; have hcz38_2 : w36.cell? ⟨gb317, 2, none⟩ = some (.slice A1_2 l1_2.length c1_2) := (blk_cell BK317.out 2).trans rfl; have hfz38_0 := blk_frozen BK317.out 0; have hfz38_1 := blk_frozen BK317.out 1; have hfz38_2 := blk_frozen BK317.out 2) | ((with_reducible refine gate_callee (f := 9) rfl ?_); refine goesL_ (some 25) rfl rfl Try.func9 (by kernel_rfl) rfl #[.agg #[.int .i64 a0_0, .int .i64 a0_1, .slice A0_2 l0_2.length c0_2], .agg #[.int .i64 a1_0, .int .i64 a1_1, .slice A1_2 l1_2.length c1_2]] rfl (by (try simp only [List.map_toArray, List.map_cons, List.map_nil]); first | done | rfl | (simp only [List.length_drop, List.length_take]; rfl)) ?_; (with_reducible refine (tenetref24_Equal.calls kj2 a0_0 a0_1 _ _ l0_2 a1_0 a1_1 _ _ l1_2 t323 t324 _ ?side1 ?side2 ?side3 ?side4 A21.out).mono ?_); (case side1 => repeat (first | exact (Kd.C_below HR0_2.out HB.out) | (with_reducible refine Kd.C_alloc ?_ _) | (with_reducible refine Kd.C_drewN ?_ _) | (with_reducible refine Kd.C_drew ?_))); (case side2 => exact HC0_2.out); (case side3 => repeat (first | exact (Kd.C_below HR1_2.out HB.out) | (with_reducible refine Kd.C_alloc ?_ _) | (with_reducible refine Kd.C_drewN ?_ _) | (with_reducible refine Kd.C_drew ?_))); (case side4 => exact HC1_2.out); rintro e w39 ⟨rfl, hb⟩; refine ⟨_, rfl, ?_⟩; have n0_ := Am (blk_below (g := gb316) (o := .cells #[.int .i64 a0_0, .int .i64 a0_1, .slice A0_2 l0_2.length c0_2] 24 (0, 0)) (by (with_reducible repeat (first | refine bN ?_ _ | refine bD ?_ | refine bA ?_ _)); exact BK316.out) hb); have n1_ := Am (blk_below (g := gb317) (o := .cells #[.int .i64 a1_0, .int .i64 a1_1, .slice A1_2 l1_2.length c1_2] 24 (0, 0)) (by (with_reducible repeat (first | refine bN ?_ _ | refine bD ?_ | refine bA ?_ _)); exact BK317.out) hb); have n2_ := Am (below_step (by repeat (first | (with_reducible first | exact HB.out | apply pA | apply pN | apply pD | refine pS ?_ GE316.out | refine pS ?_ GE317.out) | exact HB.out)) hb); clear BK316; clear BK317; clear HB; have BK316 := n0_; have BK317 := n1_; have HB := n2_; clear n0_ n1_ n2_; (try clear hb); (try clear hb2); (try clear hk); (try clear hi)))
      go_ret
      exact ⟨by first | rfl | (simp [errW_none, errW_some] <;> rfl) | (simp [*, errW_none, errW_some] <;> rfl), by repeat (first | (with_reducible first | exact HB.out | apply pA | apply pN | apply pD | refine pS ?_ GE316.out | refine pS ?_ GE317.out) | exact HB.out)⟩
    ·
     rw [if_neg c22] at H
     have c22b0 : (t321 == t323) = false := by simpa using c22
     (try (have c22b1 : decide (t321 = t323) = false := by simpa using c22))
     (try (have c22b2 : (t321 == t323) = false := by simpa using c22))
     (try (have c22b3 : ¬ (t321 = t323) := by simpa using c22))
     clear c22
     obtain rfl := Option.some.inj H
     have hnb40 := NB316_317.out
     have hnc40 := NB317_316.out
     have hcz41_0 : wc.cell? ⟨gb316, 0, none⟩ = some (.int .i64 a0_0) := (blk_cell BK316.out 0).trans rfl
     have hcz41_1 : wc.cell? ⟨gb316, 1, none⟩ = some (.int .i64 a0_1) := (blk_cell BK316.out 1).trans rfl
     have hcz41_2 : wc.cell? ⟨gb316, 2, none⟩ = some (.slice A0_2 l0_2.length c0_2) := (blk_cell BK316.out 2).trans rfl
     have hfz41_0 := blk_frozen BK316.out 0
     have hfz41_1 := blk_frozen BK316.out 1
     have hfz41_2 := blk_frozen BK316.out 2
     have hcz42_0 : wc.cell? ⟨gb317, 0, none⟩ = some (.int .i64 a1_0) := (blk_cell BK317.out 0).trans rfl
     have hcz42_1 : wc.cell? ⟨gb317, 1, none⟩ = some (.int .i64 a1_1) := (blk_cell BK317.out 1).trans rfl
     have hcz42_2 : wc.cell? ⟨gb317, 2, none⟩ = some (.slice A1_2 l1_2.length c1_2) := (blk_cell BK317.out 2).trans rfl
     have hfz42_0 := blk_frozen BK317.out 0
     have hfz42_1 := blk_frozen BK317.out 1
     have hfz42_2 := blk_frozen BK317.out 2
     go_wp2_with (first | ((with_reducible refine gate_callee (f := 8) rfl ?_); refine goesL_ (some 19) rfl rfl Try.func8 (by kernel_rfl) rfl #[.agg #[.int .i64 a0_0, .int .i64 a0_1, .slice A0_2 l0_2.length c0_2], .agg #[.int .i64 a1_0, .int .i64 a1_1, .slice A1_2 l1_2.length c1_2]] rfl (by (try simp only [List.map_toArray, List.map_cons, List.map_nil]); first | done | rfl | (simp only [List.length_drop, List.length_take]; rfl)) ?_; (with_reducible refine (ring_Equal.calls kj2 a0_0 a0_1 _ _ l0_2 a1_0 a1_1 _ _ l1_2 t321 t322 _ ?side1 ?side2 ?side3 ?side4 A20.out).mono ?_); (case side1 => repeat (first | exact (Kd.C_below HR0_2.out HB.out) | (with_reducible refine Kd.C_alloc ?_ _) | (with_reducible refine Kd.C_drewN ?_ _) | (with_reducible refine Kd.C_drew ?_))); (case side2 => exact HC0_2.out); (case side3 => repeat (first | exact (Kd.C_below HR1_2.out HB.out) | (with_reducible refine Kd.C_alloc ?_ _) | (with_reducible refine Kd.C_drewN ?_ _) | (with_reducible refine Kd.C_drew ?_))); (case side4 => exact HC1_2.out); rintro e w43 ⟨rfl, hb⟩; refine ⟨_, rfl, ?_⟩; have n0_ := Am (blk_below (g := gb316) (o := .cells #[.int .i64 a0_0, .int .i64 a0_1, .slice A0_2 l0_2.length c0_2] 24 (0, 0)) (by (with_reducible repeat (first | refine bN ?_ _ | refine bD ?_ | refine bA ?_ _)); exact BK316.out) hb); have n1_ := Am (blk_below (g := gb317) (o := .cells #[.int .i64 a1_0, .int .i64 a1_1, .slice A1_2 l1_2.length c1_2] 24 (0, 0)) (by (with_reducible repeat (first | refine bN ?_ _ | refine bD ?_ | refine bA ?_ _)); exact BK317.out) hb); have n2_ := Am (below_step (by repeat (first | (with_reducible first | exact HB.out | apply pA | apply pN | apply pD | refine pS ?_ GE316.out | refine pS ?_ GE317.out) | exact HB.out)) hb); clear BK316; clear BK317; clear HB; have BK316 := n0_; have BK317 := n1_; have HB := n2_; clear n0_ n1_ n2_; (try clear hb); (try clear hb2); (try clear hk); (try clear hi); have hcz44_0 : w43.cell? ⟨gb316, 0, none⟩ = some (.int .i64 a0_0) := (blk_cell BK316.out 0).trans rfl; have hcz44_1 : w43.cell? ⟨gb316, 1, none⟩ = some (.int .i64 a0_1) := (blk_cell BK316.out 1).trans rfl; have hcz44_2 : w43.cell? ⟨gb316, 2, none⟩ = some (.slice A0_2 l0_2.length c0_2) := (blk_cell BK316.out 2).trans rfl; have hfz44_0 := blk_frozen BK316.out 0; have hfz44_1 := blk_frozen BK316.out 1; have hfz44_2 := blk_frozen BK316.out 2; have hcz45_0 : w43.cell? ⟨gb317, 0, none⟩ = some (.int .i64 a1_0) := (blk_cell BK317.out 0).trans rfl; have hcz45_1 : w43.cell? ⟨gb317, 1, none⟩ = some (.int .i64 a1_1) := (blk_cell BK317.out 1).trans rfl; have hcz45_2 : w43.cell? ⟨gb317, 2, none⟩ = some (.slice A1_2 l1_2.length c1_2) := (blk_cell BK317.out 2).trans rfl; have hfz45_0 := blk_frozen BK317.out 0; have hfz45_1 := blk_frozen BK317.out 1; have hfz45_2 := blk_frozen BK317.out 2) | ((with_reducible refine gate_callee (f := 9) rfl ?_); refine goesL_ (some 25) rfl rfl Try.func9 (by kernel_rfl) rfl #[.agg #[.int .i64 a0_0, .int .i64 a0_1, .slice A0_2 l0_2.length c0_2], .agg #[.int .i64 a1_0, .int .i64 a1_1, .slice A1_2 l1_2.length c1_2]] rfl (by (try simp only [List.map_toArray, List.map_cons, List.map_nil]); first | done | rfl | (simp only [List.length_drop, List.length_take]; rfl)) ?_; (with_reducible refine (tenetref24_Equal.calls kj2 a0_0 a0_1 _ _ l0_2 a1_0 a1_1 _ _ l1_2 t323 t324 _ ?side1 ?side2 ?side3 ?side4 A21.out).mono ?_); (case side1 => repeat (first | exact (Kd.C_below HR0_2.out HB.out) | (with_reducible refine Kd.C_alloc ?_ _) | (with_reducible refine Kd.C_drewN ?_ _) | (with_reducible refine Kd.C_drew ?_))); (case side2 => exact HC0_2.out); (case side3 => repeat (first | exact (Kd.C_below HR1_2.out HB.out) | (with_reducible refine Kd.C_alloc ?_ _) | (with_reducible refine Kd.C_drewN ?_ _) | (with_reducible refine Kd.C_drew ?_))); (case side4 => exact HC1_2.out); rintro e w46 ⟨rfl, hb⟩; refine ⟨_, rfl, ?_⟩; have n0_ := Am (blk_below (g := gb316) (o := .cells #[.int .i64 a0_0, .int .i64 a0_1, .slice A0_2 l0_2.length c0_2] 24 (0, 0)) (by (with_reducible repeat (first | refine bN ?_ _ | refine bD ?_ | refine bA ?_ _)); exact BK316.out) hb); have n1_ := Am (blk_below (g := gb317) (o := .cells #[.int .i64 a1_0, .int .i64 a1_1, .slice A1_2 l1_2.length c1_2] 24 (0, 0)) (by (with_reducible repeat (first | refine bN ?_ _ | refine bD ?_ | refine bA ?_ _)); exact BK317.out) hb); have n2_ := Am (below_step (by repeat (first | (with_reducible first | exact HB.out | apply pA | apply pN | apply pD | refine pS ?_ GE316.out | refine pS ?_ GE317.out) | exact HB.out)) hb); clear BK316; clear BK317; clear HB; have BK316 := n0_; have BK317 := n1_; have HB := n2_; clear n0_ n1_ n2_; (try clear hb); (try clear hb2); (try clear hk); (try clear hi)))
     go_ret
     exact ⟨by first | rfl | (simp [errW_none, errW_some] <;> rfl) | (simp [*, errW_none, errW_some] <;> rfl), by repeat (first | (with_reducible first | exact HB.out | apply pA | apply pN | apply pD | refine pS ?_ GE316.out | refine pS ?_ GE317.out) | exact HB.out)⟩

end Go.Proofs.Ytjnplfbggklkfaa.Rg

/- What the ring's Equal answers. -/
namespace Go.Proofs.Ytjnplfbggklkfaa
open Go.RowKit Go.Proofs.YtjnplfbggklkfaaW.PrintWords Go.Proofs.YtjnplfbggklkfaaW.PrintLast Go.Proofs.YtjnplfbggklkfaaW.PrintMore Go.Proofs.Ytjnplfbggklkfaa.Rg
set_option linter.unusedVariables false
set_option linter.unusedSimpArgs false

/-- What Equal answers. -/
def answer (x y : S24) : Bool × Int := if validB x = true then (if validB y = true then verdict x y else (false, 4)) else (false, 4)
theorem Equal_eq {x y : S24} (hx : nodes x ≤ 1000000) (hy : nodes y ≤ 1000000) : Ev fun k => ring_Equal.f k x.f0 x.f1 x.f2 y.f0 y.f1 y.f2 = some (answer x y) := by
  refine ((Valid_eq hx).and (Valid_eq hy)).mono fun k ⟨e1, e2⟩ => ?_
  unfold ring_Equal.f answer
  rw [e1, e2, Option.bind_some, eta24, eta24]
  cases validB x <;> cases validB y <;> rfl
theorem verdict_comm (x y : S24) : verdict x y = verdict y x := by
  unfold verdict
  rw [Bool.or_comm]
  have : sameD (den x) (den y) = sameD (den y) (den x) := by
    rw [Bool.eq_iff_iff, sameD_iff, sameD_iff]
    exact ⟨fun h k => (h k).symm, fun h k => (h k).symm⟩
  rw [this]
theorem answer_comm (x y : S24) : answer x y = answer y x := by
  unfold answer
  rw [verdict_comm]
  cases validB x <;> cases validB y <;> rfl
theorem answer_cases (x y : S24) : (answer x y = (true, 0) ∧ ∀ k, coef (den x) k = coef (den y) k) ∨ (∃ n, answer x y = (false, n)) := by
  unfold answer
  cases validB x with
  | false => exact .inr ⟨4, rfl⟩
  | true =>
    cases validB y with
    | false => exact .inr ⟨4, rfl⟩
    | true =>
      simp only [if_true]
      unfold verdict
      split
      · exact .inr ⟨2, rfl⟩
      · cases h : sameD (den x) (den y) with
        | true => exact .inl ⟨rfl, (sameD_iff _ _).1 h⟩
        | false => exact .inr ⟨0, rfl⟩
/-- Of the same coefficients: found equal, or an error. -/
theorem answer_same {x y : S24} (h : ∀ k, coef (den x) k = coef (den y) k) : (answer x y).1 = true ∨ (answer x y).2 ≠ 0 := by
  unfold answer
  cases validB x with
  | false => exact .inr (show (4 : Int) ≠ 0 by decide)
  | true =>
    cases validB y with
    | false => exact .inr (show (4 : Int) ≠ 0 by decide)
    | true =>
      simp only [if_true]
      unfold verdict
      split
      · exact .inr (show (2 : Int) ≠ 0 by decide)
      · exact .inl ((sameD_iff _ _).2 h)
end Go.Proofs.Ytjnplfbggklkfaa

/- The reference finds the same expressions valid. -/
namespace Go.Proofs.Ytjnplfbggklkfaa
open Go.RowKit Go.Proofs.YtjnplfbggklkfaaW.PrintWords Go.Proofs.YtjnplfbggklkfaaW.PrintLast Go.Proofs.YtjnplfbggklkfaaW.PrintMore Go.Proofs.Ytjnplfbggklkfaa.Rg
set_option linter.unusedVariables false
set_option linter.unusedSimpArgs false

/-! ### The reference finds the same expressions valid -/
theorem refFormed_eq_ : ∀ (m : Nat) (x : S24), SizeOf.sizeOf x < m → Ev fun k => tenetref24_formed.f k x.f0 x.f1 x.f2 1000000 = some (good x)
  | 0, _, h => absurd h (by omega)
  | m + 1, ⟨a, b, l⟩, h => by
    simp at h
    by_cases h1 : a = 1
    · refine Ev.succ (Ev.all fun k => ?_)
      unfold tenetref24_formed.f
      rw [good]
      subst h1
      by_cases hb : 0 ≤ b
      · by_cases hb2 : b ≤ 1000000
        · cases l with
          | nil => simp [hb, hb2]
          | cons x r => simp [hb, hb2]; omega
        · simp [hb, hb2]
      · simp [hb]
    · by_cases h2 : a = 2
      · refine Ev.succ (Ev.all fun k => ?_)
        unfold tenetref24_formed.f
        rw [good]
        subst h2
        by_cases hb : 0 ≤ b
        · by_cases hb2 : b < 8
          · cases l with
            | nil => simp [hb, hb2]
            | cons x r => simp [hb, hb2]; omega
          · simp [hb, hb2]
        · simp [hb]
      · have hj : ∀ c : Bool, c = (a == 3 || a == 4) → Ev fun k => tenetref24_formed.j0 k 1000000 c a b l = some (good ⟨a, b, l⟩) := by
          intro c hc
          have hf : good ⟨a, b, l⟩ = (c && b == 0 && l.length == 2 && goodL l) := by
            rw [good, ← hc]
            simp [h1, h2]
          rw [hf]
          cases hcc : c with
          | false =>
            refine Ev.succ (Ev.all fun k => ?_)
            unfold tenetref24_formed.j0
            simp
          | true =>
            by_cases hl : l.length = 2
            · match l, hl with
              | [y, z], _ =>
                simp at h
                have iy := refFormed_eq_ m y (by omega)
                have iz := refFormed_eq_ m z (by omega)
                refine Ev.succ ((iy.and iz).mono fun k ⟨iy, iz⟩ => ?_)
                unfold tenetref24_formed.j0
                rw [goodL, goodL, goodL]
                have ey : tenetref24_formed.f k (rd_T24 [y, z] 0).f0 (rd_T24 [y, z] 0).f1 (rd_T24 [y, z] 0).f2 1000000 = some (good y) := iy
                have ez : tenetref24_formed.f k (rd_T24 [y, z] 1).f0 (rd_T24 [y, z] 1).f1 (rd_T24 [y, z] 1).f2 1000000 = some (good z) := iz
                rw [ey, ez]
                by_cases hb : b = 0
                · subst hb
                  cases good y <;> simp
                · simp [hb]
            · refine Ev.succ (Ev.all fun k => ?_)
              unfold tenetref24_formed.j0
              have h' : (l.length == 2) = false := beq_eq_false_iff_ne.2 hl
              by_cases hb : b = 0
              · rw [if_pos rfl, if_pos hb, if_neg (by omega)]
                simp [h']
              · simp [hb]
        have e1 : (a == 1) = false := beq_eq_false_iff_ne.2 h1
        by_cases h3 : a = 3
        · refine Ev.succ ((hj (a == 3) (by simp [h3])).mono fun k e => ?_)
          unfold tenetref24_formed.f
          simp only
          rw [if_neg h1, if_neg h2, if_pos h3]
          exact e
        · refine Ev.succ ((hj (a == 4) (by simp [h3])).mono fun k e => ?_)
          unfold tenetref24_formed.f
          simp only
          rw [if_neg h1, if_neg h2, if_neg h3]
          exact e
theorem refFormed_eq (x : S24) : Ev fun k => tenetref24_formed.f k x.f0 x.f1 x.f2 1000000 = some (good x) := refFormed_eq_ _ x (Nat.lt_succ_self _)
theorem refValid_eq (x : S24) : Ev fun k => tenetref24_Valid.f k x.f0 x.f1 x.f2 = some (validB x) := by
  obtain ⟨r, ⟨h1, h2, h3⟩, e⟩ := Size_eq x 60 (by omega)
  refine (e.and (refFormed_eq x)).mono fun k ⟨e1, e2⟩ => ?_
  unfold tenetref24_Valid.f validB
  have e1' : tenetref24_Size.f k x.f0 x.f1 x.f2 60 = some r := e1
  rw [e1', e2, Option.bind_some, Option.bind_some]
  by_cases n1 : nodes x ≤ 60
  · have hd := h2 n1
    rw [if_pos (by omega)]
    by_cases n2 : depth x ≤ 12
    · rw [if_pos (by omega)]
      simp [n1, n2]
    · rw [if_neg (by omega)]
      simp [n2]
  · rw [if_neg (by omega)]
    simp [n1]
end Go.Proofs.Ytjnplfbggklkfaa
