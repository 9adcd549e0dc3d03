/- The walk of the law RingKeeps. -/
import Derived.Test.YtjnplfbggklkfaaRgAwake
import Derived.Test.YtjnplfbggklkfaaRg2
namespace Go.Proofs.Ytjnplfbggklkfaa
open Go.RowKit Go.Proofs.YtjnplfbggklkfaaW.PrintWords Go.Proofs.Ytjnplfbggklkfaa.Rg
set_option linter.unusedVariables false
set_option linter.unusedSimpArgs false

abbrev av (x : S24) (A : Option Addr) (c : Nat) : Value := .agg #[.int .i64 x.f0, .int .i64 x.f1, .slice A x.f2.length c]
abbrev ab (x : S24) (A : Option Addr) (c : Nat) : Obj := .cells #[.int .i64 x.f0, .int .i64 x.f1, .slice A x.f2.length c] 24
/-- Three boxes, at every later world. -/
structure Three (w w2 : World) (x y z : S24) (A : Option Addr) (c : Nat) (A' : Option Addr) (c' : Nat) (A'' : Option Addr) (c'' : Nat) : Prop where
  b : Below w.heap.size w w2
  x0 : w2.cell? ⟨w.heap.size, 0, none⟩ = some (.int .i64 x.f0)
  x1 : w2.cell? ⟨w.heap.size, 1, none⟩ = some (.int .i64 x.f1)
  x2 : w2.cell? ⟨w.heap.size, 2, none⟩ = some (.slice A x.f2.length c)
  y0 : w2.cell? ⟨w.heap.size + 1, 0, none⟩ = some (.int .i64 y.f0)
  y1 : w2.cell? ⟨w.heap.size + 1, 1, none⟩ = some (.int .i64 y.f1)
  y2 : w2.cell? ⟨w.heap.size + 1, 2, none⟩ = some (.slice A' y.f2.length c')
  z0 : w2.cell? ⟨w.heap.size + 1 + 1, 0, none⟩ = some (.int .i64 z.f0)
  z1 : w2.cell? ⟨w.heap.size + 1 + 1, 1, none⟩ = some (.int .i64 z.f1)
  z2 : w2.cell? ⟨w.heap.size + 1 + 1, 2, none⟩ = some (.slice A'' z.f2.length c'')
  hx : Kd.C k24 w2 A x.f2.length x.f2
  hy : Kd.C k24 w2 A' y.f2.length y.f2
  hz : Kd.C k24 w2 A'' z.f2.length z.f2
section
variable {w w2 w3 : World} {x y z : S24} {A A' A'' : Option Addr} {c c' c'' : Nat}
theorem Three.start (hx : Kd.C k24 w A x.f2.length x.f2) (hy : Kd.C k24 w A' y.f2.length y.f2) (hz : Kd.C k24 w A'' z.f2.length z.f2) :
    Three w (((w.alloc (ab x A c)).alloc (ab y A' c')).alloc (ab z A'' c'')) x y z A c A' c' A'' c'' := by
  have hb : Below w.heap.size w (((w.alloc (ab x A c)).alloc (ab y A' c')).alloc (ab z A'' c'')) := (((Below.refl _ _).alloc (Nat.le_refl _) _).alloc (by simp) _).alloc (by simp; omega) _
  have h1 := heap_alloc_new w (ab x A c)
  have h2 := heap_alloc_new (w.alloc (ab x A c)) (ab y A' c')
  have h3 := heap_alloc_new ((w.alloc (ab x A c)).alloc (ab y A' c')) (ab z A'' c'')
  rw [size_alloc'] at h2
  rw [size_alloc', size_alloc'] at h3
  have h1 := row_alloc (ab z A'' c'') (row_alloc (ab y A' c') h1)
  have h2 := row_alloc (ab z A'' c'') h2
  exact ⟨hb, cell_of_row _ _ 0 _ _ _ h1, cell_of_row _ _ 1 _ _ _ h1, cell_of_row _ _ 2 _ _ _ h1, cell_of_row _ _ 0 _ _ _ h2, cell_of_row _ _ 1 _ _ _ h2, cell_of_row _ _ 2 _ _ _ h2,
    cell_of_row _ _ 0 _ _ _ h3, cell_of_row _ _ 1 _ _ _ h3, cell_of_row _ _ 2 _ _ _ h3, Kd.C_below hx hb, Kd.C_below hy hb, Kd.C_below hz hb⟩
theorem Three.next (h : Three w w2 x y z A c A' c' A'' c'') (hb : Below w2.heap.size w2 w3) : Three w w3 x y z A c A' c' A'' c'' :=
  ⟨below_then' h.b hb, cellB hb h.x0, cellB hb h.x1, cellB hb h.x2, cellB hb h.y0, cellB hb h.y1, cellB hb h.y2, cellB hb h.z0, cellB hb h.z1, cellB hb h.z2, Kd.C_below h.hx hb, Kd.C_below h.hy hb, Kd.C_below h.hz hb⟩
theorem Three.drew (h : Three w w2 x y z A c A' c' A'' c'') : Three w w2.drew x y z A c A' c' A'' c'' := h.next (Below.refl w2.heap.size w2).drew
end
def KeepPost (w : World) (e : Ending) (w' : World) : Prop := e = .returned (.bool true) ∧ Below w.heap.size w w'

set_option maxHeartbeats 4000000 in
set_option maxRecDepth 100000 in
theorem keeps_big1 (k : Nat) (x y z : S24) (A : Option Addr) (c : Nat) (A' : Option Addr) (c' : Nat) (A'' : Option Addr) (c'' : Nat) (w : World)
    (hx : Kd.C k24 w A x.f2.length x.f2) (hy : Kd.C k24 w A' y.f2.length y.f2) (hz : Kd.C k24 w A'' z.f2.length z.f2) (hc : x.f2.length ≤ c) (hc' : y.f2.length ≤ c') (hc'' : z.f2.length ≤ c'')
    (v1 : tenetlaw24_big.f k x.f0 x.f1 x.f2 = some true) :
    Calls Try.prog 4 #[av x A c, av y A' c', av z A'' c''] w (KeepPost w) := by
  have hu24 := Try.underlying24
  have B0 := Lib.hid (Three.start (c := c) (c' := c') (c'' := c'') hx hy hz)
  have V1 := Lib.hid fun w5 (b : Three w w5 x y z A c A' c' A'' c'') => tenetlaw24_big.calls k x.f0 x.f1 A c x.f2 true w5 b.hx hc v1
  clear hx hy hz hc hc' hc'' v1
  go_enter Try.func4, Try.ntmps4
  go_wp2_with (first
    | (go_at_call 7; refine (awake_calls _).mono ?_; rintro e w7 ⟨rfl, hb7⟩; have B7 := Lib.hid (B1.out.next hb7); clear hb7)
    | (go_at_call 6; refine (V1.out _ B0.out).mono ?_; rintro e w3 ⟨rfl, hb3⟩; have B1 := Lib.hid (B0.out.next hb3); clear hb3))
  go_ret
  exact ⟨rfl, B7.out.b⟩
set_option maxHeartbeats 4000000 in
set_option maxRecDepth 100000 in
theorem keeps_big2 (k : Nat) (x y z : S24) (A : Option Addr) (c : Nat) (A' : Option Addr) (c' : Nat) (A'' : Option Addr) (c'' : Nat) (w : World)
    (hx : Kd.C k24 w A x.f2.length x.f2) (hy : Kd.C k24 w A' y.f2.length y.f2) (hz : Kd.C k24 w A'' z.f2.length z.f2) (hc : x.f2.length ≤ c) (hc' : y.f2.length ≤ c') (hc'' : z.f2.length ≤ c'')
    (v1 : tenetlaw24_big.f k x.f0 x.f1 x.f2 = some false) (v2 : tenetlaw24_big.f k y.f0 y.f1 y.f2 = some true) :
    Calls Try.prog 4 #[av x A c, av y A' c', av z A'' c''] w (KeepPost w) := by
  have hu24 := Try.underlying24
  have B0 := Lib.hid (Three.start (c := c) (c' := c') (c'' := c'') hx hy hz)
  have V1 := Lib.hid fun w5 (b : Three w w5 x y z A c A' c' A'' c'') => tenetlaw24_big.calls k x.f0 x.f1 A c x.f2 false w5 b.hx hc v1
  have V2 := Lib.hid fun w5 (b : Three w w5 x y z A c A' c' A'' c'') => tenetlaw24_big.calls k y.f0 y.f1 A' c' y.f2 true w5 b.hy hc' v2
  clear hx hy hz hc hc' hc'' v1 v2
  go_enter Try.func4, Try.ntmps4
  go_wp2_with (first
    | (go_at_call 7; refine (awake_calls _).mono ?_; rintro e w7 ⟨rfl, hb7⟩; have B7 := Lib.hid (B2.out.next hb7); clear hb7)
    | (go_at_call 6; refine (V2.out _ B1.out).mono ?_; rintro e w4 ⟨rfl, hb4⟩; have B2 := Lib.hid (B1.out.next hb4); clear hb4)
    | (go_at_call 6; refine (V1.out _ B0.out).mono ?_; rintro e w3 ⟨rfl, hb3⟩; have B1 := Lib.hid (B0.out.next hb3); have y0 := B1.out.y0; have y1 := B1.out.y1; have y2 := B1.out.y2; clear hb3))
  go_ret
  exact ⟨rfl, B7.out.b⟩
set_option maxHeartbeats 4000000 in
set_option maxRecDepth 100000 in
theorem keeps_big3 (k : Nat) (x y z : S24) (A : Option Addr) (c : Nat) (A' : Option Addr) (c' : Nat) (A'' : Option Addr) (c'' : Nat) (w : World)
    (hx : Kd.C k24 w A x.f2.length x.f2) (hy : Kd.C k24 w A' y.f2.length y.f2) (hz : Kd.C k24 w A'' z.f2.length z.f2) (hc : x.f2.length ≤ c) (hc' : y.f2.length ≤ c') (hc'' : z.f2.length ≤ c'')
    (v1 : tenetlaw24_big.f k x.f0 x.f1 x.f2 = some false) (v2 : tenetlaw24_big.f k y.f0 y.f1 y.f2 = some false) (v3 : tenetlaw24_big.f k z.f0 z.f1 z.f2 = some true) :
    Calls Try.prog 4 #[av x A c, av y A' c', av z A'' c''] w (KeepPost w) := by
  have hu24 := Try.underlying24
  have B0 := Lib.hid (Three.start (c := c) (c' := c') (c'' := c'') hx hy hz)
  have V1 := Lib.hid fun w5 (b : Three w w5 x y z A c A' c' A'' c'') => tenetlaw24_big.calls k x.f0 x.f1 A c x.f2 false w5 b.hx hc v1
  have V2 := Lib.hid fun w5 (b : Three w w5 x y z A c A' c' A'' c'') => tenetlaw24_big.calls k y.f0 y.f1 A' c' y.f2 false w5 b.hy hc' v2
  have V3 := Lib.hid fun w5 (b : Three w w5 x y z A c A' c' A'' c'') => tenetlaw24_big.calls k z.f0 z.f1 A'' c'' z.f2 true w5 b.hz hc'' v3
  clear hx hy hz hc hc' hc'' v1 v2 v3
  go_enter Try.func4, Try.ntmps4
  go_wp2_with (first
    | (go_at_call 7; refine (awake_calls _).mono ?_; rintro e w7 ⟨rfl, hb7⟩; have B7 := Lib.hid (B3.out.next hb7); clear hb7)
    | (go_at_call 6; refine (V3.out _ B2.out).mono ?_; rintro e w5 ⟨rfl, hb5⟩; have B3 := Lib.hid (B2.out.next hb5); clear hb5)
    | (go_at_call 6; refine (V2.out _ B1.out).mono ?_; rintro e w4 ⟨rfl, hb4⟩; have B2 := Lib.hid (B1.out.next hb4); have z0 := B2.out.z0; have z1 := B2.out.z1; have z2 := B2.out.z2; clear hb4)
    | (go_at_call 6; refine (V1.out _ B0.out).mono ?_; rintro e w3 ⟨rfl, hb3⟩; have B1 := Lib.hid (B0.out.next hb3); have y0 := B1.out.y0; have y1 := B1.out.y1; have y2 := B1.out.y2; clear hb3))
  go_ret
  exact ⟨rfl, B7.out.b⟩
set_option maxHeartbeats 4000000 in
set_option maxRecDepth 100000 in
/-- The two are not found equal. -/
theorem keeps_no (k : Nat) (n : Int) (x y z : S24) (A : Option Addr) (c : Nat) (A' : Option Addr) (c' : Nat) (A'' : Option Addr) (c'' : Nat) (w : World)
    (hx : Kd.C k24 w A x.f2.length x.f2) (hy : Kd.C k24 w A' y.f2.length y.f2) (hz : Kd.C k24 w A'' z.f2.length z.f2) (hc : x.f2.length ≤ c) (hc' : y.f2.length ≤ c') (hc'' : z.f2.length ≤ c'')
    (v1 : tenetlaw24_big.f k x.f0 x.f1 x.f2 = some false) (v2 : tenetlaw24_big.f k y.f0 y.f1 y.f2 = some false) (v3 : tenetlaw24_big.f k z.f0 z.f1 z.f2 = some false)
    (q1 : ring_Equal.f k x.f0 x.f1 x.f2 y.f0 y.f1 y.f2 = some (false, n)) (q2 : ring_Equal.f k y.f0 y.f1 y.f2 x.f0 x.f1 x.f2 = some (false, n)) :
    Calls Try.prog 4 #[av x A c, av y A' c', av z A'' c''] w (KeepPost w) := by
  have hu24 := Try.underlying24
  have B0 := Lib.hid (Three.start (c := c) (c' := c') (c'' := c'') hx hy hz)
  have V1 := Lib.hid fun w5 (b : Three w w5 x y z A c A' c' A'' c'') => tenetlaw24_big.calls k x.f0 x.f1 A c x.f2 false w5 b.hx hc v1
  have V2 := Lib.hid fun w5 (b : Three w w5 x y z A c A' c' A'' c'') => tenetlaw24_big.calls k y.f0 y.f1 A' c' y.f2 false w5 b.hy hc' v2
  have V3 := Lib.hid fun w5 (b : Three w w5 x y z A c A' c' A'' c'') => tenetlaw24_big.calls k z.f0 z.f1 A'' c'' z.f2 false w5 b.hz hc'' v3
  have Q1 := Lib.hid fun w5 (b : Three w w5 x y z A c A' c' A'' c'') => ring_Equal.calls k x.f0 x.f1 A c x.f2 y.f0 y.f1 A' c' y.f2 false n w5 b.hx hc b.hy hc' q1
  have Q2 := Lib.hid fun w5 (b : Three w w5 x y z A c A' c' A'' c'') => ring_Equal.calls k y.f0 y.f1 A' c' y.f2 x.f0 x.f1 A c x.f2 false n w5 b.hy hc' b.hx hc q2
  have hnn : (n != n) = false := by simp
  clear hx hy hz hc hc' hc'' v1 v2 v3 q1 q2
  go_enter Try.func4, Try.ntmps4
  go_wp2_with (first
    | (go_at_call 7; refine (awake_calls _).mono ?_; rintro e w7 ⟨rfl, hb7⟩; have B7 := Lib.hid (B5.out.next hb7); clear hb7)
    | (go_at_call 8; refine (Q2.out _ B4.out).mono ?_; rintro e w7 ⟨rfl, hb7⟩; have B5 := Lib.hid (B4.out.next hb7); clear hb7)
    | (go_at_call 8; refine (Q1.out _ B3.out).mono ?_; rintro e w6 ⟨rfl, hb6⟩; have B4 := Lib.hid (B3.out.next hb6); have x0 := B4.out.x0; have x1 := B4.out.x1; have x2 := B4.out.x2; have y0 := B4.out.y0; have y1 := B4.out.y1; have y2 := B4.out.y2; clear hb6)
    | (go_at_call 6; refine (V3.out _ B2.out).mono ?_; rintro e w5 ⟨rfl, hb5⟩; have B3 := Lib.hid (B2.out.next hb5); have x0 := B3.out.x0; have x1 := B3.out.x1; have x2 := B3.out.x2; have y0 := B3.out.y0; have y1 := B3.out.y1; have y2 := B3.out.y2; clear hb5)
    | (go_at_call 6; refine (V2.out _ B1.out).mono ?_; rintro e w4 ⟨rfl, hb4⟩; have B2 := Lib.hid (B1.out.next hb4); have z0 := B2.out.z0; have z1 := B2.out.z1; have z2 := B2.out.z2; clear hb4)
    | (go_at_call 6; refine (V1.out _ B0.out).mono ?_; rintro e w3 ⟨rfl, hb3⟩; have B1 := Lib.hid (B0.out.next hb3); have y0 := B1.out.y0; have y1 := B1.out.y1; have y2 := B1.out.y2; clear hb3))
  go_ret
  exact ⟨rfl, B7.out.b⟩
end Go.Proofs.Ytjnplfbggklkfaa
