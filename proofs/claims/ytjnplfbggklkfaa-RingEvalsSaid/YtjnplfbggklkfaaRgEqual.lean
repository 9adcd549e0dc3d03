/- The ring's both and Equal, in the form that the print's texts want. -/
import Derived.Test.YtjnplfbggklkfaaRgVerdict
import Derived.OwnWalk
namespace Go.Proofs.Ytjnplfbggklkfaa
open Go.RowKit Go.Proofs.YtjnplfbggklkfaaW.PrintWords Go.Proofs.Ytjnplfbggklkfaa.Rg
set_option linter.unusedVariables false
set_option linter.unusedSimpArgs false

abbrev box2 (w : World) (x y : S24) (A : Option Addr) (c : Nat) (A' : Option Addr) (c' : Nat) : World :=
  (w.alloc (.cells #[.int .i64 x.f0, .int .i64 x.f1, .slice A x.f2.length c] 24)).alloc (.cells #[.int .i64 y.f0, .int .i64 y.f1, .slice A' y.f2.length c'] 24)
/-- What both walks need of the two boxes, at every later world. -/
structure Boxed (w w2 : World) (x y : S24) (A : Option Addr) (c : Nat) (A' : Option Addr) (c' : Nat) : Prop where
  b : Below w.heap.size w w2
  s : w.heap.size + 2 ≤ w2.heap.size
  x0 : w2.cell? ⟨w.heap.size, 0, none⟩ = some (.int .i64 x.f0)
  x1 : w2.cell? ⟨w.heap.size, 1, none⟩ = some (.int .i64 x.f1)
  x2 : w2.cell? ⟨w.heap.size, 2, none⟩ = some (.slice A x.f2.length c)
  y0 : w2.cell? ⟨w.heap.size + 1, 0, none⟩ = some (.int .i64 y.f0)
  y1 : w2.cell? ⟨w.heap.size + 1, 1, none⟩ = some (.int .i64 y.f1)
  y2 : w2.cell? ⟨w.heap.size + 1, 2, none⟩ = some (.slice A' y.f2.length c')
  hx : Kd.C k24 w2 A x.f2.length x.f2
  hy : Kd.C k24 w2 A' y.f2.length y.f2
theorem Boxed.start {w : World} {x y : S24} {A A' : Option Addr} {c c' : Nat} (hx : Kd.C k24 w A x.f2.length x.f2) (hy : Kd.C k24 w A' y.f2.length y.f2) : Boxed w (box2 w x y A c A' c') x y A c A' c' := by
  have hb : Below w.heap.size w (box2 w x y A c A' c') := ((Below.refl _ _).alloc (Nat.le_refl _) _).alloc (by simp) _
  have h1 := heap_alloc_new w (.cells #[.int .i64 x.f0, .int .i64 x.f1, .slice A x.f2.length c] 24)
  have h2 := heap_alloc_new (w.alloc (.cells #[.int .i64 x.f0, .int .i64 x.f1, .slice A x.f2.length c] 24)) (.cells #[.int .i64 y.f0, .int .i64 y.f1, .slice A' y.f2.length c'] 24)
  have h3 : (box2 w x y A c A' c').heap[w.heap.size]? = some (.cells #[.int .i64 x.f0, .int .i64 x.f1, .slice A x.f2.length c] 24 (0, 0)) := by
    rw [Below.heap_alloc _ _ _ (by simp)]
    exact h1
  have h4 : (box2 w x y A c A' c').heap[w.heap.size + 1]? = some (.cells #[.int .i64 y.f0, .int .i64 y.f1, .slice A' y.f2.length c'] 24 (0, 0)) := by simpa using h2
  exact ⟨hb, by simp, cell_of_row _ _ 0 _ _ _ h3, cell_of_row _ _ 1 _ _ _ h3, cell_of_row _ _ 2 _ _ _ h3, cell_of_row _ _ 0 _ _ _ h4, cell_of_row _ _ 1 _ _ _ h4, cell_of_row _ _ 2 _ _ _ h4, Kd.C_below hx hb, Kd.C_below hy hb⟩
theorem Boxed.next {w w2 w3 : World} {x y : S24} {A A' : Option Addr} {c c' : Nat} (h : Boxed w w2 x y A c A' c') (hb : Below w2.heap.size w2 w3) : Boxed w w3 x y A c A' c' :=
  ⟨below_then' h.b hb, Nat.le_trans h.s hb.size, cellB hb h.x0, cellB hb h.x1, cellB hb h.x2, cellB hb h.y0, cellB hb h.y1, cellB hb h.y2, Kd.C_below h.hx hb, Kd.C_below h.hy hb⟩

def BothPost (w : World) (x y : S24) (e : Ending) (w' : World) : Prop :=
  Below w.heap.size w w' ∧
  ((e = .returned (.tuple #[.map none, .map none, .int .i64 2]) ∧ (Bad x ∨ Bad y)) ∨
   ∃ r1 a r2 b, e = .returned (.tuple #[.map (some r1), .map (some r2), .int .i64 0]) ∧ MapIs w' r1 a ∧ MapIs w' r2 b ∧ Rep a (coef (den x)) ∧ Rep b (coef (den y)) ∧ ¬ Bad x ∧ ¬ Bad y)
set_option maxHeartbeats 4000000 in
set_option maxRecDepth 100000 in
theorem both_good (k : Nat) (x y : S24) (A : Option Addr) (c : Nat) (A' : Option Addr) (c' : Nat) (w : World) (hx : Kd.C k24 w A x.f2.length x.f2) (hy : Kd.C k24 w A' y.f2.length y.f2) (hc : x.f2.length ≤ c) (hc' : y.f2.length ≤ c')
    (v1 : ring_Valid.f k x.f0 x.f1 x.f2 = some true) (v2 : ring_Valid.f k y.f0 y.f1 y.f2 = some true) :
    Calls Try.prog 17 #[.agg #[.int .i64 x.f0, .int .i64 x.f1, .slice A x.f2.length c], .agg #[.int .i64 y.f0, .int .i64 y.f1, .slice A' y.f2.length c']] w (BothPost w x y) := by
  have hu24 := Try.underlying24
  have B0 := Lib.hid (Boxed.start (c := c) (c' := c') hx hy)
  have gx := valid_good v1
  have gy := valid_good v2
  rw [eta24] at gx gy
  have V1 := Lib.hid fun w5 (b : Boxed w w5 x y A c A' c') => ring_Valid.calls k x.f0 x.f1 A c x.f2 true w5 b.hx hc v1
  have V2 := Lib.hid fun w5 (b : Boxed w w5 x y A c A' c') => ring_Valid.calls k y.f0 y.f1 A' c' y.f2 true w5 b.hy hc' v2
  have N1 := Lib.hid fun w5 (b : Boxed w w5 x y A c A' c') => normal_calls gx A c w5 b.hx hc
  have N2 := Lib.hid fun w5 (b : Boxed w w5 x y A c A' c') => normal_calls gy A' c' w5 b.hy hc'
  clear hx hy hc hc' v1 v2 gx gy
  go_enter Try.func17, Try.ntmps17
  go_wp2_with (first
    | (go_at_call 27; refine (N2.out _ B3.out).mono ?_; rintro e w6 ⟨hb6, (⟨rfl, hbad2⟩ | ⟨r2, b, rfl, hr2, m2, p2, nb2⟩)⟩ <;> (have B4 := Lib.hid (B3.out.next hb6); have HB6 := Lib.hid hb6; clear hb6))
    | (go_at_call 27; refine (N1.out _ B2.out).mono ?_; rintro e w5 ⟨hb5, (⟨rfl, hbad1⟩ | ⟨r1, a, rfl, hr1, m1, p1, nb1⟩)⟩ <;> (have B3 := Lib.hid (B2.out.next hb5); have y0 := B3.out.y0; have y1 := B3.out.y1; have y2 := B3.out.y2; clear hb5))
    | (go_at_call 23; refine (V2.out _ B1.out).mono ?_; rintro e w4 ⟨rfl, hb4⟩; have B2 := Lib.hid (B1.out.next hb4); have x0 := B2.out.x0; have x1 := B2.out.x1; have x2 := B2.out.x2; clear hb4)
    | (go_at_call 23; refine (V1.out _ B0.out).mono ?_; rintro e w3 ⟨rfl, hb3⟩; have B1 := Lib.hid (B0.out.next hb3); have y0 := B1.out.y0; have y1 := B1.out.y1; have y2 := B1.out.y2; clear hb3))
  all_goals go_ret3
  all_goals first
    | exact ⟨B4.out.b, .inl ⟨rfl, .inl (by assumption)⟩⟩
    | exact ⟨B4.out.b, .inl ⟨rfl, .inr (by assumption)⟩⟩
    | exact ⟨B4.out.b, .inr ⟨_, _, _, _, rfl, m1.below HB6.out, m2, p1, p2, nb1, nb2⟩⟩
set_option maxHeartbeats 4000000 in
set_option maxRecDepth 100000 in
theorem both_bad2 (k : Nat) (x y : S24) (A : Option Addr) (c : Nat) (A' : Option Addr) (c' : Nat) (w : World) (hx : Kd.C k24 w A x.f2.length x.f2) (hy : Kd.C k24 w A' y.f2.length y.f2) (hc : x.f2.length ≤ c) (hc' : y.f2.length ≤ c')
    (v1 : ring_Valid.f k x.f0 x.f1 x.f2 = some true) (v2 : ring_Valid.f k y.f0 y.f1 y.f2 = some false) :
    Calls Try.prog 17 #[.agg #[.int .i64 x.f0, .int .i64 x.f1, .slice A x.f2.length c], .agg #[.int .i64 y.f0, .int .i64 y.f1, .slice A' y.f2.length c']] w fun e w' => e = .returned (.tuple #[.map none, .map none, .int .i64 4]) ∧ Below w.heap.size w w' := by
  have hu24 := Try.underlying24
  have B0 := Lib.hid (Boxed.start (c := c) (c' := c') hx hy)
  have V1 := Lib.hid fun w5 (b : Boxed w w5 x y A c A' c') => ring_Valid.calls k x.f0 x.f1 A c x.f2 true w5 b.hx hc v1
  have V2 := Lib.hid fun w5 (b : Boxed w w5 x y A c A' c') => ring_Valid.calls k y.f0 y.f1 A' c' y.f2 false w5 b.hy hc' v2
  clear hx hy hc hc' v1 v2
  go_enter Try.func17, Try.ntmps17
  go_wp2_with (first
    | (go_at_call 23; refine (V2.out _ B1.out).mono ?_; rintro e w4 ⟨rfl, hb4⟩; have B2 := Lib.hid (B1.out.next hb4); clear hb4)
    | (go_at_call 23; refine (V1.out _ B0.out).mono ?_; rintro e w3 ⟨rfl, hb3⟩; have B1 := Lib.hid (B0.out.next hb3); have y0 := B1.out.y0; have y1 := B1.out.y1; have y2 := B1.out.y2; clear hb3))
  go_ret3
  exact ⟨rfl, B2.out.b⟩
set_option maxHeartbeats 4000000 in
set_option maxRecDepth 100000 in
theorem both_bad1 (k : Nat) (x y : S24) (A : Option Addr) (c : Nat) (A' : Option Addr) (c' : Nat) (w : World) (hx : Kd.C k24 w A x.f2.length x.f2) (hy : Kd.C k24 w A' y.f2.length y.f2) (hc : x.f2.length ≤ c) (hc' : y.f2.length ≤ c')
    (v1 : ring_Valid.f k x.f0 x.f1 x.f2 = some false) :
    Calls Try.prog 17 #[.agg #[.int .i64 x.f0, .int .i64 x.f1, .slice A x.f2.length c], .agg #[.int .i64 y.f0, .int .i64 y.f1, .slice A' y.f2.length c']] w fun e w' => e = .returned (.tuple #[.map none, .map none, .int .i64 4]) ∧ Below w.heap.size w w' := by
  have hu24 := Try.underlying24
  have B0 := Lib.hid (Boxed.start (c := c) (c' := c') hx hy)
  have V1 := Lib.hid fun w5 (b : Boxed w w5 x y A c A' c') => ring_Valid.calls k x.f0 x.f1 A c x.f2 false w5 b.hx hc v1
  clear hx hy hc hc' v1
  go_enter Try.func17, Try.ntmps17
  go_wp2_with (go_at_call 23; refine (V1.out _ B0.out).mono ?_; rintro e w3 ⟨rfl, hb3⟩; have B1 := Lib.hid (B0.out.next hb3); clear hb3)
  go_ret3
  exact ⟨rfl, B1.out.b⟩

set_option maxHeartbeats 4000000 in
set_option maxRecDepth 100000 in
theorem equal_good (k : Nat) (x y : S24) (A : Option Addr) (c : Nat) (A' : Option Addr) (c' : Nat) (w : World) (hx : Kd.C k24 w A x.f2.length x.f2) (hy : Kd.C k24 w A' y.f2.length y.f2) (hc : x.f2.length ≤ c) (hc' : y.f2.length ≤ c')
    (v1 : ring_Valid.f k x.f0 x.f1 x.f2 = some true) (v2 : ring_Valid.f k y.f0 y.f1 y.f2 = some true) :
    Calls Try.prog 8 #[.agg #[.int .i64 x.f0, .int .i64 x.f1, .slice A x.f2.length c], .agg #[.int .i64 y.f0, .int .i64 y.f1, .slice A' y.f2.length c']] w fun e w' => e = .returned (.tuple #[.bool (verdict x y).1, .int .i64 (verdict x y).2]) ∧ Below w.heap.size w w' := by
  have hu24 := Try.underlying24
  have B0' := Boxed.start (c := c) (c' := c') hx hy
  have gx := valid_good v1
  have gy := valid_good v2
  rw [eta24] at gx gy
  have VB := Lib.hid fun (h : Bad x ∨ Bad y) => show verdict x y = (false, 2) by
    unfold verdict
    rw [if_pos (by
      rw [Bool.or_eq_true]
      exact h.imp (badB_iff gx).2 (badB_iff gy).2)]
  have VG := Lib.hid fun (h1 : ¬ Bad x) (h2 : ¬ Bad y) (a b : Asc) (pa : Rep a (coef (den x))) (pb : Rep b (coef (den y))) => show verdict x y = (sameB a b, 0) by
    unfold verdict
    rw [if_neg (by
      rw [Bool.or_eq_true, badB_iff gx, badB_iff gy]
      rintro (h | h)
      · exact h1 h
      · exact h2 h)]
    congr 1
    rw [Bool.eq_iff_iff, sameD_iff, same_rep pa pb]
  have HB := Lib.hid (both_good k x y A c A' c' _ B0'.hx B0'.hy hc hc' v1 v2)
  have B0 := Lib.hid B0'
  clear hx hy hc hc' v1 v2 gx gy B0'
  go_enter Try.func8, Try.ntmps8
  go_wp2_with (first
    | (go_at_call 18; refine (same_calls _ _ _ _ _ m1 m2).mono ?_; rintro e w4 ⟨rfl, hb4⟩; have B2 := Lib.hid (B1.out.next hb4); clear hb4; have VV := Lib.hid (VG.out nb1 nb2 _ _ p1 p2); generalize sameB a b = sb at *)
    | (go_at_call 17; refine HB.out.mono ?_; rintro e w3 ⟨hb3, (⟨rfl, hbad⟩ | ⟨r1, a, r2, b, rfl, m1, m2, p1, p2, nb1, nb2⟩)⟩ <;> (have B1 := Lib.hid (B0.out.next hb3); clear hb3)))
  all_goals go_ret2
  all_goals first
    | exact ⟨by rw [VV.out]; rfl, B2.out.b⟩
    | exact ⟨by rw [VB.out hbad]; rfl, B1.out.b⟩
set_option maxHeartbeats 4000000 in
set_option maxRecDepth 100000 in
theorem equal_bad (x y : S24) (A : Option Addr) (c : Nat) (A' : Option Addr) (c' : Nat) (w : World) (hx : Kd.C k24 w A x.f2.length x.f2) (hy : Kd.C k24 w A' y.f2.length y.f2)
    (h : ∀ w5, Boxed w w5 x y A c A' c' → Calls Try.prog 17 #[.agg #[.int .i64 x.f0, .int .i64 x.f1, .slice A x.f2.length c], .agg #[.int .i64 y.f0, .int .i64 y.f1, .slice A' y.f2.length c']] w5 fun e w' => e = .returned (.tuple #[.map none, .map none, .int .i64 4]) ∧ Below w5.heap.size w5 w') :
    Calls Try.prog 8 #[.agg #[.int .i64 x.f0, .int .i64 x.f1, .slice A x.f2.length c], .agg #[.int .i64 y.f0, .int .i64 y.f1, .slice A' y.f2.length c']] w fun e w' => e = .returned (.tuple #[.bool false, .int .i64 4]) ∧ Below w.heap.size w w' := by
  have hu24 := Try.underlying24
  have B0' := Boxed.start (c := c) (c' := c') hx hy
  have HB := Lib.hid (h _ B0')
  have B0 := Lib.hid B0'
  clear hx hy h B0'
  go_enter Try.func8, Try.ntmps8
  go_wp2_with (go_at_call 17; refine HB.out.mono ?_; rintro e w3 ⟨rfl, hb3⟩; have B1 := Lib.hid (B0.out.next hb3); clear hb3)
  go_ret2
  exact ⟨rfl, B1.out.b⟩

namespace Rg
def ring_Equal.f (k : Nat) (a0_0 a0_1 : Int) (l0_2 : List S24) (a1_0 a1_1 : Int) (l1_2 : List S24) : Option (Bool × Int) :=
  (ring_Valid.f k a0_0 a0_1 l0_2).bind fun v1 => (if v1 = true then ((ring_Valid.f k a1_0 a1_1 l1_2).bind fun v2 => (if v2 = true then (some (verdict ⟨a0_0, a0_1, l0_2⟩ ⟨a1_0, a1_1, l1_2⟩)) else (some (false, 4)))) else (some (false, 4)))
theorem ring_Equal.mono : ∀ a0 a1 a2 a3 a4 a5 k, LeO (ring_Equal.f k a0 a1 a2 a3 a4 a5) (ring_Equal.f (k + 1) a0 a1 a2 a3 a4 a5) := by
  intro a0 a1 a2 a3 a4 a5 k
  unfold ring_Equal.f
  repeat' first
      | (with_reducible exact ring_Valid.mono _ _ _ _)
      | (with_reducible exact LeO.refl _)
      | (with_reducible refine LeO.ite ?_ ?_)
      | (with_reducible refine LeO.bind ?_ (fun _ => ?_))
      | exact ring_Valid.mono _ _ _ _
      | refine LeO.ite ?_ ?_
      | refine LeO.bind ?_ (fun _ => ?_)
theorem ring_Equal.calls (k : Nat) (a0_0 : Int) (a0_1 : Int) (A0_2 : Option Addr) (c0_2 : Nat) (l0_2 : List (S24)) (a1_0 : Int) (a1_1 : Int) (A1_2 : Option Addr) (c1_2 : Nat) (l1_2 : List (S24)) (r1 : Bool) (r2 : Int) (w : World) (hr0_2 : Kd.C k24 w A0_2 l0_2.length l0_2) (hc0_2 : l0_2.length ≤ c0_2) (hr1_2 : Kd.C k24 w A1_2 l1_2.length l1_2) (hc1_2 : l1_2.length ≤ c1_2) (h : ring_Equal.f k a0_0 a0_1 l0_2 a1_0 a1_1 l1_2 = some (r1, r2)) :
    Calls Try.prog 8 #[.agg #[.int .i64 a0_0, .int .i64 a0_1, .slice A0_2 l0_2.length c0_2], .agg #[.int .i64 a1_0, .int .i64 a1_1, .slice A1_2 l1_2.length c1_2]] w fun e w' => e = .returned (.tuple #[.bool r1, .int .i64 r2]) ∧ Below w.heap.size w w' := by
  unfold ring_Equal.f at h
  obtain ⟨v1, e1, h⟩ := Option.bind_eq_some_iff.1 h
  cases v1 with
  | false =>
    rw [if_neg (by decide)] at h
    obtain ⟨rfl, rfl⟩ := Prod.mk.injEq .. ▸ Option.some.inj h
    exact equal_bad ⟨a0_0, a0_1, l0_2⟩ ⟨a1_0, a1_1, l1_2⟩ A0_2 c0_2 A1_2 c1_2 w hr0_2 hr1_2 fun w5 b => both_bad1 k ⟨a0_0, a0_1, l0_2⟩ ⟨a1_0, a1_1, l1_2⟩ A0_2 c0_2 A1_2 c1_2 w5 b.hx b.hy hc0_2 hc1_2 e1
  | true =>
    rw [if_pos rfl] at h
    obtain ⟨v2, e2, h⟩ := Option.bind_eq_some_iff.1 h
    cases v2 with
    | false =>
      rw [if_neg (by decide)] at h
      obtain ⟨rfl, rfl⟩ := Prod.mk.injEq .. ▸ Option.some.inj h
      exact equal_bad ⟨a0_0, a0_1, l0_2⟩ ⟨a1_0, a1_1, l1_2⟩ A0_2 c0_2 A1_2 c1_2 w hr0_2 hr1_2 fun w5 b => both_bad2 k ⟨a0_0, a0_1, l0_2⟩ ⟨a1_0, a1_1, l1_2⟩ A0_2 c0_2 A1_2 c1_2 w5 b.hx b.hy hc0_2 hc1_2 e1 e2
    | true =>
      rw [if_pos rfl] at h
      have hv := Option.some.inj h
      have := equal_good k ⟨a0_0, a0_1, l0_2⟩ ⟨a1_0, a1_1, l1_2⟩ A0_2 c0_2 A1_2 c1_2 w hr0_2 hr1_2 hc0_2 hc1_2 e1 e2
      rw [hv] at this
      exact this
end Rg
end Go.Proofs.Ytjnplfbggklkfaa
