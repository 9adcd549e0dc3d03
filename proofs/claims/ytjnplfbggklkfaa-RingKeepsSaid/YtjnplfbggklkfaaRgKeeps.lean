/- The law RingKeeps: with what the program answers, in plain words, and the row. -/
import Derived.Test.YtjnplfbggklkfaaRgKeepsYes
import Derived.Test.YtjnplfbggklkfaaRgSize
namespace Go.Proofs.Ytjnplfbggklkfaa
open Go.RowKit Go.Proofs.YtjnplfbggklkfaaW.PrintWords Go.Proofs.Ytjnplfbggklkfaa.Rg
set_option linter.unusedVariables false
set_option linter.unusedSimpArgs false

/-- What Equal answers. -/
def answer (x y : S24) : Bool × Int := if validB x = true then (if validB y = true then verdict x y else (false, 4)) else (false, 4)
theorem Equal_eq {x y : S24} (hx : nodes x ≤ 1000000) (hy : nodes y ≤ 1000000) : Ev fun k => ring_Equal.f k x.f0 x.f1 x.f2 y.f0 y.f1 y.f2 = some (answer x y) := by
  refine ((Valid_eq hx).and (Valid_eq hy)).mono fun k ⟨e1, e2⟩ => ?_
  unfold ring_Equal.f answer
  rw [e1, e2, Option.bind_some, eta24, eta24]
  cases validB x <;> cases validB y <;> rfl
theorem verdict_comm (x y : S24) : verdict x y = verdict y x := by
  unfold verdict
  rw [Bool.or_comm]
  have : sameD (den x) (den y) = sameD (den y) (den x) := by
    rw [Bool.eq_iff_iff, sameD_iff, sameD_iff]
    exact ⟨fun h k => (h k).symm, fun h k => (h k).symm⟩
  rw [this]
theorem answer_comm (x y : S24) : answer x y = answer y x := by
  unfold answer
  rw [verdict_comm]
  cases validB x <;> cases validB y <;> rfl
theorem answer_cases (x y : S24) : (answer x y = (true, 0) ∧ ∀ k, coef (den x) k = coef (den y) k) ∨ (∃ n, answer x y = (false, n)) := by
  unfold answer
  cases validB x with
  | false => exact .inr ⟨4, rfl⟩
  | true =>
    cases validB y with
    | false => exact .inr ⟨4, rfl⟩
    | true =>
      simp only [if_true]
      unfold verdict
      split
      · exact .inr ⟨2, rfl⟩
      · cases h : sameD (den x) (den y) with
        | true => exact .inl ⟨rfl, (sameD_iff _ _).1 h⟩
        | false => exact .inr ⟨0, rfl⟩
/-- Of the same coefficients: found equal, or an error. -/
theorem answer_same {x y : S24} (h : ∀ k, coef (den x) k = coef (den y) k) : (answer x y).1 = true ∨ (answer x y).2 ≠ 0 := by
  unfold answer
  cases validB x with
  | false => exact .inr (show (4 : Int) ≠ 0 by decide)
  | true =>
    cases validB y with
    | false => exact .inr (show (4 : Int) ≠ 0 by decide)
    | true =>
      simp only [if_true]
      unfold verdict
      split
      · exact .inr (show (2 : Int) ≠ 0 by decide)
      · exact .inl ((sameD_iff _ _).2 h)
theorem vadd_comm (u v : List Int) : vadd u v = vadd v u := by
  unfold vadd
  rw [List.zipWith_comm]
  congr 1
  funext a b
  exact Int.add_comm _ _
theorem sumW_add (a : Asc) (f g : List Int → Int) : sumW a (fun u => f u + g u) = sumW a f + sumW a g := by
  induction a with
  | nil => rfl
  | cons p a ih =>
    simp only [sumW, ih, Int.mul_add]
    omega
theorem sumW_mul (a : Asc) (c : Int) (f : List Int → Int) : sumW a (fun u => c * f u) = c * sumW a f := by
  induction a with
  | nil => simp [sumW]
  | cons p a ih =>
    simp only [sumW, ih, Int.mul_add]
    congr 1
    rw [← Int.mul_assoc, ← Int.mul_assoc, Int.mul_comm p.2 c]
theorem sumW_zero (a : Asc) : sumW a (fun _ => 0) = 0 := by
  induction a with
  | nil => rfl
  | cons p a ih => simp only [sumW, ih, Int.mul_zero]; rfl
theorem sumW_swap (a b : Asc) (f : List Int → List Int → Int) : sumW a (fun u => sumW b (fun v => f u v)) = sumW b (fun v => sumW a (fun u => f u v)) := by
  induction a with
  | nil => simp only [sumW, sumW_zero]
  | cons p a ih => simp only [sumW, sumW_add, sumW_mul, ih]
theorem mul_comm_coef (a b : Asc) (k : List Int) : coef (mulL a b) k = coef (mulL b a) k := by
  rw [coef_mul, coef_mul, sumW_swap]
  congr 1
  funext v
  congr 1
  funext u
  rw [vadd_comm]
theorem den_add (x y : S24) : den ⟨3, 0, [x, y]⟩ = den x ++ den y := by
  rw [den, denL, denL, denL]
  rfl
theorem den_mul (x y : S24) : den ⟨4, 0, [x, y]⟩ = mulL (den x) (den y) := by
  rw [den, denL, denL, denL]
  rfl
theorem keeps_add {x y z : S24} (h : ∀ k, coef (den x) k = coef (den y) k) (k : List Int) : coef (den ⟨3, 0, [x, z]⟩) k = coef (den ⟨3, 0, [z, y]⟩) k := by
  rw [den_add, den_add, coef_append, coef_append, h]
  omega
theorem keeps_mul {x y z : S24} (h : ∀ k, coef (den x) k = coef (den y) k) (k : List Int) : coef (den ⟨4, 0, [z, x]⟩) k = coef (den ⟨4, 0, [y, z]⟩) k := by
  rw [den_mul, den_mul, mul_comm_coef (den y), mul_congr (fun _ => rfl) h]
theorem nodes2 (o n : Int) (x y : S24) : nodes ⟨o, n, [x, y]⟩ = 1 + (nodes x + nodes y) := by
  rw [nodes, nodesL, nodesL, nodesL]
  omega
theorem keeps_calls (x y z : S24) (A : Option Addr) (c : Nat) (A' : Option Addr) (c' : Nat) (A'' : Option Addr) (c'' : Nat) (w : World)
    (hx : Kd.C k24 w A x.f2.length x.f2) (hy : Kd.C k24 w A' y.f2.length y.f2) (hz : Kd.C k24 w A'' z.f2.length z.f2) (hc : x.f2.length ≤ c) (hc' : y.f2.length ≤ c') (hc'' : z.f2.length ≤ c'') :
    Calls Try.prog 4 #[av x A c, av y A' c', av z A'' c''] w (KeepPost w) := by
  by_cases bx : 400 < nodes x
  · obtain ⟨k, e⟩ := (big_eq x).one
    rw [decide_eq_true bx] at e
    exact keeps_big1 k x y z A c A' c' A'' c'' w hx hy hz hc hc' hc'' e
  · by_cases bY : 400 < nodes y
    · obtain ⟨k, e, e'⟩ := ((big_eq x).and (big_eq y)).one
      rw [decide_eq_false bx] at e
      rw [decide_eq_true bY] at e'
      exact keeps_big2 k x y z A c A' c' A'' c'' w hx hy hz hc hc' hc'' e e'
    · by_cases bz : 400 < nodes z
      · obtain ⟨k, e, e', e''⟩ := ((big_eq x).and ((big_eq y).and (big_eq z))).one
        rw [decide_eq_false bx] at e
        rw [decide_eq_false bY] at e'
        rw [decide_eq_true bz] at e''
        exact keeps_big3 k x y z A c A' c' A'' c'' w hx hy hz hc hc' hc'' e e' e''
      · have n3 := nodes2 3 0 x z
        have n4 := nodes2 3 0 z y
        have n5 := nodes2 4 0 z x
        have n6 := nodes2 4 0 y z
        obtain ⟨k, ⟨e, e', e''⟩, q1, q2, q3, q4⟩ := (((big_eq x).and ((big_eq y).and (big_eq z))).and ((Equal_eq (x := x) (y := y) (by omega) (by omega)).and ((Equal_eq (x := y) (y := x) (by omega) (by omega)).and
          ((Equal_eq (x := ⟨3, 0, [x, z]⟩) (y := ⟨3, 0, [z, y]⟩) (by omega) (by omega)).and (Equal_eq (x := ⟨4, 0, [z, x]⟩) (y := ⟨4, 0, [y, z]⟩) (by omega) (by omega)))))).one
        rw [decide_eq_false bx] at e
        rw [decide_eq_false bY] at e'
        rw [decide_eq_false bz] at e''
        rw [answer_comm y x] at q2
        rcases answer_cases x y with ⟨h, hs⟩ | ⟨n, h⟩
        · rw [h] at q1 q2
          exact keeps_yes k (answer ⟨3, 0, [x, z]⟩ ⟨3, 0, [z, y]⟩).1 (answer ⟨4, 0, [z, x]⟩ ⟨4, 0, [y, z]⟩).1 (answer ⟨3, 0, [x, z]⟩ ⟨3, 0, [z, y]⟩).2 (answer ⟨4, 0, [z, x]⟩ ⟨4, 0, [y, z]⟩).2 x y z A c A' c' A'' c'' w hx hy hz hc hc' hc'' e e' e'' q1 q2 q3 q4
            (answer_same (keeps_add hs)) (answer_same (keeps_mul hs))
        · rw [h] at q1 q2
          exact keeps_no k n x y z A c A' c' A'' c'' w hx hy hz hc hc' hc'' e e' e'' q1 q2
end Go.Proofs.Ytjnplfbggklkfaa
