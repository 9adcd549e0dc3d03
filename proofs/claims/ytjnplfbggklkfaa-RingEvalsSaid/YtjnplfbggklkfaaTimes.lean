/- math/bits.Mul64, and the ring's times: a product of two coefficients, and whether it is within the limit. -/
import Derived.Test.YtjnplfbggklkfaaAdd
import Derived.Laws.MathBits
namespace Go.Proofs.Ytjnplfbggklkfaa
open Go.RowKit
set_option linter.unusedVariables false
set_option linter.unusedSimpArgs false

theorem wrap_u64 (n : Int) : IntKind.u64.wrap n = n % 18446744073709551616 := by rfl
theorem mul64_val (x y : Int) (hx0 : 0 ≤ x) (hx : x < 18446744073709551616) (hy0 : 0 ≤ y) (hy : y < 18446744073709551616) :
    (IntKind.u64.wrap ((IntKind.u64.wrap ((IntKind.u64.wrap ((x / 4294967296) * (y / 4294967296))) + ((IntKind.u64.wrap ((IntKind.u64.wrap ((x / 4294967296) * (Go.bits .and .u64 y 4294967295))) + ((IntKind.u64.wrap ((Go.bits .and .u64 x 4294967295) * (Go.bits .and .u64 y 4294967295))) / 4294967296))) / 4294967296))) + ((IntKind.u64.wrap ((Go.bits .and .u64 (IntKind.u64.wrap ((IntKind.u64.wrap ((x / 4294967296) * (Go.bits .and .u64 y 4294967295))) + ((IntKind.u64.wrap ((Go.bits .and .u64 x 4294967295) * (Go.bits .and .u64 y 4294967295))) / 4294967296))) 4294967295) + (IntKind.u64.wrap ((Go.bits .and .u64 x 4294967295) * (y / 4294967296))))) / 4294967296))) = x * y / 18446744073709551616 := by
  rw [and_low32 x hx0 hx, and_low32 y hy0 hy, and_low32 _ (by rw [wrap_u64]; omega) (by rw [wrap_u64]; omega)]
  simp only [wrap_u64]
  exact mul64_arith x y hx0 hx hy0 hy
set_option maxHeartbeats 4000000 in
set_option maxRecDepth 100000 in
theorem mul64_calls (x y : Int) (w : World) (hx0 : 0 ≤ x) (hx : x < 18446744073709551616) (hy0 : 0 ≤ y) (hy : y < 18446744073709551616) :
    Calls Try.prog 45 #[.int .u64 x, .int .u64 y] w fun e w' => e = .returned (.tuple #[.int .u64 (x * y / 18446744073709551616), .int .u64 (x * y % 18446744073709551616)]) ∧ Below w.heap.size w w' := by
  have E := Lib.hid (mul64_val x y hx0 hx hy0 hy)
  clear hx hx0 hy hy0
  go_enter Try.func45, Try.ntmps45
  go_wp2
  go_ret2
  refine ⟨congrArg Ending.returned ?_, Below.refl _ _⟩
  have e2 := wrap_u64 (x * y)
  rw [← E.out, ← e2]
  rfl
def TimesPost (w : World) (p : Int) (e : Ending) (w' : World) : Prop :=
  ∃ n : Int, e = .returned (.tuple #[.int .i64 n, .bool (decide (p ≤ 1000000000000000))]) ∧ (p ≤ 1000000000000000 → n = p) ∧ Below w.heap.size w w'
theorem TimesPost.yes {w w' : World} {p : Int} (h : Below w.heap.size w w') (hp : p ≤ 1000000000000000) : TimesPost w p (.returned (.tuple #[.int .i64 p, .bool true])) w' :=
  ⟨p, by rw [decide_eq_true hp], fun _ => rfl, h⟩
theorem TimesPost.no {w w' : World} {p n : Int} (h : Below w.heap.size w w') (hp : ¬ p ≤ 1000000000000000) : TimesPost w p (.returned (.tuple #[.int .i64 n, .bool false])) w' :=
  ⟨n, by rw [decide_eq_false hp], fun h => absurd h hp, h⟩
set_option maxHeartbeats 4000000 in
set_option maxRecDepth 100000 in
theorem times_calls (x y : Int) (w : World) (hx0 : 0 ≤ x) (hx : x ≤ 1000000000000000) (hy0 : 0 ≤ y) (hy : y ≤ 1000000000000000) :
    Calls Try.prog 41 #[.int .i64 x, .int .i64 y] w (TimesPost w (x * y)) := by
  have hp : 0 ≤ x * y := Int.mul_nonneg hx0 hy0
  have C := mul64_calls x y w hx0 (by omega) hy0 (by omega)
  generalize x * y = p at *
  have e1 : IntKind.u64.wrap x = x := by rw [wrap_u64]; omega
  have e2 : IntKind.u64.wrap y = y := by rw [wrap_u64]; omega
  by_cases h1 : p ≤ 1000000000000000
  · rw [show p / 18446744073709551616 = 0 by omega, show p % 18446744073709551616 = p by omega] at C
    have HC := Lib.hid C
    clear C
    go_enter Try.func41, Try.ntmps41
    go_wp2_with (go_at_call 45; refine HC.out.mono ?_; rintro e w3 ⟨rfl, hb⟩)
    go_ret2
    exact TimesPost.yes hb h1
  · have hh : p / 18446744073709551616 = 0 → ¬ p % 18446744073709551616 ≤ 1000000000000000 := by omega
    generalize p / 18446744073709551616 = hi at *
    generalize p % 18446744073709551616 = lo at *
    have HC := Lib.hid C
    have HP := Lib.hid h1
    clear C hp h1
    by_cases h0 : hi = 0
    · subst h0
      have hl := hh rfl
      have hld : decide (lo ≤ 1000000000000000) = false := decide_eq_false hl
      clear hh hl
      go_enter Try.func41, Try.ntmps41
      go_wp2_with (go_at_call 45; refine HC.out.mono ?_; rintro e w3 ⟨rfl, hb⟩)
      go_ret2
      exact TimesPost.no hb (by have := HP.out; omega)
    · have hz : (hi == 0) = false := beq_eq_false_iff_ne.2 h0
      clear hh h0
      go_enter Try.func41, Try.ntmps41
      go_wp2_with (go_at_call 45; refine HC.out.mono ?_; rintro e w3 ⟨rfl, hb⟩)
      go_ret2
      exact TimesPost.no hb (by have := HP.out; omega)
end Go.Proofs.Ytjnplfbggklkfaa
