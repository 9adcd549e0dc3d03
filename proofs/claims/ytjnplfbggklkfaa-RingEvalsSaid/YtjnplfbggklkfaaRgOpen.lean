/- An expression that is read as an argument: its cells and its slices, in the print's words. -/
import Derived.Test.YtjnplfbggklkfaaRgRight
import Derived.ProofKit
import Derived.OpenShut
import Derived.ChangeOld
namespace Go.Proofs.Ytjnplfbggklkfaa
open Go.RowKit Go.Proofs.YtjnplfbggklkfaaW.PrintWords Go.Proofs.Ytjnplfbggklkfaa.Rg
set_option linter.unusedVariables false
set_option linter.unusedSimpArgs false

section
variable {H : Type} {enc : TypeId × Value → H} {W : World} {spare : Nat → Bool} {held : Bool}
/-- The numbers of an expression are ints. -/
def inI (n : Int) : Prop := -9223372036854775808 ≤ n ∧ n ≤ 9223372036854775807
theorem open24 : ∀ (fuel : Nat) (cs : List Value) (x : DataW H × List MemPlace), DataW.trod enc Try.prog W 0 spare held fuel 24 cs = some x →
    ∃ (s : S24) (A : Option Addr) (c : Nat), cs = [.int .i64 s.f0, .int .i64 s.f1, .slice A s.f2.length c] ∧ s.f2.length ≤ c ∧ Kd.C k24 W A s.f2.length s.f2 := by
  intro fuel
  induction fuel using Nat.strongRecOn with
  | _ fuel ih =>
    intro cs x h
    obtain ⟨xs, n, hn, _, hl, hlen, hf⟩ := DataW.trod_struct Try.underlying24 h
    rw [show Try.prog.cellsOf 24 = 3 by kernel_rfl] at hl
    match cs, hl with
    | [v0, v1, v2], _ =>
      have hx : ∀ i < 3, ∃ y, xs[i]? = some y := fun i hi => ⟨xs[i]'(by rw [hlen]; exact hi), List.getElem?_eq_getElem _⟩
      have c3 : Try.prog.cellsOf 3 = 1 := by kernel_rfl
      have c22 : Try.prog.cellsOf 22 = 1 := by kernel_rfl
      have f0 : DataW.trod enc Try.prog W 0 spare held n 3 (List.take (Try.prog.cellsOf 3) (List.drop 0 [v0, v1, v2])) = xs[0]? := hf 0 (Field.mk "Op" 3 0 false "" "" 0) rfl
      have f1 : DataW.trod enc Try.prog W 0 spare held n 3 (List.take (Try.prog.cellsOf 3) (List.drop 1 [v0, v1, v2])) = xs[1]? := hf 1 (Field.mk "N" 3 1 false "" "" 8) rfl
      have f2 : DataW.trod enc Try.prog W 0 spare held n 22 (List.take (Try.prog.cellsOf 22) (List.drop 2 [v0, v1, v2])) = xs[2]? := hf 2 (Field.mk "L" 22 2 false "" "" 16) rfl
      rw [c3] at f0 f1
      rw [c22] at f2
      obtain ⟨y0, e0⟩ := hx 0 (by omega)
      obtain ⟨y1, e1⟩ := hx 1 (by omega)
      obtain ⟨y2, e2⟩ := hx 2 (by omega)
      rw [e0] at f0
      rw [e1] at f1
      rw [e2] at f2
      obtain ⟨m0, g0, _, _⟩ := DataW.trod_int Try.underlying3 f0
      obtain ⟨m1, g1, _, _⟩ := DataW.trod_int Try.underlying3 f1
      obtain rfl : v0 = .int .i64 m0 := by simpa using g0
      obtain rfl : v1 = .int .i64 m1 := by simpa using g1
      rcases DataW.trod_slice Try.underlying22 f2 with ⟨g2, _⟩ | ⟨a, len, cap, elems, rest, n', hn', g2, _, _, hlc, hcm, hel, hcells, _, _⟩
      · obtain rfl : v2 = .slice none 0 0 := by simpa using g2
        exact ⟨⟨m0, m1, []⟩, none, 0, rfl, Nat.le_refl _, ⟨rfl, by show 0 ≤ 9223372036854775807; omega, fun h => absurd h (show ¬ 0 < 0 by omega)⟩⟩
      · obtain rfl : v2 = .slice (some a) len cap := by simpa using g2
        have hall : ∀ i, i < len → ∃ s : S24, ∃ A c, (∀ j u, ([.int .i64 s.f0, .int .i64 s.f1, .slice A s.f2.length c] : List Value)[j]? = some u → W.cell? (a.add (i * 3 + j)) = some u) ∧ s.f2.length ≤ c ∧ Kd.C k24 W A s.f2.length s.f2 := fun i hi => by
          have hc := hcells i hi
          rw [List.getElem?_eq_getElem (by omega)] at hc
          obtain ⟨cs', h1, h2⟩ := Option.bind_eq_some_iff.1 hc
          obtain ⟨s, A, c, rfl, hle, hC⟩ := ih n' (by omega) cs' _ h2
          refine ⟨s, A, c, fun j u hj => ?_, hle, hC⟩
          obtain ⟨_, hlen', hcell⟩ := World.cells?_some h1
          rw [show Try.prog.cellsOf 24 = 3 by kernel_rfl] at hlen' hcell
          have hj3 : j < 3 := by
            have := (List.getElem?_eq_some_iff.1 hj).1
            simpa using this
          rw [← add_add, hcell j hj3, hj]
        obtain ⟨l, hl2, hget⟩ : ∃ l : List S24, l.length = len ∧ ∀ i s, l[i]? = some s → ∃ A c, (∀ j u, ([.int .i64 s.f0, .int .i64 s.f1, .slice A s.f2.length c] : List Value)[j]? = some u → W.cell? (a.add (i * 3 + j)) = some u) ∧ s.f2.length ≤ c ∧ Kd.C k24 W A s.f2.length s.f2 := by
          clear hcells hel ih hf hx f0 f1 f2
          refine ⟨List.ofFn fun i : Fin len => Classical.choose (hall i.1 i.2), by simp, fun i s hs => ?_⟩
          obtain ⟨hi, e⟩ := List.getElem?_eq_some_iff.1 hs
          have hi' : i < len := by simpa using hi
          rw [List.getElem_ofFn] at e
          subst e
          exact Classical.choose_spec (hall i hi')
        refine ⟨⟨m0, m1, l⟩, some a, cap, by rw [hl2], by rw [hl2]; exact hlc, ?_⟩
        show Kd.C k24 W (some a) l.length l
        have hmx : maxLen ≤ 9223372036854775807 := by decide
        refine ⟨rfl, by omega, fun _ => ⟨a, rfl, fun j p hj => ?_⟩⟩
        obtain ⟨A, c, h1, h2, h3⟩ := hget j p hj
        exact ⟨_, rfl, k24_mk W p h2 h3, h1⟩
theorem arg24 {r : _} {base : Nat} {v : Value} {d : DataW H} {ps : List MemPlace} (hv : Value.okWide Try.prog W r base 24 v) (h : DataW.Trod enc Try.prog W 0 spare held 24 v d ps) :
    ∃ (s : S24) (A : Option Addr) (c : Nat), v = .agg #[.int .i64 s.f0, .int .i64 s.f1, .slice A s.f2.length c] ∧ s.f2.length ≤ c ∧ Kd.C k24 W A s.f2.length s.f2 := by
  obtain ⟨cs, rfl, hs⟩ := Go.WideShapes.okWide_struct Try.underlying24 hv
  obtain ⟨fuel, hf⟩ := h
  obtain ⟨s, A, c, e, h1, h2⟩ := open24 fuel _ _ hf
  refine ⟨s, A, c, ?_, h1, h2⟩
  have e' : cs.toList = [.int .i64 s.f0, .int .i64 s.f1, .slice A s.f2.length c] := e
  congr 1
  rw [← Array.toArray_toList (xs := cs), e']
/-- A slice of ints that is read as an argument. -/
theorem argInts {t : Nat} {base : Nat} {a : Option Addr} {len cap : Nat} {d : DataW H} {ps : List MemPlace} (hu : Try.prog.underlying t = some (.slice 3)) (h : DataW.Trod enc Try.prog W base spare held t (.slice a len cap) d ps) :
    ∃ l : List Int, l.length = len ∧ len ≤ cap ∧ Kd.C (Kd.int .i64) W a len l := by
  obtain ⟨fuel, hf⟩ := h
  have c3 : Try.prog.cellsOf 3 = 1 := by kernel_rfl
  rcases Go.ChangeShapes.open_ints hu Try.underlying3 c3 hf with ⟨hcs, _⟩ | ⟨x, l, c, zs, hcs, _, hl, hm, hz, _, hcell, hwz⟩
  · simp [Value.cells] at hcs
    obtain ⟨rfl, rfl, rfl⟩ := hcs
    exact ⟨[], rfl, Nat.le_refl _, ⟨rfl, by omega, fun h => absurd h (by omega)⟩⟩
  · simp [Value.cells] at hcs
    obtain ⟨rfl, rfl, rfl⟩ := hcs
    have hlz : len ≤ zs.length := by rw [hz]; split <;> omega
    have hmx : maxLen ≤ 9223372036854775807 := by decide
    refine ⟨zs.take len, by simp; omega, hl, ⟨by simp; omega, by omega, fun _ => ⟨x, rfl, fun j p hj => ?_⟩⟩⟩
    rw [List.getElem?_take] at hj
    split at hj
    · rename_i hjl
      refine ⟨[.int .i64 p], rfl, rfl, fun i u hi => ?_⟩
      have hi0 : i = 0 := by
        have := (List.getElem?_eq_some_iff.1 hi).1
        simp at this
        omega
      subst hi0
      obtain rfl : Value.int .i64 p = u := by simpa using hi
      have hc := hcell j (by omega)
      rw [List.getD_eq_getElem?_getD, hj] at hc
      rw [show j * (Kd.int .i64).sz + 0 = j from Nat.mul_one j]
      exact hc
    · cases hj
end
end Go.Proofs.Ytjnplfbggklkfaa
