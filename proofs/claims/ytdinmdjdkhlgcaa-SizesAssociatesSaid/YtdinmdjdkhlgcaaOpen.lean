/- A call that is read as an argument: its cells and its slices, in the print's words. -/
import Derived.Test.YtdinmdjdkhlgcaaSz5
import Derived.ProofKit
import Derived.OpenShut
import Derived.ChangeOld
namespace Go.Proofs.Ytdinmdjdkhlgcaa
open Go.RowKit Go.Proofs.YtdinmdjdkhlgcaaW.PrintWords Go.Proofs.Ytdinmdjdkhlgcaa.Sz
set_option linter.unusedVariables false
set_option linter.unusedSimpArgs false

section
variable {H : Type} {enc : TypeId × Value → H} {W : World} {spare : Nat → Bool} {held : Bool}
set_option maxRecDepth 100000 in
theorem open24 {fuel : Nat} {cs : List Value} {x : DataW H × List MemPlace} (h : DataW.trod enc Try.prog W 0 spare held fuel 24 cs = some x) : ∃ s : S24, cs = [.int .i64 s.f0, .int .i64 s.f1, .bool s.f2] := by
  obtain ⟨xs, n, hn, _, hl, hlen, hf⟩ := DataW.trod_struct Try.underlying24 h
  rw [show Try.prog.cellsOf 24 = 3 by kernel_rfl] at hl
  match cs, hl with
  | [v0, v1, v2], _ =>
    have hx : ∀ i < 3, ∃ y, xs[i]? = some y := fun i hi => ⟨xs[i]'(by rw [hlen]; exact hi), List.getElem?_eq_getElem _⟩
    have c3 : Try.prog.cellsOf 3 = 1 := by kernel_rfl
    have c4 : Try.prog.cellsOf 4 = 1 := by kernel_rfl
    have f0 : DataW.trod enc Try.prog W 0 spare held n 3 (List.take (Try.prog.cellsOf 3) (List.drop 0 [v0, v1, v2])) = xs[0]? := hf 0 (Field.mk "From" 3 0 false "" "" 0) rfl
    have f1 : DataW.trod enc Try.prog W 0 spare held n 3 (List.take (Try.prog.cellsOf 3) (List.drop 1 [v0, v1, v2])) = xs[1]? := hf 1 (Field.mk "To" 3 1 false "" "" 8) rfl
    have f2 : DataW.trod enc Try.prog W 0 spare held n 4 (List.take (Try.prog.cellsOf 4) (List.drop 2 [v0, v1, v2])) = xs[2]? := hf 2 (Field.mk "Strict" 4 2 false "" "" 16) rfl
    rw [c3] at f0 f1
    rw [c4] at f2
    obtain ⟨y0, e0⟩ := hx 0 (by omega)
    obtain ⟨y1, e1⟩ := hx 1 (by omega)
    obtain ⟨y2, e2⟩ := hx 2 (by omega)
    rw [e0] at f0
    rw [e1] at f1
    rw [e2] at f2
    obtain ⟨m0, g0, _, _⟩ := DataW.trod_int Try.underlying3 f0
    obtain ⟨m1, g1, _, _⟩ := DataW.trod_int Try.underlying3 f1
    obtain ⟨m2, g2, _⟩ := DataW.trod_bool Try.underlying4 f2
    obtain rfl : v0 = .int .i64 m0 := by simpa using g0
    obtain rfl : v1 = .int .i64 m1 := by simpa using g1
    obtain rfl : v2 = .bool m2 := by simpa using g2
    exact ⟨⟨m0, m1, m2⟩, rfl⟩
set_option maxRecDepth 100000 in
theorem row24 {fuel : Nat} {v : Value} {x : DataW H × List MemPlace} (h : DataW.trod enc Try.prog W 0 spare held fuel 32 [v] = some x) : ∃ (l : List S24) (A : Option Addr) (c : Nat), v = .slice A l.length c ∧ l.length ≤ c ∧ Kd.C k24 W A l.length l := by
  rcases DataW.trod_slice Try.underlying32 h with ⟨g2, _⟩ | ⟨a, len, cap, elems, rest, n', hn', g2, _, _, hlc, hcm, hel, hcells, _, _⟩
  · obtain rfl : v = .slice none 0 0 := by simpa using g2
    exact ⟨[], none, 0, rfl, Nat.le_refl _, ⟨rfl, by show 0 ≤ 9223372036854775807; omega, fun h => absurd h (show ¬ 0 < 0 by omega)⟩⟩
  · obtain rfl : v = .slice (some a) len cap := by simpa using g2
    have hall : ∀ i, i < len → ∃ s : S24, ∀ j u, ([.int .i64 s.f0, .int .i64 s.f1, .bool s.f2] : List Value)[j]? = some u → W.cell? (a.add (i * 3 + j)) = some u := fun i hi => by
      have hc := hcells i hi
      rw [List.getElem?_eq_getElem (by omega)] at hc
      obtain ⟨cs', h1, h2⟩ := Option.bind_eq_some_iff.1 hc
      obtain ⟨s, rfl⟩ := open24 h2
      refine ⟨s, fun j u hj => ?_⟩
      obtain ⟨_, hlen', hcell⟩ := World.cells?_some h1
      rw [show Try.prog.cellsOf 24 = 3 by kernel_rfl] at hlen' hcell
      have hj3 : j < 3 := by
        have := (List.getElem?_eq_some_iff.1 hj).1
        simpa using this
      rw [← add_add, hcell j hj3, hj]
    obtain ⟨l, hl2, hget⟩ : ∃ l : List S24, l.length = len ∧ ∀ i s, l[i]? = some s → ∀ j u, ([.int .i64 s.f0, .int .i64 s.f1, .bool s.f2] : List Value)[j]? = some u → W.cell? (a.add (i * 3 + j)) = some u := by
      clear hcells hel
      refine ⟨List.ofFn fun i : Fin len => Classical.choose (hall i.1 i.2), by simp, fun i s hs => ?_⟩
      obtain ⟨hi, e⟩ := List.getElem?_eq_some_iff.1 hs
      have hi' : i < len := by simpa using hi
      rw [List.getElem_ofFn] at e
      subst e
      exact Classical.choose_spec (hall i hi')
    refine ⟨l, some a, cap, by rw [hl2], by rw [hl2]; exact hlc, ?_⟩
    have hmx : maxLen ≤ 9223372036854775807 := by decide
    refine ⟨rfl, by omega, fun _ => ⟨a, rfl, fun j p hj => ⟨_, rfl, k24_mk W p, hget j p hj⟩⟩⟩
set_option maxRecDepth 100000 in
theorem open34 {fuel : Nat} {cs : List Value} {x : DataW H × List MemPlace} (h : DataW.trod enc Try.prog W 0 spare held fuel 34 cs = some x) :
    ∃ (s : S34) (A : Option Addr) (c : Nat), cs = [.string s.f0, .string s.f1, .slice A s.f2.length c] ∧ s.f2.length ≤ c ∧ Kd.C k24 W A s.f2.length s.f2 := by
  obtain ⟨xs, n, hn, _, hl, hlen, hf⟩ := DataW.trod_struct Try.underlying34 h
  rw [show Try.prog.cellsOf 34 = 3 by kernel_rfl] at hl
  match cs, hl with
  | [v0, v1, v2], _ =>
    have hx : ∀ i < 3, ∃ y, xs[i]? = some y := fun i hi => ⟨xs[i]'(by rw [hlen]; exact hi), List.getElem?_eq_getElem _⟩
    have c9 : Try.prog.cellsOf 9 = 1 := by kernel_rfl
    have c32 : Try.prog.cellsOf 32 = 1 := by kernel_rfl
    have f0 : DataW.trod enc Try.prog W 0 spare held n 9 (List.take (Try.prog.cellsOf 9) (List.drop 0 [v0, v1, v2])) = xs[0]? := hf 0 (Field.mk "From" 9 0 false "" "" 0) rfl
    have f1 : DataW.trod enc Try.prog W 0 spare held n 9 (List.take (Try.prog.cellsOf 9) (List.drop 1 [v0, v1, v2])) = xs[1]? := hf 1 (Field.mk "To" 9 1 false "" "" 16) rfl
    have f2 : DataW.trod enc Try.prog W 0 spare held n 32 (List.take (Try.prog.cellsOf 32) (List.drop 2 [v0, v1, v2])) = xs[2]? := hf 2 (Field.mk "Arcs" 32 2 false "" "" 32) rfl
    rw [c9] at f0 f1
    rw [c32] at f2
    obtain ⟨y0, e0⟩ := hx 0 (by omega)
    obtain ⟨y1, e1⟩ := hx 1 (by omega)
    obtain ⟨y2, e2⟩ := hx 2 (by omega)
    rw [e0] at f0
    rw [e1] at f1
    rw [e2] at f2
    obtain ⟨m0, g0, _⟩ := DataW.trod_string Try.underlying9 f0
    obtain ⟨m1, g1, _⟩ := DataW.trod_string Try.underlying9 f1
    obtain rfl : v0 = .string m0 := by simpa using g0
    obtain rfl : v1 = .string m1 := by simpa using g1
    obtain ⟨l, A, c, g2, h2, h3⟩ := row24 (v := v2) (by simpa using f2)
    subst g2
    exact ⟨⟨m0, m1, l⟩, A, c, rfl, h2, h3⟩
set_option maxRecDepth 100000 in
theorem arg34 {r : _} {base : Nat} {v : Value} {d : DataW H} {ps : List MemPlace} (hv : Value.okWide Try.prog W r base 34 v) (h : DataW.Trod enc Try.prog W 0 spare held 34 v d ps) :
    ∃ (s : S34) (A : Option Addr) (c : Nat), v = .agg #[.string s.f0, .string s.f1, .slice A s.f2.length c] ∧ s.f2.length ≤ c ∧ Kd.C k24 W A s.f2.length s.f2 := by
  obtain ⟨cs, rfl, hs⟩ := Go.WideShapes.okWide_struct Try.underlying34 hv
  obtain ⟨fuel, hf⟩ := h
  obtain ⟨s, A, c, e, h1, h2⟩ := open34 hf
  refine ⟨s, A, c, ?_, h1, h2⟩
  have e' : cs.toList = [.string s.f0, .string s.f1, .slice A s.f2.length c] := e
  congr 1
  rw [← Array.toArray_toList (xs := cs), e']

set_option maxRecDepth 100000 in
theorem row34 {base : Nat} {a : Option Addr} {len cap : Nat} {d : DataW H} {ps : List MemPlace} (h : DataW.Trod enc Try.prog W 0 spare held 22 (.slice a len cap) d ps) :
    ∃ l : List S34, l.length = len ∧ len ≤ cap ∧ Kd.C k34 W a len l := by
  obtain ⟨fuel, hf⟩ := h
  rcases DataW.trod_slice Try.underlying22 hf with ⟨g2, _⟩ | ⟨a', len', cap', elems, rest, n', hn', g2, _, _, hlc, hcm, hel, hcells, _, _⟩
  · have g2 : (.slice a len cap : Value) = .slice none 0 0 := by simpa [Value.cells] using g2
    injection g2 with k1 k2 k3
    subst k1 k2 k3
    exact ⟨[], rfl, Nat.le_refl _, ⟨rfl, by omega, fun h => absurd h (by omega)⟩⟩
  · have g2 : (.slice a len cap : Value) = .slice (some a') len' cap' := by simpa [Value.cells] using g2
    injection g2 with k1 k2 k3
    subst k1 k2 k3
    have hall : ∀ i, i < len → ∃ s : S34, ∃ A c, (∀ j u, ([.string s.f0, .string s.f1, .slice A s.f2.length c] : List Value)[j]? = some u → W.cell? (a'.add (i * 3 + j)) = some u) ∧ s.f2.length ≤ c ∧ Kd.C k24 W A s.f2.length s.f2 := fun i hi => by
      have hc := hcells i hi
      rw [List.getElem?_eq_getElem (by omega)] at hc
      obtain ⟨cs', h1, h2⟩ := Option.bind_eq_some_iff.1 hc
      obtain ⟨s, A, c, rfl, hle, hC⟩ := open34 h2
      refine ⟨s, A, c, fun j u hj => ?_, hle, hC⟩
      obtain ⟨_, hlen', hcell⟩ := World.cells?_some h1
      rw [show Try.prog.cellsOf 34 = 3 by kernel_rfl] at hlen' hcell
      have hj3 : j < 3 := by
        have := (List.getElem?_eq_some_iff.1 hj).1
        simpa using this
      rw [← add_add, hcell j hj3, hj]
    obtain ⟨l, hl2, hget⟩ : ∃ l : List S34, l.length = len ∧ ∀ i s, l[i]? = some s → ∃ A c, (∀ j u, ([.string s.f0, .string s.f1, .slice A s.f2.length c] : List Value)[j]? = some u → W.cell? (a'.add (i * 3 + j)) = some u) ∧ s.f2.length ≤ c ∧ Kd.C k24 W A s.f2.length s.f2 := by
      clear hcells hel
      refine ⟨List.ofFn fun i : Fin len => Classical.choose (hall i.1 i.2), by simp, fun i s hs => ?_⟩
      obtain ⟨hi, e⟩ := List.getElem?_eq_some_iff.1 hs
      have hi' : i < len := by simpa using hi
      rw [List.getElem_ofFn] at e
      subst e
      exact Classical.choose_spec (hall i hi')
    refine ⟨l, hl2, hlc, ?_⟩
    have hmx : maxLen ≤ 9223372036854775807 := by decide
    refine ⟨hl2, by omega, fun _ => ⟨a', rfl, fun j p hj => ?_⟩⟩
    obtain ⟨A, c, h1, h2, h3⟩ := hget j p hj
    exact ⟨_, rfl, k34_mk W p h2 h3, h1⟩
end
end Go.Proofs.Ytdinmdjdkhlgcaa
