/- Polynomials as functions from exponent vectors to coefficients, and the maps that stand for them: no program here. -/
import Derived.Test.YtjnplfbggklkfaaMap
namespace Go.Proofs.Ytjnplfbggklkfaa
set_option linter.unusedVariables false
set_option linter.unusedSimpArgs false

/-- What of a map has been seen, as a function. -/
def part (a : Asc) (seen : List Nat) (k : List Int) : Int := if hasA a k = true ∧ idxA a k ∈ seen then getA a k else 0
def Pos (a : Asc) : Prop := ∀ p ∈ a, 0 < p.2 ∧ p.2 ≤ 1000000000000000 ∧ ∀ v ∈ p.1, 0 ≤ v ∧ v ≤ 60
theorem part_nil (a : Asc) (k : List Int) : part a [] k = 0 := by simp [part]
theorem part_all {a : Asc} {seen : List Nat} (h : ∀ i, i < a.length → i ∈ seen) (k : List Int) : part a seen k = getA a k := by
  unfold part
  cases hh : hasA a k with
  | false => simp [get_none hh]
  | true => simp [h _ (idx_lt hh)]
theorem part_snoc {a : Asc} (nd : (a.map (·.1)).Nodup) {seen : List Nat} {i : Nat} {k0 : List Int} {c : Int} (he : a[i]? = some (k0, c)) (hi : i ∉ seen) (k : List Int) :
    part a (seen ++ [i]) k = part a seen k + if k0 = k then c else 0 := by
  obtain ⟨h1, h2, h3⟩ := idx_only nd he
  unfold part
  by_cases hk : k0 = k
  · subst hk
    simp [h1, h2, h3, hi]
  · rw [if_neg hk, Int.add_zero]
    by_cases hh : hasA a k = true
    · have : idxA a k ≠ i := fun e => by
        have hg := idx_get hh
        rw [e, he] at hg
        injection hg with hg
        injection hg with hg _
        exact hk hg
      simp [hh, this]
    · simp [hh]
theorem get_bounds {a : Asc} (h : Pos a) (k : List Int) : 0 ≤ getA a k ∧ getA a k ≤ 1000000000000000 ∧ (hasA a k = true → 0 < getA a k) := by
  cases hh : hasA a k with
  | false => rw [get_none hh]; simp
  | true =>
    have h1 := (h _ (List.mem_of_getElem? (idx_get hh))).1
    have h2 := (h _ (List.mem_of_getElem? (idx_get hh))).2.1
    simp only at h1 h2
    omega
theorem part_le {a : Asc} (h : Pos a) (seen : List Nat) (k : List Int) : 0 ≤ part a seen k ∧ part a seen k ≤ getA a k := by
  have := get_bounds h k
  unfold part
  split <;> omega
/-- More than a normal form may bear. -/
def Big (f : List Int → Int) : Prop := (∃ k, 1000000000000000 < f k) ∨ ∃ l : List (List Int), l.Nodup ∧ 200 < l.length ∧ ∀ k ∈ l, 0 < f k
theorem Big.mono {f g : List Int → Int} (h : Big f) (hl : ∀ k, f k ≤ g k) : Big g := by
  rcases h with ⟨k, h⟩ | ⟨l, nd, hn, h⟩
  · exact .inl ⟨k, by have := hl k; omega⟩
  · exact .inr ⟨l, nd, hn, fun k hk => by have := h k hk; have := hl k; omega⟩
/-- A map stands for a function. -/
structure Rep (es : Asc) (f : List Int → Int) : Prop where
  nd : (es.map (·.1)).Nodup
  pos : Pos es
  len : es.length ≤ 200
  get : ∀ k, getA es k = f k
theorem Rep.nil : Rep [] (fun _ => 0) := ⟨by simp, (fun p h => by cases h), by simp, fun k => rfl⟩
theorem Rep.congr {es : Asc} {f g : List Int → Int} (h : Rep es f) (he : ∀ k, f k = g k) : Rep es g := ⟨h.nd, h.pos, h.len, fun k => (h.get k).trans (he k)⟩
/-- A monomial is added: it goes well. -/
theorem Rep.add {es : Asc} {f : List Int → Int} (h : Rep es f) {k : List Int} {c : Int} (hk : Vec k) (hks : ∀ v ∈ k, 0 ≤ v ∧ v ≤ 60) (hv : ∀ p ∈ es, Vec p.1) (hc : 0 < c)
    (h1 : getA es k + c ≤ 1000000000000000) (h2 : (setA es k (getA es k + c)).length ≤ 200) : Rep (setA es k (getA es k + c)) (fun k' => f k' + if k = k' then c else 0) := by
  have hb := get_bounds h.pos k
  refine ⟨(set_ok hk hv h.nd).2, fun p hp => ?_, h2, fun k' => ?_⟩
  · have hm : p.1 ∈ (setA es k (getA es k + c)).map (·.1) := List.mem_map.2 ⟨p, hp, rfl⟩
    obtain ⟨j, hj⟩ := List.mem_iff_getElem?.1 hp
    have hi := idx_only (set_ok hk hv h.nd).2 (k := p.1) (c := p.2) (j := j) hj
    have hg := set_get (k := k) (k' := p.1) (c := getA es k + c) h.nd
    rw [hi.2.2] at hg
    rw [hg]
    by_cases e : k = p.1
    · rw [if_pos e]
      exact ⟨by omega, by omega, e ▸ hks⟩
    · rw [if_neg e]
      have hq : hasA es p.1 = true := by
        rw [set_keys] at hm
        refine has_of_mem ?_
        unfold touchA at hm
        cases hh : hasA es k with
        | true => simpa [hh] using hm
        | false =>
          simp [hh] at hm
          rcases hm with ⟨x, hx⟩ | hm
          · exact List.mem_map.2 ⟨(p.1, x), hx, rfl⟩
          · exact absurd hm.symm e
      have hb2 := get_bounds h.pos p.1
      have hb3 := hb2.2.2 hq
      exact ⟨hb3, hb2.2.1, (h.pos _ (List.mem_of_getElem? (idx_get hq))).2.2⟩
  · rw [set_get h.nd]
    by_cases e : k = k'
    · subst e
      simp [h.get]
    · simp [e, h.get]
/-- A monomial is added: it goes wrong, and so the whole would. -/
theorem Rep.add_big {es : Asc} {f g : List Int → Int} (h : Rep es f) {k : List Int} {c : Int} (hk : Vec k) (hv : ∀ p ∈ es, Vec p.1) (hc : 0 < c)
    (hn : ¬ (getA es k + c ≤ 1000000000000000 ∧ (setA es k (getA es k + c)).length ≤ 200)) (hl : ∀ k', f k' + (if k = k' then c else 0) ≤ g k') : Big g := by
  by_cases h1 : getA es k + c ≤ 1000000000000000
  · have h2 : ¬ (setA es k (getA es k + c)).length ≤ 200 := fun h2 => hn ⟨h1, h2⟩
    refine .inr ⟨(setA es k (getA es k + c)).map (·.1), (set_ok hk hv h.nd).2, by simpa using h2, fun k' hm => ?_⟩
    have hl := hl k'
    rw [set_keys] at hm
    by_cases e : k = k'
    · rw [if_pos e] at hl
      have := get_bounds h.pos k'
      rw [h.get] at this
      omega
    · rw [if_neg e] at hl
      have hq : hasA es k' = true := by
        refine has_of_mem ?_
        unfold touchA at hm
        cases hh : hasA es k with
        | true => simpa [hh] using hm
        | false =>
          simp [hh] at hm
          rcases hm with ⟨x, hx⟩ | hm
          · exact List.mem_map.2 ⟨(k', x), hx, rfl⟩
          · exact absurd hm.symm e
      have := (get_bounds h.pos k').2.2 hq
      rw [h.get] at this
      omega
  · refine .inl ⟨k, ?_⟩
    have := hl k
    rw [if_pos rfl] at this
    rw [h.get] at h1
    omega
end Go.Proofs.Ytjnplfbggklkfaa
