/- Products of polynomials as lists of monomials: what a product comes to in whatever order its monomials are met. -/
import Derived.Test.YtjnplfbggklkfaaPoly
namespace Go.Proofs.Ytjnplfbggklkfaa
set_option linter.unusedVariables false
set_option linter.unusedSimpArgs false

/-- The coefficient at a key of a list of monomials, doubles summed up. -/
def coef : Asc → List Int → Int
  | [], _ => 0
  | p :: l, k => (if p.1 = k then p.2 else 0) + coef l k
theorem coef_append (a b : Asc) (k : List Int) : coef (a ++ b) k = coef a k + coef b k := by
  induction a with
  | nil => simp [coef]
  | cons p a ih => simp only [List.cons_append, coef, ih]; omega
theorem coef_perm {a b : Asc} (h : a.Perm b) (k : List Int) : coef a k = coef b k := by
  induction h with
  | nil => rfl
  | cons x _ ih => simp only [coef, ih]
  | swap x y l => simp only [coef]; omega
  | trans _ _ ih1 ih2 => exact ih1.trans ih2
theorem coef_nonneg {a : Asc} (h : ∀ p ∈ a, 0 ≤ p.2) (k : List Int) : 0 ≤ coef a k := by
  induction a with
  | nil => simp [coef]
  | cons p a ih =>
    have h1 := h p (by simp)
    have h2 := ih fun q hq => h q (by simp [hq])
    simp only [coef]
    split <;> omega
theorem coef_none {a : Asc} {k : List Int} (h : k ∉ a.map (·.1)) : coef a k = 0 := by
  induction a with
  | nil => rfl
  | cons p a ih =>
    simp only [List.map_cons, List.mem_cons, not_or] at h
    simp only [coef]
    rw [if_neg (fun e => h.1 e.symm), ih h.2]
    rfl
theorem coef_get {a : Asc} (nd : (a.map (·.1)).Nodup) (k : List Int) : coef a k = getA a k := by
  induction a with
  | nil => rfl
  | cons p a ih =>
    simp only [List.map_cons, List.nodup_cons] at nd
    simp only [coef, getA]
    by_cases e : p.1 = k
    · rw [if_pos e, if_pos e, coef_none (by rw [← e]; exact nd.1)]
      omega
    · rw [if_neg e, if_neg e, ih nd.2]
      omega
def vadd (x y : List Int) : List Int := List.zipWith (· + ·) x y
def mulM (p q : List Int × Int) : List Int × Int := (vadd p.1 q.1, p.2 * q.2)
def mulL (a b : Asc) : Asc := a.flatMap fun p => b.map (mulM p)
theorem mulL_append (a a' b : Asc) : mulL (a ++ a') b = mulL a b ++ mulL a' b := by simp [mulL]
theorem mulL_one (p : List Int × Int) (b : Asc) : mulL [p] b = b.map (mulM p) := by simp [mulL]
theorem flat_perm {α β : Type} {f g : α → List β} (h : ∀ p, (f p).Perm (g p)) : ∀ l : List α, (l.flatMap f).Perm (l.flatMap g)
  | [] => by simp
  | p :: l => by simpa using (h p).append (flat_perm h l)
theorem mulL_perm {a a' b b' : Asc} (h : a.Perm a') (h' : b.Perm b') : (mulL a b).Perm (mulL a' b') := by
  unfold mulL
  exact (List.Perm.flatMap_right _ h).trans (flat_perm (fun p => h'.map _) _)
/-- The entries at these places. -/
def pick (a : Asc) (l : List Nat) : Asc := l.filterMap (a[·]?)
theorem pick_nil (a : Asc) : pick a [] = [] := rfl
theorem pick_snoc {a : Asc} {l : List Nat} {i : Nat} {p : List Int × Int} (h : a[i]? = some p) : pick a (l ++ [i]) = pick a l ++ [p] := by simp [pick, h]
theorem pick_take (a : Asc) : ∀ n, n ≤ a.length → pick a (List.range n) = a.take n
  | 0, _ => by simp [pick]
  | n + 1, h => by
    have h1 : a[n]? = some a[n] := List.getElem?_eq_getElem (by omega)
    rw [List.range_succ, pick_snoc h1, pick_take a n (by omega), List.take_add_one, h1]
    rfl
theorem pick_range (a : Asc) : pick a (List.range a.length) = a := by
  rw [pick_take a _ (Nat.le_refl _), List.take_length]
theorem pick_rest {a : Asc} {l : List Nat} (nd : l.Nodup) (hl : ∀ i ∈ l, i < a.length) : ∃ r, a.Perm (pick a l ++ r) := by
  refine ⟨pick a ((List.range a.length).filter fun i => !l.contains i), ?_⟩
  have hp : (List.range a.length).Perm (l ++ (List.range a.length).filter fun i => !l.contains i) := by
    refine (List.perm_ext_iff_of_nodup List.nodup_range ?_).2 fun i => ?_
    · rw [List.nodup_append]
      refine ⟨nd, List.Pairwise.filter _ List.nodup_range, fun x hx y hy e => ?_⟩
      subst e
      simp [hx] at hy
    · simp only [List.mem_append, List.mem_filter, List.mem_range]
      by_cases hi : i ∈ l
      · simp [hi, hl i hi]
      · simp [hi]
  have h2 := hp.filterMap (fun i => a[i]?)
  rw [List.filterMap_append] at h2
  have h3 := pick_range a
  unfold pick at h3 ⊢
  rwa [h3] at h2
theorem pick_all {a : Asc} {l : List Nat} (nd : l.Nodup) (hl : ∀ i ∈ l, i < a.length) (h : ∀ i, i < a.length → i ∈ l) : a.Perm (pick a l) := by
  have hp : (List.range a.length).Perm l := (List.perm_ext_iff_of_nodup List.nodup_range nd).2 fun i => ⟨fun hi => h i (List.mem_range.1 hi), fun hi => List.mem_range.2 (hl i hi)⟩
  have h2 := hp.filterMap (fun i => a[i]?)
  have h3 := pick_range a
  unfold pick at h3 ⊢
  rwa [h3] at h2
theorem mul_nonneg {a b : Asc} (ha : ∀ p ∈ a, 0 ≤ p.2) (hb : ∀ p ∈ b, 0 ≤ p.2) : ∀ m ∈ mulL a b, 0 ≤ m.2 := by
  intro m hm
  simp only [mulL, List.mem_flatMap, List.mem_map] at hm
  obtain ⟨p, hp, q, hq, rfl⟩ := hm
  exact Int.mul_nonneg (ha p hp) (hb q hq)
/-- What has been met is a part of the whole. -/
theorem part_whole {a b : Asc} (ha : ∀ p ∈ a, 0 ≤ p.2) (hb : ∀ p ∈ b, 0 ≤ p.2) {la lb : List Nat} {i : Nat} {p : List Int × Int} (na : (la ++ [i]).Nodup) (hla : ∀ j ∈ la ++ [i], j < a.length)
    (nb : lb.Nodup) (hlb : ∀ j ∈ lb, j < b.length) (hp : a[i]? = some p) : ∃ r : Asc, (∀ m ∈ r, 0 ≤ m.2) ∧ (mulL a b).Perm (mulL (pick a la) b ++ (pick b lb).map (mulM p) ++ r) := by
  obtain ⟨ra, h1⟩ := pick_rest na hla
  obtain ⟨rb, h2⟩ := pick_rest nb hlb
  rw [pick_snoc hp] at h1
  refine ⟨rb.map (mulM p) ++ mulL ra b, ?_, ?_⟩
  · intro m hm
    have ha' : ∀ q ∈ ra, 0 ≤ q.2 := fun q hq => ha q (h1.mem_iff.2 (by simp [hq]))
    have hb' : ∀ q ∈ rb, 0 ≤ q.2 := fun q hq => hb q (h2.mem_iff.2 (by simp [hq]))
    have hp' := ha p (List.mem_of_getElem? hp)
    rcases List.mem_append.1 hm with hm | hm
    · obtain ⟨q, hq, rfl⟩ := List.mem_map.1 hm
      exact Int.mul_nonneg hp' (hb' q hq)
    · exact mul_nonneg ha' hb m hm
  · refine (mulL_perm h1 (List.Perm.refl b)).trans ?_
    rw [mulL_append, mulL_append, mulL_one]
    have h3 : (b.map (mulM p)).Perm ((pick b lb).map (mulM p) ++ rb.map (mulM p)) := by
      rw [← List.map_append]
      exact h2.map _
    simp only [List.append_assoc]
    refine List.Perm.append_left _ ?_
    rw [← List.append_assoc]
    exact List.Perm.append_right _ h3
theorem part_le_whole {a b : Asc} (ha : ∀ p ∈ a, 0 ≤ p.2) (hb : ∀ p ∈ b, 0 ≤ p.2) {la lb : List Nat} {i : Nat} {p : List Int × Int} (na : (la ++ [i]).Nodup) (hla : ∀ j ∈ la ++ [i], j < a.length)
    (nb : lb.Nodup) (hlb : ∀ j ∈ lb, j < b.length) (hp : a[i]? = some p) (k : List Int) : coef (mulL (pick a la) b ++ (pick b lb).map (mulM p)) k ≤ coef (mulL a b) k := by
  obtain ⟨r, hr, h⟩ := part_whole ha hb na hla nb hlb hp
  rw [coef_perm h, coef_append _ r]
  have := coef_nonneg hr k
  omega
/-- An exponent above the limit somewhere in a product. -/
def Steep (l : Asc) : Prop := ∃ m ∈ l, ∃ v ∈ m.1, 60 < v
def Flat (l : Asc) : Prop := ∀ m ∈ l, ∀ v ∈ m.1, v ≤ 60
end Go.Proofs.Ytjnplfbggklkfaa
