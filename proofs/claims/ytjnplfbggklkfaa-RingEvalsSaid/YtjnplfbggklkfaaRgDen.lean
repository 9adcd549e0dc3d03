/- What an expression of the ring is as a list of monomials, and when a limit is passed on the way: no program here. -/
import Derived.Test.YtjnplfbggklkfaaRg0
import Derived.Test.YtjnplfbggklkfaaConv
namespace Go.Proofs.Ytjnplfbggklkfaa
set_option linter.unusedVariables false
set_option linter.unusedSimpArgs false

/-! ### Products hang on coefficients alone -/
def sumW (a : Asc) (h : List Int → Int) : Int := match a with
  | [] => 0
  | p :: l => p.2 * h p.1 + sumW l h
def ddup : List (List Int) → List (List Int)
  | [] => []
  | x :: l => if x ∈ ddup l then ddup l else x :: ddup l
theorem mem_ddup {l : List (List Int)} {k : List Int} : k ∈ ddup l ↔ k ∈ l := by
  induction l generalizing k with
  | nil => simp [ddup]
  | cons x l ih =>
    unfold ddup
    split
    · rename_i h
      rw [ih] at h ⊢
      constructor
      · exact fun hk => by simp [hk]
      · intro hk
        rcases List.mem_cons.1 hk with rfl | hk
        · exact h
        · exact hk
    · simp [ih]
theorem ddup_nd (l : List (List Int)) : (ddup l).Nodup := by
  induction l with
  | nil => simp [ddup]
  | cons x l ih =>
    unfold ddup
    split
    · exact ih
    · rename_i h
      exact List.nodup_cons.2 ⟨h, ih⟩
def sumK (K : List (List Int)) (f : List Int → Int) : Int := match K with
  | [] => 0
  | k :: l => f k + sumK l f
theorem sumK_congr {K : List (List Int)} {f g : List Int → Int} (h : ∀ k ∈ K, f k = g k) : sumK K f = sumK K g := by
  induction K with
  | nil => rfl
  | cons k l ih =>
    simp only [sumK]
    rw [h k (by simp), ih fun k hk => h k (by simp [hk])]
theorem sumK_add (K : List (List Int)) (f g : List Int → Int) : sumK K (fun k => f k + g k) = sumK K f + sumK K g := by
  induction K with
  | nil => rfl
  | cons k l ih => simp only [sumK, ih]; omega
theorem sumK_one {K : List (List Int)} (nd : K.Nodup) (u : List Int) (c : Int) (h : List Int → Int) : sumK K (fun k => (if u = k then c else 0) * h k) = if u ∈ K then c * h u else 0 := by
  induction K with
  | nil => simp [sumK]
  | cons k l ih =>
    obtain ⟨h1, h2⟩ := List.nodup_cons.1 nd
    simp only [sumK, ih h2]
    by_cases e : u = k
    · subst e
      simp [h1]
    · rw [if_neg e]
      simp [e]
theorem sumW_K {K : List (List Int)} (nd : K.Nodup) : ∀ (a : Asc), (∀ p ∈ a, p.1 ∈ K) → ∀ h : List Int → Int, sumW a h = sumK K (fun k => coef a k * h k)
  | [], _, h => by
    simp only [sumW, coef]
    have : ∀ L : List (List Int), sumK L (fun k => (0 : Int) * h k) = 0 := fun L => by
      induction L with
      | nil => rfl
      | cons k l ih =>
        have e : sumK (k :: l) (fun k => (0 : Int) * h k) = 0 * h k + sumK l (fun k => (0 : Int) * h k) := rfl
        rw [e, ih, Int.zero_mul]
        rfl
    rw [this]
  | p :: a, hk, h => by
    simp only [sumW, coef]
    have h1 : sumK K (fun k => ((if p.1 = k then p.2 else 0) + coef a k) * h k) = sumK K (fun k => (if p.1 = k then p.2 else 0) * h k + coef a k * h k) :=
      sumK_congr fun k _ => Int.add_mul _ _ _
    rw [h1, sumK_add, sumK_one nd, if_pos (hk p (by simp)), sumW_K nd a (fun q hq => hk q (by simp [hq])) h]
theorem sumW_congr {a b : Asc} (hab : ∀ k, coef a k = coef b k) (h : List Int → Int) : sumW a h = sumW b h := by
  have nd := ddup_nd (a.map (·.1) ++ b.map (·.1))
  rw [sumW_K nd a (fun p hp => mem_ddup.2 (by simp; exact .inl ⟨p.2, hp⟩)) h, sumW_K nd b (fun p hp => mem_ddup.2 (by simp; exact .inr ⟨p.2, hp⟩)) h]
  exact sumK_congr fun k _ => by rw [hab]
theorem coef_map (p : List Int × Int) (b : Asc) (k : List Int) : coef (b.map (mulM p)) k = p.2 * sumW b (fun u => if vadd p.1 u = k then 1 else 0) := by
  induction b with
  | nil => simp [coef, sumW]
  | cons q b ih =>
    simp only [List.map_cons, coef, sumW, ih, mulM, Int.mul_add]
    split <;> simp
theorem coef_mul (a b : Asc) (k : List Int) : coef (mulL a b) k = sumW a (fun u => sumW b (fun v => if vadd u v = k then 1 else 0)) := by
  induction a with
  | nil => simp [mulL, coef, sumW]
  | cons p a ih =>
    have : mulL (p :: a) b = b.map (mulM p) ++ mulL a b := rfl
    rw [this, coef_append, coef_map, ih]
    rfl
theorem mul_congr {a a' b b' : Asc} (ha : ∀ k, coef a k = coef a' k) (hb : ∀ k, coef b k = coef b' k) (k : List Int) : coef (mulL a b) k = coef (mulL a' b') k := by
  rw [coef_mul, coef_mul, sumW_congr ha]
  congr 1
  funext u
  exact sumW_congr hb _
/-- All coefficients above 0. -/
def Plus (a : Asc) : Prop := ∀ p ∈ a, 0 < p.2
theorem Plus.nn {a : Asc} (h : Plus a) : ∀ p ∈ a, 0 ≤ p.2 := fun p hp => Int.le_of_lt (h p hp)
theorem coef_pos {a : Asc} (h : Plus a) {k : List Int} : 0 < coef a k ↔ k ∈ a.map (·.1) := by
  constructor
  · intro hk
    by_cases hm : k ∈ a.map (·.1)
    · exact hm
    · rw [coef_none hm] at hk
      omega
  · intro hm
    induction a with
    | nil => simp at hm
    | cons p a ih =>
      have h1 := h p (by simp)
      have h2 := coef_nonneg (a := a) (fun q hq => Int.le_of_lt (h q (by simp [hq]))) k
      simp only [coef]
      rw [List.map_cons, List.mem_cons] at hm
      rcases hm with hm | hm
      · rw [if_pos hm.symm]
        omega
      · have := ih (fun q hq => h q (by simp [hq])) hm
        split <;> omega
theorem steep_iff {a b : Asc} (ha : Plus a) (hb : Plus b) : Steep (mulL a b) ↔ ∃ u v : List Int, 0 < coef a u ∧ 0 < coef b v ∧ ∃ x ∈ vadd u v, 60 < x := by
  constructor
  · rintro ⟨m, hm, x, hx, h⟩
    simp only [mulL, List.mem_flatMap, List.mem_map] at hm
    obtain ⟨p, hp, q, hq, rfl⟩ := hm
    exact ⟨p.1, q.1, (coef_pos ha).2 (List.mem_map.2 ⟨p, hp, rfl⟩), (coef_pos hb).2 (List.mem_map.2 ⟨q, hq, rfl⟩), x, hx, h⟩
  · rintro ⟨u, v, h1, h2, x, hx, h⟩
    obtain ⟨p, hp, rfl⟩ := List.mem_map.1 ((coef_pos ha).1 h1)
    obtain ⟨q, hq, rfl⟩ := List.mem_map.1 ((coef_pos hb).1 h2)
    refine ⟨mulM p q, ?_, x, hx, h⟩
    simp only [mulL, List.mem_flatMap, List.mem_map]
    exact ⟨p, hp, q, hq, rfl⟩
theorem steep_congr {a a' b b' : Asc} (pa : Plus a) (pa' : Plus a') (pb : Plus b) (pb' : Plus b') (ha : ∀ k, coef a k = coef a' k) (hb : ∀ k, coef b k = coef b' k) : Steep (mulL a b) ↔ Steep (mulL a' b') := by
  rw [steep_iff pa pb, steep_iff pa' pb']
  simp only [ha, hb]
theorem mul_plus {a b : Asc} (ha : Plus a) (hb : Plus b) : Plus (mulL a b) := by
  intro m hm
  simp only [mulL, List.mem_flatMap, List.mem_map] at hm
  obtain ⟨p, hp, q, hq, rfl⟩ := hm
  exact Int.mul_pos (ha p hp) (hb q hq)
theorem Flat.not_steep {a : Asc} (h : Flat a) : ¬ Steep a := fun ⟨m, hm, v, hv, hx⟩ => by have := h m hm v hv; omega
theorem Big.congr {f g : List Int → Int} (h : Big f) (he : ∀ k, f k = g k) : Big g := h.mono fun k => by rw [he]; exact Int.le_refl _
theorem nodup_le {α : Type} [DecidableEq α] : ∀ {l m : List α}, l.Nodup → l ⊆ m → l.length ≤ m.length
  | [], m, _, _ => by simp
  | a :: l, m, nd, h => by
    obtain ⟨h1, h2⟩ := List.nodup_cons.1 nd
    have hm : a ∈ m := h (by simp)
    have := nodup_le (l := l) (m := m.erase a) h2 fun x hx => (List.mem_erase_of_ne (fun e => h1 (by rw [← e]; exact hx))).2 (h (by simp [hx]))
    rw [List.length_erase_of_mem hm] at this
    have := List.length_pos_of_mem hm
    simp only [List.length_cons]
    omega
/-- A map that stands for a function: the function is within the limits. -/
theorem Rep.not_big {es : Asc} {f : List Int → Int} (h : Rep es f) : ¬ Big f := by
  rintro (⟨k, hk⟩ | ⟨l, nd, hn, hl⟩)
  · have := get_bounds h.pos k
    rw [h.get] at this
    omega
  · have hsub : l ⊆ es.map (·.1) := fun k hk => by
      have := hl k hk
      rw [← h.get] at this
      cases hh : hasA es k with
      | true => exact mem_of_has hh
      | false => rw [get_none hh] at this; omega
    have h1 : l.length ≤ (es.map (·.1)).length := nodup_le nd hsub
    have := h.len
    simp at h1
    omega

/-! ### Expressions -/
open Go.Proofs.Ytjnplfbggklkfaa.Rg (S24)
def zeros8 : List Int := [0, 0, 0, 0, 0, 0, 0, 0]
def unit8 (n : Int) : List Int := zeros8.set n.toNat 1
def joinD (op : Int) (l : List Asc) : Asc := match l with
  | [a, b] => if op = 3 then a ++ b else mulL a b
  | _ => []
mutual
/-- An expression as a list of monomials. -/
def den : S24 → Asc
  | ⟨op, n, l⟩ => if op = 1 then (if n = 0 then [] else [(zeros8, n)]) else if op = 2 then [(unit8 n, 1)] else joinD op (denL l)
def denL : List S24 → List Asc
  | [] => []
  | x :: l => den x :: denL l
end
mutual
/-- The form of an expression, and that its numbers are small. -/
def good : S24 → Bool
  | ⟨op, n, l⟩ => (op == 1 && l.isEmpty && decide (0 ≤ n) && decide (n ≤ 1000000)) || (op == 2 && l.isEmpty && decide (0 ≤ n) && decide (n < 8)) || ((op == 3 || op == 4) && n == 0 && l.length == 2 && goodL l)
def goodL : List S24 → Bool
  | [] => true
  | x :: l => good x && goodL l
end
mutual
/-- A limit is passed somewhere. -/
def Bad : S24 → Prop
  | ⟨op, n, l⟩ => BadL l ∨ (op = 3 ∧ Big (coef (den ⟨op, n, l⟩))) ∨ (op = 4 ∧ (Big (coef (den ⟨op, n, l⟩)) ∨ Steep (den ⟨op, n, l⟩)))
def BadL : List S24 → Prop
  | [] => False
  | x :: l => Bad x ∨ BadL l
end
/-- The shapes of good expressions. -/
theorem good_cases {x : S24} (h : good x = true) : (x.f0 = 1 ∧ x.f2 = [] ∧ 0 ≤ x.f1 ∧ x.f1 ≤ 1000000 ∧ den x = (if x.f1 = 0 then [] else [(zeros8, x.f1)]) ∧ ¬ Bad x) ∨
    (x.f0 = 2 ∧ x.f2 = [] ∧ 0 ≤ x.f1 ∧ x.f1 < 8 ∧ den x = [(unit8 x.f1, 1)] ∧ ¬ Bad x) ∨
    (∃ y z, (x.f0 = 3 ∨ x.f0 = 4) ∧ x.f1 = 0 ∧ x.f2 = [y, z] ∧ good y = true ∧ good z = true ∧ den x = (if x.f0 = 3 then den y ++ den z else mulL (den y) (den z)) ∧
      (Bad x ↔ (Bad y ∨ Bad z) ∨ (x.f0 = 3 ∧ Big (coef (den x))) ∨ (x.f0 = 4 ∧ (Big (coef (den x)) ∨ Steep (den x))))) := by
  obtain ⟨op, n, l⟩ := x
  rw [good] at h
  simp only [Bool.or_eq_true, Bool.and_eq_true, beq_iff_eq, decide_eq_true_eq, List.isEmpty_iff] at h
  rcases h with (⟨⟨⟨rfl, rfl⟩, h1⟩, h2⟩ | ⟨⟨⟨rfl, rfl⟩, h1⟩, h2⟩) | ⟨⟨⟨h0, rfl⟩, hl⟩, hg⟩
  · refine .inl ⟨rfl, rfl, h1, h2, by rw [den]; rfl, ?_⟩
    rw [Bad, BadL]
    rintro (h | ⟨h, _⟩ | ⟨h, _⟩)
    · exact h
    · exact absurd h (by decide)
    · exact absurd h (by decide)
  · refine .inr (.inl ⟨rfl, rfl, h1, h2, by rw [den]; rfl, ?_⟩)
    rw [Bad, BadL]
    rintro (h | ⟨h, _⟩ | ⟨h, _⟩)
    · exact h
    · exact absurd h (by decide)
    · exact absurd h (by decide)
  · match l, hl with
    | [y, z], _ =>
      rw [goodL, goodL, goodL] at hg
      simp only [Bool.and_eq_true, Bool.and_true] at hg
      refine .inr (.inr ⟨y, z, h0, rfl, rfl, hg.1, hg.2, ?_, ?_⟩)
      · rw [den, denL, denL, denL]
        rcases h0 with rfl | rfl <;> rfl
      · rw [Bad, BadL, BadL, BadL]
        simp
theorem den_plus : ∀ (n : Nat) (x : S24), SizeOf.sizeOf x < n → good x = true → Plus (den x)
  | 0, _, h, _ => absurd h (by omega)
  | n + 1, x, h, hg => by
    rcases good_cases hg with ⟨_, _, h1, _, h2, _⟩ | ⟨_, _, _, _, h2, _⟩ | ⟨y, z, h0, _, hl, gy, gz, h2, _⟩
    · rw [h2]
      intro p hp
      split at hp
      · cases hp
      · rw [List.mem_singleton.1 hp]
        simp only
        omega
    · rw [h2]
      intro p hp
      rw [List.mem_singleton.1 hp]
      exact (by decide : (0 : Int) < 1)
    · have hs : SizeOf.sizeOf y < SizeOf.sizeOf x ∧ SizeOf.sizeOf z < SizeOf.sizeOf x := by
        obtain ⟨op, m, l⟩ := x
        simp only at hl
        subst hl
        simp
        omega
      have py := den_plus n y (by omega) gy
      have pz := den_plus n z (by omega) gz
      rw [h2]
      split
      · intro p hp
        rcases List.mem_append.1 hp with hp | hp
        · exact py p hp
        · exact pz p hp
      · exact mul_plus py pz
theorem den_plus' {x : S24} (h : good x = true) : Plus (den x) := den_plus (SizeOf.sizeOf x + 1) x (by omega) h
end Go.Proofs.Ytjnplfbggklkfaa
