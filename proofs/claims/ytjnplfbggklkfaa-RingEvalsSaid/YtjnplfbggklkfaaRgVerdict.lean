/- The answer of the ring's Equal as a function of the expressions that can be worked out: no program here. -/
import Derived.Test.YtjnplfbggklkfaaRgNormal
import Derived.Test.YtjnplfbggklkfaaSame
import Derived.Test.YtjnplfbggklkfaaRg4
import Derived.Test.YtjnplfbggklkfaaRg8
namespace Go.Proofs.Ytjnplfbggklkfaa
open Go.Proofs.Ytjnplfbggklkfaa.Rg
set_option linter.unusedVariables false
set_option linter.unusedSimpArgs false

def bigB (l : Asc) : Bool := (ddup (l.map (·.1))).any (fun k => decide (1000000000000000 < coef l k)) || decide (200 < (ddup (l.map (·.1))).length)
theorem bigB_iff {l : Asc} (h : Plus l) : bigB l = true ↔ Big (coef l) := by
  unfold bigB
  simp only [Bool.or_eq_true, List.any_eq_true, decide_eq_true_eq]
  constructor
  · rintro (⟨k, _, hk⟩ | hl)
    · exact .inl ⟨k, hk⟩
    · exact .inr ⟨_, ddup_nd _, hl, fun k hk => (coef_pos h).2 (mem_ddup.1 hk)⟩
  · rintro (⟨k, hk⟩ | ⟨m, nd, hm, hp⟩)
    · exact .inl ⟨k, mem_ddup.2 ((coef_pos h).1 (by omega)), hk⟩
    · refine .inr (Nat.lt_of_lt_of_le hm (nodup_le nd fun k hk => mem_ddup.2 ((coef_pos h).1 (hp k hk))))
def steepB (l : Asc) : Bool := l.any fun m => m.1.any fun v => decide (60 < v)
theorem steepB_iff (l : Asc) : steepB l = true ↔ Steep l := by
  unfold steepB Steep
  simp only [List.any_eq_true, decide_eq_true_eq]
def sameD (a b : Asc) : Bool := (ddup (a.map (·.1) ++ b.map (·.1))).all fun k => decide (coef a k = coef b k)
theorem sameD_iff (a b : Asc) : sameD a b = true ↔ ∀ k, coef a k = coef b k := by
  unfold sameD
  rw [List.all_eq_true]
  constructor
  · intro h k
    by_cases hk : k ∈ a.map (·.1) ++ b.map (·.1)
    · exact of_decide_eq_true (h k (mem_ddup.2 hk))
    · rw [List.mem_append, not_or] at hk
      rw [coef_none hk.1, coef_none hk.2]
  · exact fun h k _ => decide_eq_true (h k)
mutual
def badB : S24 → Bool
  | ⟨op, n, l⟩ => badLB l || (op == 3 && bigB (den ⟨op, n, l⟩)) || (op == 4 && (bigB (den ⟨op, n, l⟩) || steepB (den ⟨op, n, l⟩)))
def badLB : List S24 → Bool
  | [] => false
  | x :: l => badB x || badLB l
end
theorem badB_iff_ : ∀ (n : Nat) (x : S24), SizeOf.sizeOf x < n → good x = true → (badB x = true ↔ Bad x)
  | 0, _, h, _ => absurd h (by omega)
  | n + 1, x, h, hg => by
    have hp := den_plus' hg
    rcases good_cases hg with ⟨h0, hl, _, _, _, hb⟩ | ⟨h0, hl, _, _, _, hb⟩ | ⟨y, z, h0, _, hl, gy, gz, h2, hb⟩
    · obtain ⟨op, m, l⟩ := x
      simp only at h0 hl
      subst h0 hl
      refine ⟨fun h => ?_, fun h => absurd h hb⟩
      rw [badB, badLB] at h
      simp at h
    · obtain ⟨op, m, l⟩ := x
      simp only at h0 hl
      subst h0 hl
      refine ⟨fun h => ?_, fun h => absurd h hb⟩
      rw [badB, badLB] at h
      simp at h
    · have hs : SizeOf.sizeOf y < SizeOf.sizeOf x ∧ SizeOf.sizeOf z < SizeOf.sizeOf x := by
        obtain ⟨op, m, l⟩ := x
        simp only at hl
        subst hl
        simp
        omega
      have ihy := badB_iff_ n y (by omega) gy
      have ihz := badB_iff_ n z (by omega) gz
      rw [hb]
      obtain ⟨op, m, l⟩ := x
      simp only at hl
      subst hl
      rw [badB, badLB, badLB, badLB]
      simp only [Bool.or_eq_true, Bool.and_eq_true, Bool.false_eq_true, or_false, beq_iff_eq, ihy, ihz, bigB_iff hp, steepB_iff, or_assoc]
theorem badB_iff {x : S24} (h : good x = true) : badB x = true ↔ Bad x := badB_iff_ (SizeOf.sizeOf x + 1) x (by omega) h
/-- What Equal answers for good expressions. -/
def verdict (x y : S24) : Bool × Int := if (badB x || badB y) = true then (false, 2) else (sameD (den x) (den y), 0)

theorem same_rep {a b : Asc} {f g : List Int → Int} (ha : Rep a f) (hb : Rep b g) : sameB a b = true ↔ ∀ k, f k = g k := by
  unfold sameB
  simp only [Bool.and_eq_true, List.all_eq_true, decide_eq_true_eq]
  have key : (∀ k, f k = g k) → ∀ k, k ∈ a.map (·.1) → k ∈ b.map (·.1) := fun h k hk => by
    have h1 := (get_bounds ha.pos k).2.2 (has_of_mem hk)
    rw [ha.get, h, ← hb.get] at h1
    cases hh : hasA b k with
    | true => exact mem_of_has hh
    | false => rw [get_none hh] at h1; omega
  have key2 : (∀ k, f k = g k) → ∀ k, k ∈ b.map (·.1) → k ∈ a.map (·.1) := fun h k hk => by
    have h1 := (get_bounds hb.pos k).2.2 (has_of_mem hk)
    rw [hb.get, ← h, ← ha.get] at h1
    cases hh : hasA a k with
    | true => exact mem_of_has hh
    | false => rw [get_none hh] at h1; omega
  constructor
  · rintro ⟨h1, h2⟩ k
    have hsub : ∀ k, k ∈ a.map (·.1) → k ∈ b.map (·.1) := fun k hk => by
      obtain ⟨p, hp, rfl⟩ := List.mem_map.1 hk
      have h3 := h1 p hp
      have h4 := (ha.pos p hp).1
      cases hh : hasA b p.1 with
      | true => exact mem_of_has hh
      | false => rw [get_none hh] at h3; omega
    rw [← ha.get, ← hb.get]
    cases hh : hasA a k with
    | true =>
      have h3 := idx_get hh
      have h4 := h1 _ (List.mem_of_getElem? h3)
      exact h4.symm
    | false =>
      rw [get_none hh]
      cases hb' : hasA b k with
      | false => rw [get_none hb']
      | true =>
        exfalso
        have hnd : (k :: a.map (·.1)).Nodup := List.nodup_cons.2 ⟨has_false hh, ha.nd⟩
        have := nodup_le hnd fun j hj => by
          rcases List.mem_cons.1 hj with rfl | hj
          · exact mem_of_has hb'
          · exact hsub j hj
        simp at this
        omega
  · intro h
    refine ⟨fun p hp => ?_, ?_⟩
    · obtain ⟨i, hi⟩ := List.mem_iff_getElem?.1 hp
      have h1 := (idx_only ha.nd (k := p.1) (c := p.2) (j := i) hi).2.2
      rw [hb.get, ← h, ← ha.get]
      exact h1
    · have h1 := nodup_le ha.nd (key h)
      have h2 := nodup_le hb.nd (key2 h)
      simp at h1 h2
      omega

/-! ### Valid expressions are good -/
theorem eta24 (x : S24) : (⟨x.f0, x.f1, x.f2⟩ : S24) = x := by cases x; rfl
theorem formed_good : ∀ (k : Nat) (a b : Int) (l : List S24), ring_formed.f k a b l = some true → right ⟨a, b, l⟩ 1000000 = true → good ⟨a, b, l⟩ = true := by
  intro k
  induction k using Nat.strongRecOn with
  | _ k ih =>
    intro a b l h hr
    cases k with
    | zero => simp [ring_formed.f] at h
    | succ k =>
      rw [right_eq] at hr
      simp only [Bool.and_eq_true, Bool.not_eq_true', Bool.and_eq_false_iff, beq_eq_false_iff_ne, decide_eq_false_iff_not] at hr
      obtain ⟨hr1, hr2⟩ := hr
      rw [good]
      simp only [Bool.or_eq_true, Bool.and_eq_true, beq_iff_eq, decide_eq_true_eq, List.isEmpty_iff]
      unfold ring_formed.f at h
      by_cases h1 : a = 1
      · rw [if_pos h1] at h
        by_cases hl : (l.length : Int) = 0
        · rw [if_pos hl] at h
          have : l = [] := List.length_eq_zero_iff.1 (by omega)
          simp only [Option.some.injEq, decide_eq_true_eq] at h
          refine .inl (.inl ⟨⟨⟨h1, this⟩, h⟩, ?_⟩)
          rcases hr1 with hr1 | hr1
          · exact absurd h1 hr1
          · omega
        · rw [if_neg hl] at h
          simp at h
      · rw [if_neg h1] at h
        by_cases h2 : a = 2
        · rw [if_pos h2] at h
          by_cases hl : (l.length : Int) = 0
          · rw [if_pos hl] at h
            have : l = [] := List.length_eq_zero_iff.1 (by omega)
            by_cases h0 : b ≥ 0
            · rw [if_pos h0] at h
              simp only [Option.some.injEq, decide_eq_true_eq] at h
              exact .inl (.inr ⟨⟨⟨h2, this⟩, h0⟩, h⟩)
            · rw [if_neg h0] at h
              simp at h
          · rw [if_neg hl] at h
            simp at h
        · rw [if_neg h2] at h
          have hj : ∃ c : Bool, (c = true → a = 3 ∨ a = 4) ∧ ring_formed.j0 k c a b l = some true := by
            by_cases h3 : a = 3
            · rw [if_pos h3] at h
              exact ⟨_, fun _ => .inl h3, h⟩
            · rw [if_neg h3] at h
              exact ⟨_, fun hc => .inr (beq_iff_eq.1 hc), h⟩
          clear h
          obtain ⟨c, hc, h⟩ := hj
          cases k with
          | zero => simp [ring_formed.j0] at h
          | succ k =>
            unfold ring_formed.j0 at h
            by_cases hct : c = true
            · rw [if_pos hct] at h
              by_cases hl : (l.length : Int) = 2
              · rw [if_pos hl] at h
                by_cases hb : b = 0
                · rw [if_pos hb, if_pos (by omega)] at h
                  match l, hl with
                  | [y, z], _ =>
                    obtain ⟨t1, e1, h⟩ := Option.bind_eq_some_iff.1 h
                    by_cases ht : t1 = true
                    · subst ht
                      rw [if_pos rfl, if_pos (by simp)] at h
                      obtain ⟨t2, e2, h⟩ := Option.bind_eq_some_iff.1 h
                      obtain rfl := Option.some.inj h
                      rw [rightL, rightL, rightL] at hr2
                      simp only [Bool.and_eq_true, Bool.and_true] at hr2
                      have gy := ih k (by omega) y.f0 y.f1 y.f2 e1 (by rw [eta24]; exact hr2.1)
                      have gz := ih k (by omega) z.f0 z.f1 z.f2 e2 (by rw [eta24]; exact hr2.2)
                      refine .inr ⟨⟨⟨hc hct, hb⟩, rfl⟩, ?_⟩
                      rw [goodL, goodL, goodL]
                      rw [eta24] at gy gz
                      rw [gy, gz]
                      rfl
                    · rw [if_neg ht] at h
                      simp at h
                · rw [if_neg hb] at h
                  simp at h
              · rw [if_neg hl] at h
                simp at h
            · rw [if_neg hct] at h
              simp at h
theorem valid_good {k : Nat} {a b : Int} {l : List S24} (h : ring_Valid.f k a b l = some true) : good ⟨a, b, l⟩ = true := by
  unfold ring_Valid.f at h
  obtain ⟨t, _, h⟩ := Option.bind_eq_some_iff.1 h
  by_cases h1 : t.1 ≤ 60
  · rw [if_pos h1] at h
    by_cases h2 : t.2 ≤ 12
    · rw [if_pos h2] at h
      obtain ⟨u, hf, h⟩ := Option.bind_eq_some_iff.1 h
      by_cases hu : u = true
      · subst hu
        rw [if_pos rfl] at h
        obtain ⟨v, hv, h⟩ := Option.bind_eq_some_iff.1 h
        obtain rfl := Option.some.inj h
        unfold ring_right.f at hv
        exact formed_good k a b l hf (Option.some.inj hv)
      · rw [if_neg hu] at h
        simp at h
    · rw [if_neg h2] at h
      simp at h
  · rw [if_neg h1] at h
    simp at h
end Go.Proofs.Ytjnplfbggklkfaa
