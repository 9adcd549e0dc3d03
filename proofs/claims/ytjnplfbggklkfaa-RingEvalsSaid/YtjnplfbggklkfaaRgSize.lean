/- How great an expression is, and whether it is valid: what the program's and the reference's functions come to. No walk here. -/
import Derived.Test.YtjnplfbggklkfaaRgVerdict
import Derived.Test.YtjnplfbggklkfaaRg1
import Derived.Test.YtjnplfbggklkfaaRg2
import Derived.Test.YtjnplfbggklkfaaRg3
import Derived.Test.YtjnplfbggklkfaaRg8
import Derived.Test.YtjnplfbggklkfaaRg28
namespace Go.Proofs.Ytjnplfbggklkfaa
open Go.RowKit Go.Proofs.YtjnplfbggklkfaaW.PrintWords Go.Proofs.YtjnplfbggklkfaaW.PrintLast Go.Proofs.YtjnplfbggklkfaaW.PrintMore Go.Proofs.Ytjnplfbggklkfaa.Rg
set_option linter.unusedVariables false
set_option linter.unusedSimpArgs false

/-- From some number of rounds on. -/
def Ev (p : Nat → Prop) : Prop := ∃ k0, ∀ k, k0 ≤ k → p k
theorem Ev.mono {p q : Nat → Prop} (h : Ev p) (hpq : ∀ k, p k → q k) : Ev q := by
  obtain ⟨k0, h⟩ := h
  exact ⟨k0, fun k hk => hpq k (h k hk)⟩
theorem Ev.and {p q : Nat → Prop} (h : Ev p) (g : Ev q) : Ev fun k => p k ∧ q k := by
  obtain ⟨k0, h⟩ := h
  obtain ⟨k1, g⟩ := g
  exact ⟨max k0 k1, fun k hk => ⟨h k (by omega), g k (by omega)⟩⟩
theorem Ev.succ {p : Nat → Prop} (h : Ev fun k => p (k + 1)) : Ev p := by
  obtain ⟨k0, h⟩ := h
  refine ⟨k0 + 1, fun k hk => ?_⟩
  obtain ⟨k', rfl⟩ : ∃ k', k = k' + 1 := ⟨k - 1, by omega⟩
  exact h k' (by omega)
theorem Ev.all {p : Nat → Prop} (h : ∀ k, p k) : Ev p := ⟨0, fun k _ => h k⟩
theorem Ev.one {p : Nat → Prop} (h : Ev p) : ∃ k, p k := by
  obtain ⟨k0, h⟩ := h
  exact ⟨k0, h k0 (Nat.le_refl _)⟩
mutual
def nodes : S24 → Nat
  | ⟨_, _, l⟩ => 1 + nodesL l
def nodesL : List S24 → Nat
  | [] => 0
  | x :: l => nodes x + nodesL l
end
mutual
def depth : S24 → Nat
  | ⟨_, _, l⟩ => 1 + depthL l
def depthL : List S24 → Nat
  | [] => 0
  | x :: l => max (depth x) (depthL l)
end
theorem nodes_pos (x : S24) : 1 ≤ nodes x := by
  cases x
  rw [nodes]
  omega
theorem depth_le : ∀ (n : Nat), (∀ x : S24, SizeOf.sizeOf x < n → depth x ≤ nodes x) ∧ (∀ l : List S24, SizeOf.sizeOf l < n → depthL l ≤ nodesL l)
  | 0 => ⟨fun _ h => absurd h (by omega), fun _ h => absurd h (by omega)⟩
  | n + 1 => by
    obtain ⟨h1, h2⟩ := depth_le n
    constructor
    · rintro ⟨a, b, l⟩ h
      simp at h
      have := h2 l (by omega)
      rw [depth, nodes]
      omega
    · intro l h
      cases l with
      | nil => simp [depthL, nodesL]
      | cons x l =>
        simp at h
        have := h1 x (by omega)
        have := h2 l (by omega)
        rw [depthL, nodesL]
        omega
theorem depth_nodes (x : S24) : depth x ≤ nodes x := (depth_le (SizeOf.sizeOf x + 1)).1 x (by omega)
theorem w64 {n : Int} (h : -9223372036854775808 ≤ n) (h' : n ≤ 9223372036854775807) : wrap64 n = n := by
  unfold wrap64
  omega
theorem rd_drop {l : List S24} {i : Nat} {x : S24} {s : List S24} (h : l.drop i = x :: s) : i < l.length ∧ rd_T24 l (i : Int) = x ∧ l.drop (i + 1) = s := by
  have hi : i < l.length := by
    by_cases hi : i < l.length
    · exact hi
    · rw [List.drop_eq_nil_of_le (by omega)] at h
      cases h
  rw [List.drop_eq_getElem_cons hi] at h
  injection h with h1 h2
  refine ⟨hi, ?_, h2⟩
  rw [rd_T24, Int.toNat_natCast, List.getD_eq_getElem?_getD, List.getElem?_eq_getElem hi]
  exact h1
theorem drop_nil {l : List S24} {i : Nat} (h : l.drop i = []) : l.length ≤ i := by simpa using h

/-! ### The program's size -/
theorem sizeOf_loop (L : List S24) : ∀ (s : List S24), (∀ x ∈ s, nodes x ≤ 1000000 → Ev fun k => ring_sizeOf.f k x.f0 x.f1 x.f2 = some ((nodes x : Int), (depth x : Int))) → ∀ (i n d : Nat), L.drop i = s → n + nodesL s ≤ 1000000 → i ≤ n → d ≤ n →
    Ev fun k => ring_sizeOf.l0 k (n : Int) (d : Int) L (L.length : Int) (i : Int) = some (((n + nodesL s + 1 : Nat) : Int), ((max d (depthL s) + 1 : Nat) : Int))
  | [], _, i, n, d, hs, hn, hi, hd => by
    have hl := drop_nil hs
    refine Ev.succ (Ev.all fun k => ?_)
    unfold ring_sizeOf.l0
    rw [nodesL] at hn
    rw [if_neg (by omega), nodesL, depthL, w64 (by omega) (by omega), w64 (by omega) (by omega)]
    simp
  | x :: s, hx, i, n, d, hs, hn, hi, hd => by
    obtain ⟨hl, hr, hs'⟩ := rd_drop hs
    rw [nodesL] at hn
    have h1 := nodes_pos x
    have h2 := depth_nodes x
    have e1 := hx x (by simp) (by omega)
    have e2 := sizeOf_loop L s (fun y hy => hx y (by simp [hy])) (i + 1) (n + nodes x) (max d (depth x)) hs' (by omega) (by omega) (by omega)
    refine Ev.succ ((e1.and e2).mono fun k ⟨e1, e2⟩ => ?_)
    unfold ring_sizeOf.l0
    rw [if_pos (by omega), if_pos (by omega), if_pos (by omega), hr, e1, Option.bind_some]
    have hmx : mx (d : Int) (depth x : Int) = ((max d (depth x) : Nat) : Int) := by
      unfold mx
      split <;> omega
    simp only
    rw [hmx, w64 (by omega) (by omega), w64 (by omega) (by omega)]
    have e2' : ring_sizeOf.l0 k ((n : Int) + (nodes x : Int)) ((max d (depth x) : Nat) : Int) L (L.length : Int) ((i : Int) + 1) = _ := e2
    rw [e2', nodesL, depthL]
    congr 2
    · omega
    · omega
theorem sizeOf_eq_ : ∀ (m : Nat) (x : S24), SizeOf.sizeOf x < m → nodes x ≤ 1000000 → Ev fun k => ring_sizeOf.f k x.f0 x.f1 x.f2 = some ((nodes x : Int), (depth x : Int))
  | 0, _, h, _ => absurd h (by omega)
  | m + 1, ⟨a, b, l⟩, h, hn => by
    rw [nodes] at hn
    simp at h
    have := sizeOf_loop l l (fun x hx hn => sizeOf_eq_ m x (by have := List.sizeOf_lt_of_mem hx; omega) hn) 0 0 0 rfl (by omega) (by omega) (by omega)
    refine Ev.succ (this.mono fun k e => ?_)
    unfold ring_sizeOf.f
    have e' : ring_sizeOf.l0 k 0 0 l (l.length : Int) 0 = _ := e
    simp only
    rw [e', nodes, depth]
    congr 2
    · omega
    · omega
theorem sizeOf_eq {x : S24} (h : nodes x ≤ 1000000) : Ev fun k => ring_sizeOf.f k x.f0 x.f1 x.f2 = some ((nodes x : Int), (depth x : Int)) := sizeOf_eq_ _ x (Nat.lt_succ_self _) h

/-! ### The reference's size: it stops above a limit -/
/-- Above the limit: one more than the limit, whatever the depth. -/
def SizeIs (cap N D : Nat) (r : Int × Int) : Prop := r.1 = ((min N (cap + 1) : Nat) : Int) ∧ (N ≤ cap → r.2 = (D : Int)) ∧ (0 ≤ r.1 ∧ r.1 ≤ cap + 1)
theorem Size_over (cap : Nat) (hc : cap ≤ 1000) (a b d i : Int) (L : List S24) : Ev fun k => tenetref24_Size.l0 k (cap : Int) ((cap : Int) + 1) d i a b L = some ((cap : Int) + 1, wrap64 (d + 1)) := by
  refine Ev.succ (Ev.all fun k => ?_)
  unfold tenetref24_Size.l0
  have h : mn ((cap : Int) + 1) (wrap64 ((cap : Int) + 1)) = (cap : Int) + 1 := by
    rw [w64 (by omega) (by omega)]
    unfold mn
    rw [if_neg (by omega)]
  by_cases h1 : i < (L.length : Int)
  · rw [if_pos h1, if_neg (by omega), h]
  · rw [if_neg h1, h]
theorem Size_loop (cap : Nat) (hc : cap ≤ 1000) (a b : Int) (L : List S24) : ∀ (s : List S24), (∀ x ∈ s, ∀ c ≤ cap, ∃ r, SizeIs c (nodes x) (depth x) r ∧ Ev fun k => tenetref24_Size.f k x.f0 x.f1 x.f2 (c : Int) = some r) → ∀ (i n d : Nat), L.drop i = s → n ≤ cap → i + 1 ≤ n → d ≤ n →
    ∃ r, SizeIs cap (n + nodesL s) (max d (depthL s) + 1) r ∧ Ev fun k => tenetref24_Size.l0 k (cap : Int) (n : Int) (d : Int) (i : Int) a b L = some r
  | [], _, i, n, d, hs, hn, hi, hd => by
    have hl := drop_nil hs
    refine ⟨((n : Int), (d : Int) + 1), ⟨by rw [nodesL]; simp only; omega, fun _ => by rw [depthL]; simp only; omega, by simp only; omega⟩, Ev.succ (Ev.all fun k => ?_)⟩
    unfold tenetref24_Size.l0
    rw [if_neg (by omega), w64 (by omega) (by omega), w64 (by omega) (by omega)]
    unfold mn
    rw [if_neg (by omega)]
  | x :: s, hx, i, n, d, hs, hn, hi, hd => by
    obtain ⟨hl, hr, hs'⟩ := rd_drop hs
    have h1 := nodes_pos x
    have h2 := depth_nodes x
    obtain ⟨r1, ⟨i1, i2, i3⟩, e1⟩ := hx x (by simp) (cap - n) (by omega)
    by_cases hb : n + nodes x ≤ cap
    · have i4 := i2 (by omega)
      obtain ⟨r, hr', e2⟩ := Size_loop cap hc a b L s (fun y hy => hx y (by simp [hy])) (i + 1) (n + nodes x) (max d (depth x)) hs' (by omega) (by omega) (by omega)
      refine ⟨r, by rw [nodesL, depthL]; rw [show n + (nodes x + nodesL s) = n + nodes x + nodesL s by omega, show max d (max (depth x) (depthL s)) = max (max d (depth x)) (depthL s) by omega]; exact hr', Ev.succ ((e1.and e2).mono fun k ⟨e1, e2⟩ => ?_)⟩
      unfold tenetref24_Size.l0
      rw [if_pos (by omega), if_pos (by omega), if_pos (by omega), hr, w64 (by omega) (by omega), show (cap : Int) - (n : Int) = ((cap - n : Nat) : Int) by omega, e1, Option.bind_some]
      have hmx : mx (d : Int) r1.2 = ((max d (depth x) : Nat) : Int) := by
        unfold mx
        rw [i4]
        split <;> omega
      have hn' : (n : Int) + r1.1 = ((n + nodes x : Nat) : Int) := by rw [i1]; omega
      rw [hmx, hn', w64 (by omega) (by omega), w64 (by omega) (by omega)]
      exact e2
    · have hi1 : r1.1 = ((cap - n + 1 : Nat) : Int) := by rw [i1]; congr 1; omega
      refine ⟨((cap : Int) + 1, wrap64 (mx (d : Int) r1.2 + 1)), ⟨by rw [nodesL]; simp only; omega, fun h => absurd h (by rw [nodesL]; omega), by simp only; omega⟩, Ev.succ ((e1.and (Size_over cap hc a b (mx (d : Int) r1.2) (wrap64 ((i : Int) + 1)) L)).mono fun k ⟨e1, e2⟩ => ?_)⟩
      unfold tenetref24_Size.l0
      rw [if_pos (by omega), if_pos (by omega), if_pos (by omega), hr, w64 (by omega) (by omega), show (cap : Int) - (n : Int) = ((cap - n : Nat) : Int) by omega, e1, Option.bind_some]
      have hn' : (n : Int) + r1.1 = (cap : Int) + 1 := by rw [hi1]; omega
      rw [hn', w64 (n := (cap : Int) + 1) (by omega) (by omega)]
      exact e2
theorem Size_eq_ : ∀ (m : Nat) (x : S24), SizeOf.sizeOf x < m → ∀ cap ≤ 1000, ∃ r, SizeIs cap (nodes x) (depth x) r ∧ Ev fun k => tenetref24_Size.f k x.f0 x.f1 x.f2 (cap : Int) = some r
  | 0, _, h, _, _ => absurd h (by omega)
  | m + 1, ⟨a, b, l⟩, h, cap, hc => by
    simp at h
    by_cases h0 : cap = 0
    · subst h0
      refine ⟨(1, 1), ⟨by rw [nodes]; simp only; omega, fun h => absurd h (by rw [nodes]; omega), by simp⟩, ?_⟩
      refine Ev.succ ((Size_over 0 (by omega) a b 0 0 l).mono fun k e => ?_)
      unfold tenetref24_Size.f
      rw [show ((0 : Nat) : Int) + 1 = 1 from rfl, w64 (n := 0 + 1) (by omega) (by omega), show (0 : Int) + 1 = 1 from rfl] at e
      exact e
    · obtain ⟨r, hr, e⟩ := Size_loop cap hc a b l l (fun x hx c hc' => Size_eq_ m x (by have := List.sizeOf_lt_of_mem hx; omega) c (by omega)) 0 1 0 rfl (by omega) (by omega) (by omega)
      refine ⟨r, by rw [nodes, depth]; rw [show 1 + depthL l = max 0 (depthL l) + 1 by omega]; exact hr, Ev.succ (e.mono fun k e => ?_)⟩
      unfold tenetref24_Size.f
      exact e
theorem Size_eq (x : S24) (cap : Nat) (h : cap ≤ 1000) : ∃ r, SizeIs cap (nodes x) (depth x) r ∧ Ev fun k => tenetref24_Size.f k x.f0 x.f1 x.f2 (cap : Int) = some r := Size_eq_ _ x (Nat.lt_succ_self _) cap h
theorem big_eq (x : S24) : Ev fun k => tenetlaw24_big.f k x.f0 x.f1 x.f2 = some (decide (400 < nodes x)) := by
  obtain ⟨r, ⟨h1, _, h2⟩, e⟩ := Size_eq x 400 (by omega)
  refine e.mono fun k e => ?_
  unfold tenetlaw24_big.f
  have e' : tenetref24_Size.f k x.f0 x.f1 x.f2 400 = some r := e
  rw [e', Option.bind_some]
  congr 1
  rw [decide_eq_decide]
  omega

/-! ### The form -/
mutual
def formB : S24 → Bool
  | ⟨op, n, l⟩ => (op == 1 && l.isEmpty && decide (0 ≤ n)) || (op == 2 && l.isEmpty && decide (0 ≤ n) && decide (n < 8)) || ((op == 3 || op == 4) && n == 0 && l.length == 2 && formLB l)
def formLB : List S24 → Bool
  | [] => true
  | x :: l => formB x && formLB l
end
theorem good_form : ∀ (m : Nat) (x : S24), SizeOf.sizeOf x < m → good x = (formB x && right x 1000000)
  | 0, _, h => absurd h (by omega)
  | m + 1, ⟨a, b, l⟩, h => by
    simp at h
    have hl : ∀ l' : List S24, SizeOf.sizeOf l' ≤ SizeOf.sizeOf l → goodL l' = (formLB l' && rightL l' 1000000) := by
      intro l' hl'
      induction l' with
      | nil => rw [goodL, formLB, rightL]; rfl
      | cons x r ihr =>
        simp at hl'
        have hx := good_form m x (by omega)
        rw [goodL, formLB, rightL, hx, ihr (by omega)]
        cases formB x <;> cases formLB r <;> cases right x 1000000 <;> cases rightL r 1000000 <;> rfl
    rw [good, formB, right, hl l (Nat.le_refl _)]
    by_cases h1 : a = 1
    · subst h1
      cases l with
      | nil =>
        rw [rightL, Bool.eq_iff_iff]
        simp
      | cons x r => simp
    · have e1 : (a == 1) = false := beq_eq_false_iff_ne.2 h1
      by_cases h2 : a = 2
      · subst h2
        cases l with
        | nil => rw [rightL]; simp
        | cons x r => simp
      · have e2 : (a == 2) = false := beq_eq_false_iff_ne.2 h2
        rw [e1, e2]
        simp only [Bool.false_and, Bool.false_or, Bool.not_false, Bool.true_and]
        rw [Bool.and_assoc (_ && (l.length == 2))]
theorem good_eq (x : S24) : good x = (formB x && right x 1000000) := good_form _ x (Nat.lt_succ_self _)
theorem formed_eq_ : ∀ (m : Nat) (x : S24), SizeOf.sizeOf x < m → Ev fun k => ring_formed.f k x.f0 x.f1 x.f2 = some (formB x)
  | 0, _, h => absurd h (by omega)
  | m + 1, ⟨a, b, l⟩, h => by
    simp at h
    by_cases h1 : a = 1
    · refine Ev.succ (Ev.all fun k => ?_)
      unfold ring_formed.f
      rw [formB]
      subst h1
      cases l with
      | nil => simp
      | cons x r => simp; omega
    · by_cases h2 : a = 2
      · refine Ev.succ (Ev.all fun k => ?_)
        unfold ring_formed.f
        rw [formB]
        subst h2
        cases l with
        | nil =>
          simp
          by_cases hb : 0 ≤ b
          · simp [hb]
          · simp [hb]
        | cons x r => simp; omega
      · have hj : ∀ c : Bool, c = (a == 3 || a == 4) → Ev fun k => ring_formed.j0 k c a b l = some (formB ⟨a, b, l⟩) := by
          intro c hc
          have hf : formB ⟨a, b, l⟩ = (c && b == 0 && l.length == 2 && formLB l) := by
            rw [formB, ← hc]
            simp [h1, h2]
          rw [hf]
          cases hcc : c with
          | false =>
            refine Ev.succ (Ev.all fun k => ?_)
            unfold ring_formed.j0
            simp
          | true =>
            by_cases hl : l.length = 2
            · match l, hl with
              | [y, z], _ =>
                simp at h
                have iy := formed_eq_ m y (by omega)
                have iz := formed_eq_ m z (by omega)
                refine Ev.succ ((iy.and iz).mono fun k ⟨iy, iz⟩ => ?_)
                unfold ring_formed.j0
                rw [formLB, formLB, formLB]
                have ey : ring_formed.f k (rd_T24 [y, z] 0).f0 (rd_T24 [y, z] 0).f1 (rd_T24 [y, z] 0).f2 = some (formB y) := iy
                have ez : ring_formed.f k (rd_T24 [y, z] 1).f0 (rd_T24 [y, z] 1).f1 (rd_T24 [y, z] 1).f2 = some (formB z) := iz
                rw [ey, ez]
                by_cases hb : b = 0
                · subst hb
                  cases formB y <;> simp
                · simp [hb]
            · refine Ev.succ (Ev.all fun k => ?_)
              unfold ring_formed.j0
              rw [if_pos rfl, if_neg (by omega)]
              have : (l.length == 2) = false := beq_eq_false_iff_ne.2 hl
              simp [this]
        have e1 : (a == 1) = false := beq_eq_false_iff_ne.2 h1
        by_cases h3 : a = 3
        · refine Ev.succ ((hj (a == 3) (by simp [h3])).mono fun k e => ?_)
          unfold ring_formed.f
          simp only
          rw [if_neg h1, if_neg h2, if_pos h3]
          exact e
        · refine Ev.succ ((hj (a == 4) (by simp [h3])).mono fun k e => ?_)
          unfold ring_formed.f
          simp only
          rw [if_neg h1, if_neg h2, if_neg h3]
          exact e
theorem formed_eq (x : S24) : Ev fun k => ring_formed.f k x.f0 x.f1 x.f2 = some (formB x) := formed_eq_ _ x (Nat.lt_succ_self _)
/-- Whether an expression is valid. -/
def validB (x : S24) : Bool := decide (nodes x ≤ 60) && decide (depth x ≤ 12) && good x
theorem Valid_eq {x : S24} (h : nodes x ≤ 1000000) : Ev fun k => ring_Valid.f k x.f0 x.f1 x.f2 = some (validB x) := by
  refine ((sizeOf_eq h).and (formed_eq x)).mono fun k ⟨e1, e2⟩ => ?_
  unfold ring_Valid.f validB
  rw [e1, e2, Option.bind_some, good_eq]
  simp only
  by_cases h1 : nodes x ≤ 60
  · rw [if_pos (by omega)]
    by_cases h2 : depth x ≤ 12
    · rw [if_pos (by omega), Option.bind_some]
      unfold ring_right.f
      rw [eta24]
      cases formB x <;> simp [h1, h2]
    · rw [if_neg (by omega)]
      simp [h2]
  · rw [if_neg (by omega)]
    simp [h1]
end Go.Proofs.Ytjnplfbggklkfaa
