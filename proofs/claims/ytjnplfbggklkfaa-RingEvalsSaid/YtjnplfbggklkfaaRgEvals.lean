/- The law RingEvals, in plain words. -/
import Derived.Test.YtjnplfbggklkfaaRgSize
import Derived.Test.YtjnplfbggklkfaaRg31
import Derived.Test.YtjnplfbggklkfaaRgOpen
namespace Go.Proofs.Ytjnplfbggklkfaa
open Go.RowKit Go.Proofs.YtjnplfbggklkfaaW.PrintWords Go.Proofs.YtjnplfbggklkfaaW.PrintLast Go.Proofs.YtjnplfbggklkfaaW.PrintMore Go.Proofs.Ytjnplfbggklkfaa.Rg
set_option linter.unusedVariables false
set_option linter.unusedSimpArgs false

/-! ### The reference finds the same expressions valid -/
theorem refFormed_eq_ : ∀ (m : Nat) (x : S24), SizeOf.sizeOf x < m → Ev fun k => tenetref24_formed.f k x.f0 x.f1 x.f2 1000000 = some (good x)
  | 0, _, h => absurd h (by omega)
  | m + 1, ⟨a, b, l⟩, h => by
    simp at h
    by_cases h1 : a = 1
    · refine Ev.succ (Ev.all fun k => ?_)
      unfold tenetref24_formed.f
      rw [good]
      subst h1
      by_cases hb : 0 ≤ b
      · by_cases hb2 : b ≤ 1000000
        · cases l with
          | nil => simp [hb, hb2]
          | cons x r => simp [hb, hb2]; omega
        · simp [hb, hb2]
      · simp [hb]
    · by_cases h2 : a = 2
      · refine Ev.succ (Ev.all fun k => ?_)
        unfold tenetref24_formed.f
        rw [good]
        subst h2
        by_cases hb : 0 ≤ b
        · by_cases hb2 : b < 8
          · cases l with
            | nil => simp [hb, hb2]
            | cons x r => simp [hb, hb2]; omega
          · simp [hb, hb2]
        · simp [hb]
      · have hj : ∀ c : Bool, c = (a == 3 || a == 4) → Ev fun k => tenetref24_formed.j0 k 1000000 c a b l = some (good ⟨a, b, l⟩) := by
          intro c hc
          have hf : good ⟨a, b, l⟩ = (c && b == 0 && l.length == 2 && goodL l) := by
            rw [good, ← hc]
            simp [h1, h2]
          rw [hf]
          cases hcc : c with
          | false =>
            refine Ev.succ (Ev.all fun k => ?_)
            unfold tenetref24_formed.j0
            simp
          | true =>
            by_cases hl : l.length = 2
            · match l, hl with
              | [y, z], _ =>
                simp at h
                have iy := refFormed_eq_ m y (by omega)
                have iz := refFormed_eq_ m z (by omega)
                refine Ev.succ ((iy.and iz).mono fun k ⟨iy, iz⟩ => ?_)
                unfold tenetref24_formed.j0
                rw [goodL, goodL, goodL]
                have ey : tenetref24_formed.f k (rd_T24 [y, z] 0).f0 (rd_T24 [y, z] 0).f1 (rd_T24 [y, z] 0).f2 1000000 = some (good y) := iy
                have ez : tenetref24_formed.f k (rd_T24 [y, z] 1).f0 (rd_T24 [y, z] 1).f1 (rd_T24 [y, z] 1).f2 1000000 = some (good z) := iz
                rw [ey, ez]
                by_cases hb : b = 0
                · subst hb
                  cases good y <;> simp
                · simp [hb]
            · refine Ev.succ (Ev.all fun k => ?_)
              unfold tenetref24_formed.j0
              have h' : (l.length == 2) = false := beq_eq_false_iff_ne.2 hl
              by_cases hb : b = 0
              · rw [if_pos rfl, if_pos hb, if_neg (by omega)]
                simp [h']
              · simp [hb]
        have e1 : (a == 1) = false := beq_eq_false_iff_ne.2 h1
        by_cases h3 : a = 3
        · refine Ev.succ ((hj (a == 3) (by simp [h3])).mono fun k e => ?_)
          unfold tenetref24_formed.f
          simp only
          rw [if_neg h1, if_neg h2, if_pos h3]
          exact e
        · refine Ev.succ ((hj (a == 4) (by simp [h3])).mono fun k e => ?_)
          unfold tenetref24_formed.f
          simp only
          rw [if_neg h1, if_neg h2, if_neg h3]
          exact e
theorem refFormed_eq (x : S24) : Ev fun k => tenetref24_formed.f k x.f0 x.f1 x.f2 1000000 = some (good x) := refFormed_eq_ _ x (Nat.lt_succ_self _)
theorem refValid_eq (x : S24) : Ev fun k => tenetref24_Valid.f k x.f0 x.f1 x.f2 = some (validB x) := by
  obtain ⟨r, ⟨h1, h2, h3⟩, e⟩ := Size_eq x 60 (by omega)
  refine (e.and (refFormed_eq x)).mono fun k ⟨e1, e2⟩ => ?_
  unfold tenetref24_Valid.f validB
  have e1' : tenetref24_Size.f k x.f0 x.f1 x.f2 60 = some r := e1
  rw [e1', e2, Option.bind_some, Option.bind_some]
  by_cases n1 : nodes x ≤ 60
  · have hd := h2 n1
    rw [if_pos (by omega)]
    by_cases n2 : depth x ≤ 12
    · rw [if_pos (by omega)]
      simp [n1, n2]
    · rw [if_neg (by omega)]
      simp [n2]
  · rw [if_neg (by omega)]
    simp [n1]

/-! ### The two eval -/
theorem eval_eq (vals : List Int) : ∀ (m : Nat) (x : S24), SizeOf.sizeOf x < m → good x = true → ∃ v, Ev fun k => ring_eval.f k x.f0 x.f1 x.f2 vals = some v ∧ tenetref24_eval.f k x.f0 x.f1 x.f2 vals = some v
  | 0, _, h, _ => absurd h (by omega)
  | m + 1, x, h, hg => by
    rcases good_cases hg with ⟨h0, h2, h3, h4, h5, h6⟩ | ⟨h0, h2, h3, h4, h5, h6⟩ | ⟨y, z, h0, h1, h2, gy, gz, hd, hb⟩
    · refine ⟨Int.tmod x.f1 1000000007, Ev.succ (Ev.all fun k => ⟨?_, ?_⟩)⟩
      · unfold ring_eval.f
        rw [if_pos h0]
      · unfold tenetref24_eval.f
        rw [if_pos h0]
    · by_cases hv : x.f1 ≥ (vals.length : Int)
      · refine ⟨0, Ev.succ (Ev.all fun k => ⟨?_, ?_⟩)⟩
        · unfold ring_eval.f
          rw [if_neg (by omega), if_pos h0, if_pos hv]
        · unfold tenetref24_eval.f
          rw [if_neg (by omega), if_pos h0, if_pos hv]
      · refine ⟨Int.tmod (wrap64 ((Int.tmod (rd vals x.f1) 1000000007) + 1000000007)) 1000000007, Ev.succ (Ev.all fun k => ⟨?_, ?_⟩)⟩
        · unfold ring_eval.f
          rw [if_neg (by omega), if_pos h0, if_neg hv, if_pos h3, if_pos (by omega)]
        · unfold tenetref24_eval.f
          rw [if_neg (by omega), if_pos h0, if_neg hv, if_pos h3, if_pos (by omega)]
    · have hs : SizeOf.sizeOf y < SizeOf.sizeOf x ∧ SizeOf.sizeOf z < SizeOf.sizeOf x := by
        obtain ⟨op, n, l⟩ := x
        simp only at h2
        subst h2
        simp
        omega
      obtain ⟨vy, ey⟩ := eval_eq vals m y (by omega) gy
      obtain ⟨vz, ez⟩ := eval_eq vals m z (by omega) gz
      have r0 : rd_T24 x.f2 0 = y := by rw [h2]; rfl
      have r1 : rd_T24 x.f2 1 = z := by rw [h2]; rfl
      have hl : (x.f2.length : Int) = 2 := by rw [h2]; rfl
      by_cases h3 : x.f0 = 3
      · refine ⟨Int.tmod (wrap64 (vy + vz)) 1000000007, Ev.succ ((ey.and ez).mono fun k ⟨⟨ey, fy⟩, ez, fz⟩ => ⟨?_, ?_⟩)⟩
        · unfold ring_eval.f
          rw [if_neg (by omega), if_neg (by omega), if_pos (by omega), r0, ey, Option.bind_some, if_pos (by omega), r1, ez, Option.bind_some, if_pos h3]
        · unfold tenetref24_eval.f
          rw [if_neg (by omega), if_neg (by omega), if_pos h3, if_pos (by omega), r0, fy, Option.bind_some, if_pos (by omega), r1, fz, Option.bind_some]
      · refine ⟨Int.tmod (wrap64 (vy * vz)) 1000000007, Ev.succ ((ey.and ez).mono fun k ⟨⟨ey, fy⟩, ez, fz⟩ => ⟨?_, ?_⟩)⟩
        · unfold ring_eval.f
          rw [if_neg (by omega), if_neg (by omega), if_pos (by omega), r0, ey, Option.bind_some, if_pos (by omega), r1, ez, Option.bind_some, if_neg h3]
        · unfold tenetref24_eval.f
          rw [if_neg (by omega), if_neg (by omega), if_neg h3, if_pos (by omega), r0, fy, Option.bind_some, if_pos (by omega), r1, fz, Option.bind_some]
theorem Eval_eq (x : S24) (vals : List Int) (h : nodes x ≤ 1000000) : ∃ v, Ev fun k => ring_Eval.f k x.f0 x.f1 x.f2 vals = some v ∧ tenetref24_Eval.f k x.f0 x.f1 x.f2 vals = some v := by
  have ev := (Valid_eq h).and (refValid_eq x)
  cases hv : validB x with
  | false =>
    refine ⟨(0, 4), ev.mono fun k ⟨e1, e2⟩ => ⟨?_, ?_⟩⟩
    · unfold ring_Eval.f
      rw [e1, hv]
      rfl
    · unfold tenetref24_Eval.f
      rw [e2, hv]
      rfl
  | true =>
    have hg : good x = true := by
      unfold validB at hv
      simp only [Bool.and_eq_true] at hv
      exact hv.2
    obtain ⟨v, e⟩ := eval_eq vals _ x (Nat.lt_succ_self _) hg
    refine ⟨(v, 0), (ev.and e).mono fun k ⟨⟨e1, e2⟩, e3, e4⟩ => ⟨?_, ?_⟩⟩
    · unfold ring_Eval.f
      rw [e1, hv, Option.bind_some, if_pos rfl, e3]
      rfl
    · unfold tenetref24_Eval.f
      rw [e2, hv, Option.bind_some, if_pos rfl, e4]
      rfl
theorem evals_true (x : S24) (vals : List Int) : ∃ k, tenetlaw24_RingEvals.f k x.f0 x.f1 x.f2 vals = some true := by
  refine Ev.one ?_
  have hj : Ev fun k => tenetlaw24_RingEvals.j0 k vals true x.f0 x.f1 x.f2 = some true := Ev.succ (Ev.all fun k => rfl)
  by_cases hb : 400 < nodes x
  · refine ((big_eq x).and hj).mono fun k ⟨e, e2⟩ => ?_
    unfold tenetlaw24_RingEvals.f
    rw [e, decide_eq_true hb, Option.bind_some, if_pos rfl, e2]
  · have hj2 : Ev fun k => tenetlaw24_RingEvals.j0 k vals (decide ((vals.length : Int) > 100)) x.f0 x.f1 x.f2 = some true := by
      by_cases hl : (vals.length : Int) > 100
      · rw [decide_eq_true hl]
        exact hj
      · obtain ⟨v, e⟩ := Eval_eq x vals (by omega)
        rw [decide_eq_false hl]
        refine Ev.succ (e.mono fun k ⟨e1, e2⟩ => ?_)
        unfold tenetlaw24_RingEvals.j0
        dsimp only
        rw [e1, e2]
        simp [tenetlaw24_awake.f]
    refine ((big_eq x).and hj2).mono fun k ⟨e, e2⟩ => ?_
    unfold tenetlaw24_RingEvals.f
    rw [e, decide_eq_false hb, Option.bind_some, if_neg (by decide), e2]
end Go.Proofs.Ytjnplfbggklkfaa
