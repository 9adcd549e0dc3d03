/- Whatever the two expressions are, RingEquals returns true, and they read behind the call as before: no condition. -/
import Derived.Test.YtjnplfbggklkfaaEq7
import Derived.Test.YtjnplfbggklkfaaEq8
import Derived.Test.YtjnplfbggklkfaaEq1
import Derived.ProofKit
import Derived.OpenShut
import Derived.ChangeOld
import Derived.Test.YtjnplfbggklkfaaRows
import Derived.WalkKit
import Derived.Below
import Derived.SizedLaws

/- The law RingEquals, in plain words. -/
namespace Go.Proofs.Ytjnplfbggklkfaa
open Go.RowKit Go.Proofs.YtjnplfbggklkfaaW.PrintWords Go.Proofs.YtjnplfbggklkfaaW.PrintLast Go.Proofs.YtjnplfbggklkfaaW.PrintMore Go.Proofs.Ytjnplfbggklkfaa.Rg
set_option linter.unusedVariables false
set_option linter.unusedSimpArgs false

theorem Okay.keys {l : List S57} (h : Okay l) : ((asc l).map (·.1)).Nodup := by
  have : ((asc l).map (·.1)) = l.map (·.f1) := by simp [asc]
  rw [this]
  have hs := h.srt
  clear this
  induction l with
  | nil => simp
  | cons p l ih =>
    rw [List.map_cons, List.nodup_cons]
    refine ⟨fun hm => ?_, ih h.tail h.tail.srt⟩
    obtain ⟨q, hq, e⟩ := List.mem_map.1 hm
    have := (List.pairwise_cons.1 hs).1 q hq
    rw [e, less8_irr] at this
    cases this
theorem Okay.rep {l : List S57} {f : List Int → Int} (h : Okay l) (hl : l.length ≤ 200) (hf : ∀ k, coef (asc l) k = f k) : Rep (asc l) f :=
  ⟨h.keys, fun p hp => by
    obtain ⟨q, hq, rfl⟩ := List.mem_map.1 hp
    have := h.ent q hq
    exact ⟨this.2.1, this.2.2.1, this.2.2.2⟩, by rw [asc_len]; exact hl, fun k => by rw [← coef_get h.keys]; exact hf k⟩
theorem Okay.long {l : List S57} (h : Okay l) (hl : 200 < l.length) : Big (coef (asc l)) :=
  .inr ⟨(asc l).map (·.1), h.keys, by rw [List.length_map, asc_len]; exact hl, fun k hk => (coef_pos h.plus).2 hk⟩
theorem Okay.flat {l : List S57} (h : Okay l) : Flat (asc l) := fun m hm v hv => by
  obtain ⟨q, hq, rfl⟩ := List.mem_map.1 hm
  exact ((h.ent q hq).2.2.2 v hv).2
/-- The reference's normal form. -/
def NormIs (x : S24) (r : List S57 × Bool) : Prop :=
  (Bad x ∧ r.2 = false) ∨ (¬ Bad x ∧ r.2 = true ∧ Okay r.1 ∧ r.1.length ≤ 200 ∧ ∀ k, coef (asc r.1) k = coef (den x) k)
/-- The end of a sum or product: over a limit or not. -/
theorem fin_is {f : List Int → Int} {ms : Asc} {acc : List S57} (ok : Okay acc) (hp : Plus ms) (hv : ∀ m ∈ ms, m.1.length = 8 ∧ ∀ v ∈ m.1, 0 ≤ v) (hf : ∀ k, coef (asc acc ++ ms) k = f k) :
    ((finS (foldS acc ms)).2 = false ∧ (Big f ∨ Steep ms)) ∨ ((finS (foldS acc ms)).2 = true ∧ Okay (finS (foldS acc ms)).1 ∧ (finS (foldS acc ms)).1.length ≤ 200 ∧ (∀ k, coef (asc (finS (foldS acc ms)).1) k = f k) ∧ Flat ms) := by
  rcases foldS_spec ms acc ok hp hv with ⟨e, h⟩ | ⟨r, e, h1, h2, h3, _⟩
  · rw [e]
    refine .inl ⟨rfl, ?_⟩
    rcases h with ⟨k, h⟩ | h
    · exact .inl (.inl ⟨k, by rw [← hf]; exact h⟩)
    · exact .inr h
  · rw [e]
    by_cases hl : r.length ≤ 200
    · exact .inr ⟨decide_eq_true (by omega), h1, hl, fun k => (h2 k).trans (hf k), h3⟩
    · exact .inl ⟨decide_eq_false (by omega), .inl ((h1.long (by omega)).congr fun k => (h2 k).trans (hf k))⟩
theorem NormIs.good {x : S24} {r : List S57 × Bool} (nb : ¬ Bad x) (h1 : r.2 = true) (h2 : Okay r.1) (h3 : r.1.length ≤ 200) (h4 : ∀ k, coef (asc r.1) k = coef (den x) k) : NormIs x r := .inr ⟨nb, h1, h2, h3, h4⟩
theorem norm_add {x y z : S24} {l r : List S57} (h0 : x.f0 = 3) (hd : den x = den y ++ den z) (hb : Bad x ↔ (Bad y ∨ Bad z) ∨ (x.f0 = 3 ∧ Big (coef (den x))) ∨ (x.f0 = 4 ∧ (Big (coef (den x)) ∨ Steep (den x))))
    (ny : ¬ Bad y) (nz : ¬ Bad z) (ol : Okay l) (or' : Okay r) (cl : ∀ k, coef (asc l) k = coef (den y) k) (cr : ∀ k, coef (asc r) k = coef (den z) k) : NormIs x (finS (foldS l (asc r))) := by
  have hf : ∀ k, coef (asc l ++ asc r) k = coef (den x) k := fun k => by rw [hd, coef_append, coef_append, cl, cr]
  rcases fin_is ol or'.plus (fun m hm => by
    obtain ⟨q, hq, rfl⟩ := List.mem_map.1 hm
    exact ⟨(or'.ent q hq).1, fun v hv => ((or'.ent q hq).2.2.2 v hv).1⟩) hf with ⟨h1, h2⟩ | ⟨h1, h2, h3, h4, _⟩
  · refine .inl ⟨hb.2 (.inr (.inl ⟨h0, ?_⟩)), h1⟩
    rcases h2 with h2 | h2
    · exact h2
    · exact absurd h2 or'.flat.not_steep
  · refine NormIs.good (fun h => ?_) h1 h2 h3 h4
    rcases hb.1 h with (h | h) | ⟨_, h⟩ | ⟨h, _⟩
    · exact ny h
    · exact nz h
    · exact (h2.rep h3 h4).not_big h
    · omega
theorem norm_mul {x y z : S24} {l r : List S57} (h0 : x.f0 = 4) (hd : den x = mulL (den y) (den z)) (hb : Bad x ↔ (Bad y ∨ Bad z) ∨ (x.f0 = 3 ∧ Big (coef (den x))) ∨ (x.f0 = 4 ∧ (Big (coef (den x)) ∨ Steep (den x))))
    (py : Plus (den y)) (pz : Plus (den z)) (ny : ¬ Bad y) (nz : ¬ Bad z) (ol : Okay l) (or' : Okay r) (cl : ∀ k, coef (asc l) k = coef (den y) k) (cr : ∀ k, coef (asc r) k = coef (den z) k) : NormIs x (finS (foldS [] (mulL (asc l) (asc r)))) := by
  have hf : ∀ k, coef (asc [] ++ mulL (asc l) (asc r)) k = coef (den x) k := fun k => by
    rw [hd]
    exact mul_congr cl cr k
  have hst : Steep (mulL (asc l) (asc r)) ↔ Steep (den x) := by
    rw [hd]
    exact steep_congr ol.plus py or'.plus pz cl cr
  rcases fin_is Okay.nil (mul_plus ol.plus or'.plus) (fun m hm => by
    simp only [mulL, List.mem_flatMap, List.mem_map] at hm
    obtain ⟨p, hp, q, hq, rfl⟩ := hm
    obtain ⟨p, hp', rfl⟩ := List.mem_map.1 hp
    obtain ⟨q, hq', rfl⟩ := List.mem_map.1 hq
    have hp := ol.ent p (by assumption)
    have hq := or'.ent q (by assumption)
    refine ⟨vadd_len hp.1 hq.1, fun v hv => ?_⟩
    obtain ⟨n, hn⟩ := List.mem_iff_getElem?.1 hv
    unfold mulM vadd at hn
    rw [List.getElem?_zipWith] at hn
    cases hx : p.f1[n]? with
    | none => simp [hx] at hn
    | some x =>
      cases hy : q.f1[n]? with
      | none => simp [hx, hy] at hn
      | some y =>
        simp only [hx, hy, Option.some.injEq] at hn
        have := (hp.2.2.2 x (List.mem_of_getElem? hx)).1
        have := (hq.2.2.2 y (List.mem_of_getElem? hy)).1
        omega) hf with ⟨h1, h2⟩ | ⟨h1, h2, h3, h4, h5⟩
  · refine .inl ⟨hb.2 (.inr (.inr ⟨h0, ?_⟩)), h1⟩
    rcases h2 with h2 | h2
    · exact .inl h2
    · exact .inr (hst.1 h2)
  · refine NormIs.good (fun h => ?_) h1 h2 h3 h4
    rcases hb.1 h with (h | h) | ⟨h, _⟩ | ⟨_, h | h⟩
    · exact ny h
    · exact nz h
    · omega
    · exact (h2.rep h3 h4).not_big h
    · exact h5.not_steep (hst.2 h)
theorem norm_eq : ∀ (m : Nat) (x : S24), SizeOf.sizeOf x < m → good x = true → ∃ r, NormIs x r ∧ Ev fun k => tenetref24_normal.f k x.f0 x.f1 x.f2 = some r
  | 0, _, h, _ => absurd h (by omega)
  | m + 1, x, h, hg => by
    rcases good_cases hg with ⟨h0, h2, h3, h4, h5, h6⟩ | ⟨h0, h2, h3, h4, h5, h6⟩ | ⟨y, z, h0, h1, h2, gy, gz, hd, hb⟩
    · by_cases hn : x.f1 = 0
      · rw [if_pos hn] at h5
        refine ⟨([], true), .inr ⟨h6, rfl, Okay.nil, by simp, fun k => by rw [h5]; rfl⟩, Ev.succ (Ev.all fun k => ?_)⟩
        unfold tenetref24_normal.f
        try dsimp only
        rw [if_pos h0, if_pos hn]
      · rw [if_neg hn] at h5
        refine ⟨([⟨x.f1, zeros8⟩], true), .inr ⟨h6, rfl, ⟨List.pairwise_singleton _ _, fun p hp => ?_⟩, by simp, fun k => by rw [h5]; rfl⟩, Ev.succ (Ev.all fun k => ?_)⟩
        · rw [List.mem_singleton.1 hp]
          exact ⟨rfl, by simp only; omega, by simp only; omega, show ∀ v ∈ zeros8, 0 ≤ v ∧ v ≤ 60 by decide⟩
        · unfold tenetref24_normal.f
          try dsimp only
          rw [if_pos h0, if_neg hn, if_pos (by omega)]
          rfl
    · obtain ⟨v1, v2⟩ := vec_unit h3 h4
      refine ⟨([⟨1, unit8 x.f1⟩], true), .inr ⟨h6, rfl, ⟨List.pairwise_singleton _ _, fun p hp => ?_⟩, by simp, fun k => by rw [h5]; rfl⟩, Ev.succ (Ev.all fun k => ?_)⟩
      · rw [List.mem_singleton.1 hp]
        exact ⟨v1.1, by simp only; omega, by simp only; omega, v2⟩
      · unfold tenetref24_normal.f
        try dsimp only
        rw [if_neg (by omega), if_pos h0, if_pos (by omega), Option.bind_some, if_pos h3, if_pos (by simp; omega)]
        rfl
    · have hs : SizeOf.sizeOf y < SizeOf.sizeOf x ∧ SizeOf.sizeOf z < SizeOf.sizeOf x := by
        obtain ⟨op, n, l⟩ := x
        simp only at h2
        subst h2
        simp
        omega
      obtain ⟨⟨ly, by'⟩, ny, ey⟩ := norm_eq m y (by omega) gy
      obtain ⟨⟨lz, bz⟩, nz, ez⟩ := norm_eq m z (by omega) gz
      have r0 : rd_T24 x.f2 0 = y := by rw [h2]; rfl
      have r1 : rd_T24 x.f2 1 = z := by rw [h2]; rfl
      have hl : (x.f2.length : Int) = 2 := by rw [h2]; rfl
      rcases ny with ⟨ny, hy⟩ | ⟨ny, hy, oy, ly', cy⟩
      · simp only at hy
        refine ⟨([], false), .inl ⟨hb.2 (.inl (.inl ny)), rfl⟩, Ev.succ (ey.mono fun k ey => ?_)⟩
        unfold tenetref24_normal.f
        try dsimp only
        rw [if_neg (by omega), if_neg (by omega), if_pos (by omega), r0, ey, Option.bind_some, hy]
        rfl
      · simp only at hy
        rcases nz with ⟨nz, hz⟩ | ⟨nz, hz, oz, lz', cz⟩
        · simp only at hz
          refine ⟨([], false), .inl ⟨hb.2 (.inl (.inr nz)), rfl⟩, Ev.succ ((ey.and ez).mono fun k ⟨ey, ez⟩ => ?_)⟩
          unfold tenetref24_normal.f
          try dsimp only
          rw [if_neg (by omega), if_neg (by omega), if_pos (by omega), r0, ey, Option.bind_some, hy, if_pos rfl, if_pos (by omega), r1, ez, Option.bind_some, hz]
          rfl
        · simp only at hz oy ly' cy oz lz' cz
          by_cases h3 : x.f0 = 3
          · rw [if_pos h3] at hd
            refine ⟨_, norm_add h3 hd hb ny nz oy oz cy cz, Ev.succ ((ey.and (ez.and (add_eq oy oz ly' lz'))).mono fun k ⟨ey, ez, ea⟩ => ?_)⟩
            unfold tenetref24_normal.f
            try dsimp only
            rw [if_neg (by omega), if_neg (by omega), if_pos (by omega), r0, ey, Option.bind_some, hy, if_pos rfl, if_pos (by omega), r1, ez, Option.bind_some, hz, if_pos rfl, if_pos h3]
            simp only
            rw [ea]
            rfl
          · rw [if_neg h3] at hd
            refine ⟨_, norm_mul (by omega) hd hb (den_plus' gy) (den_plus' gz) ny nz oy oz cy cz, Ev.succ ((ey.and (ez.and (mul_eq oy oz ly' lz'))).mono fun k ⟨ey, ez, ea⟩ => ?_)⟩
            unfold tenetref24_normal.f
            try dsimp only
            rw [if_neg (by omega), if_neg (by omega), if_pos (by omega), r0, ey, Option.bind_some, hy, if_pos rfl, if_pos (by omega), r1, ez, Option.bind_some, hz, if_pos rfl, if_neg h3]
            simp only
            rw [ea]
            rfl

/-! ### The lists are compared -/
instance : DecidableEq S57 := fun a b => if h : a.f0 = b.f0 ∧ a.f1 = b.f1 then .isTrue (by
    cases a
    cases b
    simp only at h
    rw [h.1, h.2]) else .isFalse (fun e => h (by rw [e]; exact ⟨rfl, rfl⟩))
theorem eq_inner (l r : List S57) (p q : S57) (i : Nat) (hi : i < l.length) (hir : i < r.length) (hl : l.length ≤ 200) (hp : rd_T57 l (i : Int) = p) (hq : rd_T57 r (i : Int) = q) (p8 : p.f1.length = 8) (q8 : q.f1.length = 8) (b : Bool)
    (H : Ev fun k => tenetref24_EqMonos.l0 k l r ((i + 1 : Nat) : Int) = some b) : ∀ (n j : Nat), j + n = 8 → Ev fun k => tenetref24_EqMonos.l1 k l r (i : Int) (j : Int) = some (decide (p.f1.drop j = q.f1.drop j) && b)
  | 0, j, hj => by
    refine Ev.succ (H.mono fun k H => ?_)
    unfold tenetref24_EqMonos.l1
    try dsimp only
    rw [if_pos (by omega), if_pos (by omega), hp, if_neg (by omega), w64 (by omega) (by omega), List.drop_eq_nil_of_le (by omega), List.drop_eq_nil_of_le (by omega)]
    have H' : tenetref24_EqMonos.l0 k l r ((i : Int) + 1) = some b := H
    rw [H']
    simp
  | n + 1, j, hj => by
    obtain ⟨a, ha, ra⟩ := rd_dropI (l := p.f1) (i := j) (by omega)
    obtain ⟨c, hc, rc⟩ := rd_dropI (l := q.f1) (i := j) (by omega)
    refine Ev.succ ((eq_inner l r p q i hi hir hl hp hq p8 q8 b H n (j + 1) (by omega)).mono fun k e => ?_)
    unfold tenetref24_EqMonos.l1
    try dsimp only
    rw [if_pos (by omega), if_pos (by omega), hp, if_pos (by omega), if_pos (by omega), if_pos (by omega), hq, if_pos (by omega), ra, rc, ha, hc]
    by_cases h : a = c
    · rw [if_pos h, w64 (by omega) (by omega)]
      have e' : tenetref24_EqMonos.l1 k l r (i : Int) ((j : Int) + 1) = _ := e
      rw [e', h]
      simp
    · rw [if_neg h]
      simp [h]
theorem eq_loop (l r : List S57) (hlr : l.length = r.length) (hl : l.length ≤ 200) (el : ∀ p ∈ l, p.f1.length = 8) (er : ∀ p ∈ r, p.f1.length = 8) : ∀ (s : List S57) (i : Nat), l.drop i = s → Ev fun k => tenetref24_EqMonos.l0 k l r (i : Int) = some (decide (s = r.drop i))
  | [], i, hs => by
    have hlen : l.length ≤ i := by simpa using hs
    refine Ev.succ (Ev.all fun k => ?_)
    unfold tenetref24_EqMonos.l0
    try dsimp only
    rw [if_neg (by omega), List.drop_eq_nil_of_le (by omega)]
    rfl
  | p :: s, i, hs => by
    obtain ⟨hi, hp, hd, _⟩ := rd_drop57 hs
    have hm : p ∈ l := by
      have : p ∈ l.drop i := by rw [hs]; simp
      exact List.mem_of_mem_drop this
    have hir : i < r.length := by omega
    have hrd := List.drop_eq_getElem_cons hir
    obtain ⟨_, hq, _, _⟩ := rd_drop57 hrd
    have hmr : r[i] ∈ r := List.getElem_mem hir
    generalize r[i] = q at *
    have p8 := el p hm
    have q8 := er q hmr
    have ih := eq_loop l r hlr hl el er s (i + 1) hd
    have hin := eq_inner l r p q i hi hir hl hp hq p8 q8 _ ih 8 0 rfl
    have hj : Ev fun k => tenetref24_EqMonos.j1 k l r (i : Int) false = some (decide (p.f1 = q.f1) && decide (s = r.drop (i + 1))) := by
      refine Ev.succ (hin.mono fun k hin => ?_)
      unfold tenetref24_EqMonos.j1
      try dsimp only
      rw [if_neg (by decide)]
      exact hin
    refine Ev.succ (Ev.succ ?_)
    have hj2 : Ev fun k => tenetref24_EqMonos.j1 (k + 1) l r (i : Int) false = some (decide (p.f1 = q.f1) && decide (s = r.drop (i + 1))) := by
      obtain ⟨k0, hj⟩ := hj
      exact ⟨k0, fun k hk => hj (k + 1) (by omega)⟩
    refine hj2.mono fun k hj => ?_
    unfold tenetref24_EqMonos.l0
    try dsimp only
    rw [if_pos (by omega), if_pos (by omega), if_pos (by omega), hp, hq, hrd]
    by_cases h0 : p.f0 = q.f0
    · have hne : (((p.f1).length : Int) != ((q.f1).length : Int)) = false := by rw [p8, q8]; rfl
      rw [if_pos h0, hne, hj]
      congr 1
      rw [Bool.eq_iff_iff]
      simp only [Bool.and_eq_true, decide_eq_true_eq, List.cons.injEq]
      constructor
      · rintro ⟨e1, e2⟩
        refine ⟨?_, e2⟩
        cases p
        cases q
        simp only at h0 e1
        rw [h0, e1]
      · rintro ⟨e1, e2⟩
        exact ⟨by rw [e1], e2⟩
    · rw [if_neg h0]
      have : ¬ (p :: s = q :: r.drop (i + 1)) := fun e => by
        injection e with e1 _
        exact h0 (by rw [e1])
      rw [decide_eq_false this]
      unfold tenetref24_EqMonos.j1
      rfl
theorem EqMonos_eq {l r : List S57} (hl : Okay l) (hr : Okay r) (h1 : l.length ≤ 200) : Ev fun k => tenetref24_EqMonos.f k l r = some (decide (l = r)) := by
  by_cases h : l.length = r.length
  · refine (eq_loop l r h h1 (fun p hp => (hl.ent p hp).1) (fun p hp => (hr.ent p hp).1) l 0 rfl).mono fun k e => ?_
    unfold tenetref24_EqMonos.f
    rw [if_pos (by omega)]
    exact e
  · refine Ev.all fun k => ?_
    unfold tenetref24_EqMonos.f
    rw [if_neg (by omega), decide_eq_false (fun e => h (by rw [e]))]

/-! ### Equal -/
theorem refEqual_eq (x y : S24) : Ev fun k => tenetref24_Equal.f k x.f0 x.f1 x.f2 y.f0 y.f1 y.f2 = some (answer x y) := by
  have hbad : Ev fun k => tenetref24_Equal.j0 k true x.f0 x.f1 x.f2 y.f0 y.f1 y.f2 = some (false, 4) := Ev.succ (Ev.all fun k => rfl)
  by_cases hx : validB x = true
  · by_cases hy : validB y = true
    · have gx : good x = true := by
        unfold validB at hx
        simp only [Bool.and_eq_true] at hx
        exact hx.2
      have gy : good y = true := by
        unfold validB at hy
        simp only [Bool.and_eq_true] at hy
        exact hy.2
      have ha : answer x y = verdict x y := by unfold answer; rw [if_pos hx, if_pos hy]
      obtain ⟨⟨lx, bx⟩, nx, ex⟩ := norm_eq _ x (Nat.lt_succ_self _) gx
      obtain ⟨⟨ly, by'⟩, ny, ey⟩ := norm_eq _ y (Nat.lt_succ_self _) gy
      have hj : Ev fun k => tenetref24_Equal.j0 k false x.f0 x.f1 x.f2 y.f0 y.f1 y.f2 = some (verdict x y) := by
        have vbad : (Bad x ∨ Bad y) → verdict x y = (false, 2) := fun h => by
          unfold verdict
          rw [if_pos (by rw [Bool.or_eq_true]; exact h.imp (badB_iff gx).2 (badB_iff gy).2)]
        rcases nx with ⟨nx, hbx⟩ | ⟨nx, hbx, ox, lx', cx⟩
        · simp only at hbx
          rw [vbad (.inl nx)]
          refine Ev.succ ((ex.and ey).mono fun k ⟨ex, ey⟩ => ?_)
          unfold tenetref24_Equal.j0
          dsimp only
          rw [ex, ey, hbx]
          simp
        · simp only at hbx ox lx' cx
          rcases ny with ⟨ny, hby⟩ | ⟨ny, hby, oy, ly', cy⟩
          · simp only at hby
            rw [vbad (.inr ny)]
            refine Ev.succ ((ex.and ey).mono fun k ⟨ex, ey⟩ => ?_)
            unfold tenetref24_Equal.j0
            dsimp only
            rw [ex, ey, hbx, hby]
            simp
          · simp only at hby oy ly' cy
            refine Ev.succ ((ex.and (ey.and (EqMonos_eq ox oy lx'))).mono fun k ⟨ex, ey, em⟩ => ?_)
            unfold tenetref24_Equal.j0
            dsimp only
            rw [ex, ey, hbx, hby]
            simp only [Option.bind_some, if_true, Bool.false_eq_true, if_false]
            rw [em, Option.bind_some]
            unfold verdict
            rw [if_neg (by
              rw [Bool.or_eq_true, badB_iff gx, badB_iff gy]
              rintro (h | h)
              · exact nx h
              · exact ny h)]
            congr 2
            rw [Bool.eq_iff_iff, decide_eq_true_eq, sameD_iff]
            constructor
            · intro e k
              rw [← cx, ← cy, e]
            · intro e
              exact Okay.uniq ox oy fun k => by rw [cx, cy, e]
      refine ((refValid_eq x).and ((refValid_eq y).and hj)).mono fun k ⟨e1, e2, e3⟩ => ?_
      unfold tenetref24_Equal.f
      rw [e1, e2, hx, hy, Option.bind_some, if_pos rfl, Option.bind_some, ha]
      exact e3
    · have hy := Bool.eq_false_iff.2 hy
      refine ((refValid_eq x).and ((refValid_eq y).and hbad)).mono fun k ⟨e1, e2, e3⟩ => ?_
      unfold tenetref24_Equal.f answer
      rw [e1, e2, hx, hy, Option.bind_some, if_pos rfl, Option.bind_some]
      exact e3
  · have hx := Bool.eq_false_iff.2 hx
    refine ((refValid_eq x).and hbad).mono fun k ⟨e1, e3⟩ => ?_
    unfold tenetref24_Equal.f answer
    rw [e1, hx, Option.bind_some, if_neg (by decide)]
    exact e3
theorem equals_true (x y : S24) : ∃ k, tenetlaw24_RingEquals.f k x.f0 x.f1 x.f2 y.f0 y.f1 y.f2 = some true := by
  refine Ev.one ?_
  have hj : Ev fun k => tenetlaw24_RingEquals.j0 k true x.f0 x.f1 x.f2 y.f0 y.f1 y.f2 = some true := Ev.succ (Ev.all fun k => rfl)
  by_cases bx : 400 < nodes x
  · refine ((big_eq x).and hj).mono fun k ⟨e, e2⟩ => ?_
    unfold tenetlaw24_RingEquals.f
    rw [e, decide_eq_true bx, Option.bind_some, if_pos rfl, e2]
  · by_cases bY : 400 < nodes y
    · refine ((big_eq x).and ((big_eq y).and hj)).mono fun k ⟨e, e', e2⟩ => ?_
      unfold tenetlaw24_RingEquals.f
      rw [e, decide_eq_false bx, Option.bind_some, if_neg (by decide), e', decide_eq_true bY, Option.bind_some, e2]
    · have hj2 : Ev fun k => tenetlaw24_RingEquals.j0 k false x.f0 x.f1 x.f2 y.f0 y.f1 y.f2 = some true := by
        refine Ev.succ (((Equal_eq (x := x) (y := y) (by omega) (by omega)).and (refEqual_eq x y)).mono fun k ⟨e1, e2⟩ => ?_)
        unfold tenetlaw24_RingEquals.j0
        dsimp only
        rw [e1, e2]
        simp [tenetlaw24_awake.f]
      refine ((big_eq x).and ((big_eq y).and hj2)).mono fun k ⟨e, e', e2⟩ => ?_
      unfold tenetlaw24_RingEquals.f
      rw [e, decide_eq_false bx, Option.bind_some, if_neg (by decide), e', decide_eq_false bY, Option.bind_some, e2]
end Go.Proofs.Ytjnplfbggklkfaa

/- An expression that is read as an argument: its cells and its slices, in the print's words. -/
namespace Go.Proofs.Ytjnplfbggklkfaa
open Go.RowKit Go.Proofs.YtjnplfbggklkfaaW.PrintWords Go.Proofs.Ytjnplfbggklkfaa.Rg
set_option linter.unusedVariables false
set_option linter.unusedSimpArgs false

section
variable {H : Type} {enc : TypeId × Value → H} {W : World} {spare : Nat → Bool} {held : Bool}
/-- The numbers of an expression are ints. -/
def inI (n : Int) : Prop := -9223372036854775808 ≤ n ∧ n ≤ 9223372036854775807
theorem open24 : ∀ (fuel : Nat) (cs : List Value) (x : DataW H × List MemPlace), DataW.trod enc Try.prog W 0 spare held fuel 24 cs = some x →
    ∃ (s : S24) (A : Option Addr) (c : Nat), cs = [.int .i64 s.f0, .int .i64 s.f1, .slice A s.f2.length c] ∧ s.f2.length ≤ c ∧ Kd.C k24 W A s.f2.length s.f2 := by
  intro fuel
  induction fuel using Nat.strongRecOn with
  | _ fuel ih =>
    intro cs x h
    obtain ⟨xs, n, hn, _, hl, hlen, hf⟩ := DataW.trod_struct Try.underlying24 h
    rw [show Try.prog.cellsOf 24 = 3 by kernel_rfl] at hl
    match cs, hl with
    | [v0, v1, v2], _ =>
      have hx : ∀ i < 3, ∃ y, xs[i]? = some y := fun i hi => ⟨xs[i]'(by rw [hlen]; exact hi), List.getElem?_eq_getElem _⟩
      have c3 : Try.prog.cellsOf 3 = 1 := by kernel_rfl
      have c22 : Try.prog.cellsOf 22 = 1 := by kernel_rfl
      have f0 : DataW.trod enc Try.prog W 0 spare held n 3 (List.take (Try.prog.cellsOf 3) (List.drop 0 [v0, v1, v2])) = xs[0]? := hf 0 (Field.mk "Op" 3 0 false "" "" 0) rfl
      have f1 : DataW.trod enc Try.prog W 0 spare held n 3 (List.take (Try.prog.cellsOf 3) (List.drop 1 [v0, v1, v2])) = xs[1]? := hf 1 (Field.mk "N" 3 1 false "" "" 8) rfl
      have f2 : DataW.trod enc Try.prog W 0 spare held n 22 (List.take (Try.prog.cellsOf 22) (List.drop 2 [v0, v1, v2])) = xs[2]? := hf 2 (Field.mk "L" 22 2 false "" "" 16) rfl
      rw [c3] at f0 f1
      rw [c22] at f2
      obtain ⟨y0, e0⟩ := hx 0 (by omega)
      obtain ⟨y1, e1⟩ := hx 1 (by omega)
      obtain ⟨y2, e2⟩ := hx 2 (by omega)
      rw [e0] at f0
      rw [e1] at f1
      rw [e2] at f2
      obtain ⟨m0, g0, _, _⟩ := DataW.trod_int Try.underlying3 f0
      obtain ⟨m1, g1, _, _⟩ := DataW.trod_int Try.underlying3 f1
      obtain rfl : v0 = .int .i64 m0 := by simpa using g0
      obtain rfl : v1 = .int .i64 m1 := by simpa using g1
      rcases DataW.trod_slice Try.underlying22 f2 with ⟨g2, _⟩ | ⟨a, len, cap, elems, rest, n', hn', g2, _, _, hlc, hcm, hel, hcells, _, _⟩
      · obtain rfl : v2 = .slice none 0 0 := by simpa using g2
        exact ⟨⟨m0, m1, []⟩, none, 0, rfl, Nat.le_refl _, ⟨rfl, by show 0 ≤ 9223372036854775807; omega, fun h => absurd h (show ¬ 0 < 0 by omega)⟩⟩
      · obtain rfl : v2 = .slice (some a) len cap := by simpa using g2
        have hall : ∀ i, i < len → ∃ s : S24, ∃ A c, (∀ j u, ([.int .i64 s.f0, .int .i64 s.f1, .slice A s.f2.length c] : List Value)[j]? = some u → W.cell? (a.add (i * 3 + j)) = some u) ∧ s.f2.length ≤ c ∧ Kd.C k24 W A s.f2.length s.f2 := fun i hi => by
          have hc := hcells i hi
          rw [List.getElem?_eq_getElem (by omega)] at hc
          obtain ⟨cs', h1, h2⟩ := Option.bind_eq_some_iff.1 hc
          obtain ⟨s, A, c, rfl, hle, hC⟩ := ih n' (by omega) cs' _ h2
          refine ⟨s, A, c, fun j u hj => ?_, hle, hC⟩
          obtain ⟨_, hlen', hcell⟩ := World.cells?_some h1
          rw [show Try.prog.cellsOf 24 = 3 by kernel_rfl] at hlen' hcell
          have hj3 : j < 3 := by
            have := (List.getElem?_eq_some_iff.1 hj).1
            simpa using this
          rw [← add_add, hcell j hj3, hj]
        obtain ⟨l, hl2, hget⟩ : ∃ l : List S24, l.length = len ∧ ∀ i s, l[i]? = some s → ∃ A c, (∀ j u, ([.int .i64 s.f0, .int .i64 s.f1, .slice A s.f2.length c] : List Value)[j]? = some u → W.cell? (a.add (i * 3 + j)) = some u) ∧ s.f2.length ≤ c ∧ Kd.C k24 W A s.f2.length s.f2 := by
          clear hcells hel ih hf hx f0 f1 f2
          refine ⟨List.ofFn fun i : Fin len => Classical.choose (hall i.1 i.2), by simp, fun i s hs => ?_⟩
          obtain ⟨hi, e⟩ := List.getElem?_eq_some_iff.1 hs
          have hi' : i < len := by simpa using hi
          rw [List.getElem_ofFn] at e
          subst e
          exact Classical.choose_spec (hall i hi')
        refine ⟨⟨m0, m1, l⟩, some a, cap, by rw [hl2], by rw [hl2]; exact hlc, ?_⟩
        show Kd.C k24 W (some a) l.length l
        have hmx : maxLen ≤ 9223372036854775807 := by decide
        refine ⟨rfl, by omega, fun _ => ⟨a, rfl, fun j p hj => ?_⟩⟩
        obtain ⟨A, c, h1, h2, h3⟩ := hget j p hj
        exact ⟨_, rfl, k24_mk W p h2 h3, h1⟩
theorem arg24 {r : _} {base : Nat} {v : Value} {d : DataW H} {ps : List MemPlace} (hv : Value.okWide Try.prog W r base 24 v) (h : DataW.Trod enc Try.prog W 0 spare held 24 v d ps) :
    ∃ (s : S24) (A : Option Addr) (c : Nat), v = .agg #[.int .i64 s.f0, .int .i64 s.f1, .slice A s.f2.length c] ∧ s.f2.length ≤ c ∧ Kd.C k24 W A s.f2.length s.f2 := by
  obtain ⟨cs, rfl, hs⟩ := Go.WideShapes.okWide_struct Try.underlying24 hv
  obtain ⟨fuel, hf⟩ := h
  obtain ⟨s, A, c, e, h1, h2⟩ := open24 fuel _ _ hf
  refine ⟨s, A, c, ?_, h1, h2⟩
  have e' : cs.toList = [.int .i64 s.f0, .int .i64 s.f1, .slice A s.f2.length c] := e
  congr 1
  rw [← Array.toArray_toList (xs := cs), e']
/-- A slice of ints that is read as an argument. -/
theorem argInts {t : Nat} {base : Nat} {a : Option Addr} {len cap : Nat} {d : DataW H} {ps : List MemPlace} (hu : Try.prog.underlying t = some (.slice 3)) (h : DataW.Trod enc Try.prog W base spare held t (.slice a len cap) d ps) :
    ∃ l : List Int, l.length = len ∧ len ≤ cap ∧ Kd.C (Kd.int .i64) W a len l := by
  obtain ⟨fuel, hf⟩ := h
  have c3 : Try.prog.cellsOf 3 = 1 := by kernel_rfl
  rcases Go.ChangeShapes.open_ints hu Try.underlying3 c3 hf with ⟨hcs, _⟩ | ⟨x, l, c, zs, hcs, _, hl, hm, hz, _, hcell, hwz⟩
  · simp [Value.cells] at hcs
    obtain ⟨rfl, rfl, rfl⟩ := hcs
    exact ⟨[], rfl, Nat.le_refl _, ⟨rfl, by omega, fun h => absurd h (by omega)⟩⟩
  · simp [Value.cells] at hcs
    obtain ⟨rfl, rfl, rfl⟩ := hcs
    have hlz : len ≤ zs.length := by rw [hz]; split <;> omega
    have hmx : maxLen ≤ 9223372036854775807 := by decide
    refine ⟨zs.take len, by simp; omega, hl, ⟨by simp; omega, by omega, fun _ => ⟨x, rfl, fun j p hj => ?_⟩⟩⟩
    rw [List.getElem?_take] at hj
    split at hj
    · rename_i hjl
      refine ⟨[.int .i64 p], rfl, rfl, fun i u hi => ?_⟩
      have hi0 : i = 0 := by
        have := (List.getElem?_eq_some_iff.1 hi).1
        simp at this
        omega
      subst hi0
      obtain rfl : Value.int .i64 p = u := by simpa using hi
      have hc := hcell j (by omega)
      rw [List.getD_eq_getElem?_getD, hj] at hc
      rw [show j * (Kd.int .i64).sz + 0 = j from Nat.mul_one j]
      exact hc
    · cases hj
end
end Go.Proofs.Ytjnplfbggklkfaa

/- Whatever the two expressions are, RingEquals returns true, and they read behind the call as before: no condition. -/
namespace Go.Proofs.Ytjnplfbggklkfaa.ringEquals
open Go.ChangeShapes Go.WideShapes Go.ChangeAt Go.RowKit
set_option linter.unusedVariables false
theorem own : ownKnob Try.prog.godebug = none := by kernel_rfl
theorem laidOut : laidOutB Try.prog = true := by kernel_rfl
set_option maxRecDepth 100000 in
theorem lifted (os : Os) (started : os.Started) (H : Type) (enc : TypeId × Value → H) :
    ReturnsInHanded {} Try.checked os 3 .any (Rows.ringEqualsSpec.pre6 enc Try.prog Try.f3 Rows.ringEqualsRow.domain false) (Rows.ringEqualsSpec.post enc Try.prog Try.f3 false true false false) := by
  refine returnsInHanded_of_change_sized (C := Try.checked) own started (by kernel_rfl) Try.func3
    (ChangeSpec.witness6 (enc := enc) (C := Try.checked) false ⟨#[], #[.agg #[.int .i64 0, .int .i64 0, .slice none 0 0], .agg #[.int .i64 0, .int .i64 0, .slice none 0 0]], []⟩ 8 (by kernel_rfl) (by kernel_rfl) (by kernel_rfl) (by kernel_rfl)) ?_
  intro W base args ds gs before hval0 hW hcnd hsz0 _
  have hval : ∀ (j : Nat) t v, Try.f3.params[j]? = some t → args[j]? = some v → Value.okWide Try.prog W .any base t v := hval0
  have hW' := hW
  obtain ⟨p, q, hA0, hV, rfl, hfz, hnd⟩ := hW
  have hA : DataW.TrodAll enc Try.prog W 0 (fun _ => true) true Try.f3.params.toList args.toList ds p := hA0
  rw [Try.params3] at hA hval
  obtain ⟨v0, vs0, d0, ds0, p0, q0, hargs, rfl, rfl, h0, r0⟩ := trodAll_cons hA
  obtain ⟨v1, vs1, d1, ds1, p1, q1, rfl, rfl, rfl, h1, r1⟩ := trodAll_cons r0
  obtain ⟨rfl, rfl, rfl⟩ := trodAll_nil r1
  obtain rfl : args = #[v0, v1] := by cases args; simp_all
  obtain ⟨rfl, rfl⟩ := trodVars_none hV
  obtain ⟨x, A, c, rfl, hxc, hx⟩ := arg24 (hval 0 24 v0 rfl rfl) h0
  obtain ⟨y, A', c', rfl, hyc, hy⟩ := arg24 (hval 1 24 v1 rfl rfl) h1
  have lt0 : ∀ x ∈ p0, x.block < W.heap.size := by obtain ⟨m, hm⟩ := h0; exact DataW.trod_lt m _ _ _ hm
  have lt1 : ∀ x ∈ p1, x.block < W.heap.size := by obtain ⟨m, hm⟩ := h1; exact DataW.trod_lt m _ _ _ hm
  obtain ⟨k, hk⟩ := equals_true x y
  clear hA0 hval0 hsz0 hval
  refine (Rg.tenetlaw24_RingEquals.calls k x.f0 x.f1 A c x.f2 y.f0 y.f1 A' c' y.f2 true W hx hxc hy hyc hk).mono fun e W' ⟨he, bel⟩ => ?_
  subst he
  exact ⟨_, rfl, _, _, _, [], _, [], hW', trodAll_mk1 (shut_bool Try.underlying4 _), (trodAll_cons_mk (Below.trod laidOut (by kernel_rfl) (of_decide_eq_true (by kernel_rfl)) h0 bel lt0) (trodAll_cons_mk (Below.trod laidOut (by kernel_rfl) (of_decide_eq_true (by kernel_rfl)) h1 bel lt1) trodAll_mk0)), rfl, bel.frame _, fun h => by cases h⟩
theorem over : Rows.ringEqualsRow.holds Try.pinned (OpenSpec.ofChange Rows.ringEqualsSpec) :=
  OpenClaim.holds_of_wide 3 Try.f3 rfl rfl rfl rfl rfl rfl rfl ⟨rfl, rfl, rfl, rfl, rfl⟩ rfl rfl rfl rfl rfl (by kernel_rfl) Try.func3 (by kernel_rfl)
    (of_decide_eq_true (by kernel_rfl)) (by unfold Func.isWrapper; first | (rw [if_pos (by decide +kernel)]; kernel_rfl) | (rw [if_neg (by decide +kernel)]; exact ⟨rfl, rfl⟩))
    (fun os started H enc _ => lifted os started H enc)
theorem proved : Rows.RingEqualsSaid := over
#print axioms proved
end Go.Proofs.Ytjnplfbggklkfaa.ringEquals
namespace Go.Proofs.Ytjnplfbggklkfaa
/-- The row, under a short name, for the claim. -/
theorem ringEquals_holds : Rows.RingEqualsSaid := ringEquals.proved
end Go.Proofs.Ytjnplfbggklkfaa
