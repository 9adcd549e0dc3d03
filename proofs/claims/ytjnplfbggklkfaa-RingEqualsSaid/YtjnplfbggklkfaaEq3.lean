/- Texts of this claim, one behind the other: Rg27, Rg28, RgSize, RgRefA, Rg32, Rg33. -/
import Derived.Test.YtjnplfbggklkfaaEq1
import Derived.Test.YtjnplfbggklkfaaEq2

-- Written by a program of this claim's session: print.py's form, some functions told by hand.
namespace Go.Proofs.Ytjnplfbggklkfaa.Rg
open Go.RowKit Go.Proofs.YtjnplfbggklkfaaW.PrintWords Go.Proofs.YtjnplfbggklkfaaW.PrintLast Go.Proofs.YtjnplfbggklkfaaW.PrintMore
attribute [local go_sem] max2_int min2_int max_two min_two max_three min_three max_four min_four   -- for this text's walks alone
set_option linter.unusedVariables false
set_option linter.unusedSimpArgs false

/-! ### tenetref24_formed: function 28 -/
mutual
def tenetref24_formed.j0 : Nat → Int → Bool → Int → Int → List (S24) → Option (Bool)
 | 0, _, _, _, _, _ => none
 | k + 1, x1, x40, x163000, x163001, x163002 => if x40 = true then (if x163001 = 0 then (if (x163002.length : Int) = 2 then (if 0 < (x163002.length : Int) then ((tenetref24_formed.f k ((rd_T24 x163002 0).f0) ((rd_T24 x163002 0).f1) ((rd_T24 x163002 0).f2) x1).bind fun t164 => (if t164 = true then (if 1 < (x163002.length : Int) then ((tenetref24_formed.f k ((rd_T24 x163002 1).f0) ((rd_T24 x163002 1).f1) ((rd_T24 x163002 1).f2) x1).bind fun t166 => (some t166)) else (none)) else (some false))) else (none)) else (some false)) else (some false)) else (some false)
def tenetref24_formed.f : Nat → Int → Int → List (S24) → Int → Option (Bool)
 | 0, _, _, _, _ => none
 | k + 1, a0_0, a0_1, l0_2, a1 => if a0_0 = 1 then (if a0_1 ≥ 0 then (if a0_1 ≤ a1 then (some ((l0_2.length : Int) == 0)) else (some false)) else (some false)) else (if a0_0 = 2 then (if a0_1 ≥ 0 then (if a0_1 < 8 then (some ((l0_2.length : Int) == 0)) else (some false)) else (some false)) else (if a0_0 = 3 then (tenetref24_formed.j0 k a1 (a0_0 == 3) a0_0 a0_1 l0_2) else (tenetref24_formed.j0 k a1 (a0_0 == 4) a0_0 a0_1 l0_2)))
end
theorem tenetref24_formed.mono_l : ∀ k, (∀ y0 y1 y2 y3, LeO (tenetref24_formed.f k y0 y1 y2 y3) (tenetref24_formed.f (k + 1) y0 y1 y2 y3)) ∧ (∀ y0 y1 y2 y3 y4, LeO (tenetref24_formed.j0 k y0 y1 y2 y3 y4) (tenetref24_formed.j0 (k + 1) y0 y1 y2 y3 y4))
 | 0 => ⟨fun _ _ _ _ r h => by simp [tenetref24_formed.f] at h, fun _ _ _ _ _ r h => by simp [tenetref24_formed.j0] at h⟩
 | k + 1 => by
  obtain ⟨ih0, ih1⟩ := tenetref24_formed.mono_l k
  refine ⟨?_, ?_⟩
  ·
   intro y0 y1 y2 y3
   unfold tenetref24_formed.f
   repeat' first
   | (with_reducible exact ih0 _ _ _ _)
   | (with_reducible exact ih1 _ _ _ _ _)
   | (with_reducible exact LeO.refl _)
   | (with_reducible exact LeO.none _)
   | (with_reducible refine LeO.ite ?_ ?_)
   | (with_reducible refine LeO.bind ?_ (fun _ => ?_))
   | exact ih0 _ _ _ _
   | exact ih1 _ _ _ _ _
   | exact LeO.none _
   | refine LeO.ite ?_ ?_
   | refine LeO.bind ?_ (fun _ => ?_)
  ·
   intro y0 y1 y2 y3 y4
   unfold tenetref24_formed.j0
   repeat' first
   | (with_reducible exact ih0 _ _ _ _)
   | (with_reducible exact ih1 _ _ _ _ _)
   | (with_reducible exact LeO.refl _)
   | (with_reducible exact LeO.none _)
   | (with_reducible refine LeO.ite ?_ ?_)
   | (with_reducible refine LeO.bind ?_ (fun _ => ?_))
   | exact ih0 _ _ _ _
   | exact ih1 _ _ _ _ _
   | exact LeO.none _
   | refine LeO.ite ?_ ?_
   | refine LeO.bind ?_ (fun _ => ?_)
theorem tenetref24_formed.mono : ∀ a0 a1 a2 a3 k, LeO (tenetref24_formed.f k a0 a1 a2 a3) (tenetref24_formed.f (k + 1) a0 a1 a2 a3) := by
 intro a0 a1 a2 a3 k
 obtain ⟨ih0, ih1⟩ := tenetref24_formed.mono_l k
 exact ih0 a0 a1 a2 a3
set_option maxHeartbeats 8000000 in
set_option maxRecDepth 100000 in
theorem tenetref24_formed.calls (k : Nat) : ∀ (a0_0 : Int) (a0_1 : Int) (A0_2 : Option Addr) (c0_2 : Nat) (l0_2 : List (S24)) (a1 : Int) (r : Bool) (w : World) (hr0_2 : Kd.C k24 w A0_2 l0_2.length l0_2) (hc0_2 : l0_2.length ≤ c0_2) (h : tenetref24_formed.f k a0_0 a0_1 l0_2 a1 = some r),
  Calls Try.prog 28 #[.agg #[.int .i64 a0_0, .int .i64 a0_1, .slice A0_2 l0_2.length c0_2], .int .i64 a1] w fun e w' => e = .returned (.bool r) ∧ Below w.heap.size w w' := by
 induction k using Nat.strongRecOn with
 | _ k ih =>
 intro a0_0 a0_1 A0_2 c0_2 l0_2 a1 r w hr0_2 hc0_2 h
 cases k with
 | zero => exact absurd h (by simp [tenetref24_formed.f])
 | succ k =>
 simp only [tenetref24_formed.f] at h
 have hu24 := Try.underlying24
 have HR0_2 := Am hr0_2
 have HC0_2 := Am hc0_2
 clear hr0_2 hc0_2
 have HB := Am (Below.refl w.heap.size w)
 have H : (if a0_0 = 1 then (if a0_1 ≥ 0 then (if a0_1 ≤ a1 then (some ((l0_2.length : Int) == 0)) else (some false)) else (some false)) else (if a0_0 = 2 then (if a0_1 ≥ 0 then (if a0_1 < 8 then (some ((l0_2.length : Int) == 0)) else (some false)) else (some false)) else (if a0_0 = 3 then (tenetref24_formed.j0 k a1 (a0_0 == 3) a0_0 a0_1 l0_2) else (tenetref24_formed.j0 k a1 (a0_0 == 4) a0_0 a0_1 l0_2)))) = some r := h
 clear h
 by_cases c3 : a0_0 = 1
 ·
  rw [if_pos c3] at H
  have c3b0 : (a0_0 == 1) = true := beq_iff_eq.mpr c3
  have c3b1 : (a0_0 != 1) = false := bne_eq_false_iff_eq.mpr c3
  clear c3
  by_cases c4 : a0_1 ≥ 0
  ·
   rw [if_pos c4] at H
   have c4b0 : decide (0 ≤ a0_1) = true := decide_eq_true c4
   clear c4
   by_cases c5 : a0_1 ≤ a1
   ·
    rw [if_pos c5] at H
    have c5b0 : decide (a0_1 ≤ a1) = true := decide_eq_true c5
    clear c5
    obtain rfl := Option.some.inj H
    go_enter Try.func28, Try.ntmps28
    go_wp2_with (first | ((with_reducible refine gate_dst (N := 2) rfl ?_); (try (refine gate_guard (by rfl) ?_; dsimp only)); refine box_event ?hg (N := 2) ?hd (cs := #[.int .i64 a0_0, .int .i64 a0_1, .slice A0_2 l0_2.length c0_2]) (t := 24) ?hr ?_; (case hd => rfl); (case hg => rfl); (case hr => first | (go_simp; done) | (go_simp; rfl)); intro gb162 hg w6 hbox hb; have n0_ := Am (below_step (by repeat (first | (with_reducible first | exact HB.out | apply pA | apply pN | apply pD) | exact HB.out)) hb); have n1_ := Am (hbox); have n2_ := Am ((by rw [hg]; exact (below_size (by repeat (first | (with_reducible first | exact HB.out | apply pA | apply pN | apply pD) | exact HB.out))) : w.heap.size ≤ gb162)); have n3_ := Am ((by rw [hg]; exact (below_size (by repeat (first | (with_reducible first | exact HB.out | apply pA | apply pN | apply pD) | exact HB.out))) : w.heap.size ≤ gb162)); clear HB; have HB := n0_; have BK162 := n1_; have GW162 := n2_; have GE162 := n3_; clear n0_ n1_ n2_ n3_; clear hb hbox hg; have hcz7_0 : w6.cell? ⟨gb162, 0, none⟩ = some (.int .i64 a0_0) := (blk_cell BK162.out 0).trans rfl; have hcz7_1 : w6.cell? ⟨gb162, 1, none⟩ = some (.int .i64 a0_1) := (blk_cell BK162.out 1).trans rfl; have hcz7_2 : w6.cell? ⟨gb162, 2, none⟩ = some (.slice A0_2 l0_2.length c0_2) := (blk_cell BK162.out 2).trans rfl; have hfz7_0 := blk_frozen BK162.out 0; have hfz7_1 := blk_frozen BK162.out 1; have hfz7_2 := blk_frozen BK162.out 2))
    go_ret
    exact ⟨by first | rfl | (simp [errW_none, errW_some] <;> rfl) | (simp [*, errW_none, errW_some] <;> rfl), by repeat (first | (with_reducible first | exact HB.out | apply pA | apply pN | apply pD | refine pS ?_ GE162.out) | exact HB.out)⟩
   ·
    rw [if_neg c5] at H
    have c5b0 : decide (a0_1 ≤ a1) = false := decide_eq_false c5
    clear c5
    obtain rfl := Option.some.inj H
    go_enter Try.func28, Try.ntmps28
    go_wp2_with (first | ((with_reducible refine gate_dst (N := 2) rfl ?_); (try (refine gate_guard (by rfl) ?_; dsimp only)); refine box_event ?hg (N := 2) ?hd (cs := #[.int .i64 a0_0, .int .i64 a0_1, .slice A0_2 l0_2.length c0_2]) (t := 24) ?hr ?_; (case hd => rfl); (case hg => rfl); (case hr => first | (go_simp; done) | (go_simp; rfl)); intro gb162 hg w8 hbox hb; have n0_ := Am (below_step (by repeat (first | (with_reducible first | exact HB.out | apply pA | apply pN | apply pD) | exact HB.out)) hb); have n1_ := Am (hbox); have n2_ := Am ((by rw [hg]; exact (below_size (by repeat (first | (with_reducible first | exact HB.out | apply pA | apply pN | apply pD) | exact HB.out))) : w.heap.size ≤ gb162)); have n3_ := Am ((by rw [hg]; exact (below_size (by repeat (first | (with_reducible first | exact HB.out | apply pA | apply pN | apply pD) | exact HB.out))) : w.heap.size ≤ gb162)); clear HB; have HB := n0_; have BK162 := n1_; have GW162 := n2_; have GE162 := n3_; clear n0_ n1_ n2_ n3_; clear hb hbox hg; have hcz9_0 : w8.cell? ⟨gb162, 0, none⟩ = some (.int .i64 a0_0) := (blk_cell BK162.out 0).trans rfl; have hcz9_1 : w8.cell? ⟨gb162, 1, none⟩ = some (.int .i64 a0_1) := (blk_cell BK162.out 1).trans rfl; have hcz9_2 : w8.cell? ⟨gb162, 2, none⟩ = some (.slice A0_2 l0_2.length c0_2) := (blk_cell BK162.out 2).trans rfl; have hfz9_0 := blk_frozen BK162.out 0; have hfz9_1 := blk_frozen BK162.out 1; have hfz9_2 := blk_frozen BK162.out 2))
    go_ret
    exact ⟨by first | rfl | (simp [errW_none, errW_some] <;> rfl) | (simp [*, errW_none, errW_some] <;> rfl), by repeat (first | (with_reducible first | exact HB.out | apply pA | apply pN | apply pD | refine pS ?_ GE162.out) | exact HB.out)⟩
  ·
   rw [if_neg c4] at H
   have c4b0 : decide (0 ≤ a0_1) = false := decide_eq_false c4
   clear c4
   obtain rfl := Option.some.inj H
   go_enter Try.func28, Try.ntmps28
   go_wp2_with (first | ((with_reducible refine gate_dst (N := 2) rfl ?_); (try (refine gate_guard (by rfl) ?_; dsimp only)); refine box_event ?hg (N := 2) ?hd (cs := #[.int .i64 a0_0, .int .i64 a0_1, .slice A0_2 l0_2.length c0_2]) (t := 24) ?hr ?_; (case hd => rfl); (case hg => rfl); (case hr => first | (go_simp; done) | (go_simp; rfl)); intro gb162 hg w10 hbox hb; have n0_ := Am (below_step (by repeat (first | (with_reducible first | exact HB.out | apply pA | apply pN | apply pD) | exact HB.out)) hb); have n1_ := Am (hbox); have n2_ := Am ((by rw [hg]; exact (below_size (by repeat (first | (with_reducible first | exact HB.out | apply pA | apply pN | apply pD) | exact HB.out))) : w.heap.size ≤ gb162)); have n3_ := Am ((by rw [hg]; exact (below_size (by repeat (first | (with_reducible first | exact HB.out | apply pA | apply pN | apply pD) | exact HB.out))) : w.heap.size ≤ gb162)); clear HB; have HB := n0_; have BK162 := n1_; have GW162 := n2_; have GE162 := n3_; clear n0_ n1_ n2_ n3_; clear hb hbox hg; have hcz11_0 : w10.cell? ⟨gb162, 0, none⟩ = some (.int .i64 a0_0) := (blk_cell BK162.out 0).trans rfl; have hcz11_1 : w10.cell? ⟨gb162, 1, none⟩ = some (.int .i64 a0_1) := (blk_cell BK162.out 1).trans rfl; have hcz11_2 : w10.cell? ⟨gb162, 2, none⟩ = some (.slice A0_2 l0_2.length c0_2) := (blk_cell BK162.out 2).trans rfl; have hfz11_0 := blk_frozen BK162.out 0; have hfz11_1 := blk_frozen BK162.out 1; have hfz11_2 := blk_frozen BK162.out 2))
   go_ret
   exact ⟨by first | rfl | (simp [errW_none, errW_some] <;> rfl) | (simp [*, errW_none, errW_some] <;> rfl), by repeat (first | (with_reducible first | exact HB.out | apply pA | apply pN | apply pD | refine pS ?_ GE162.out) | exact HB.out)⟩
 ·
  rw [if_neg c3] at H
  have c3b0 : (a0_0 == 1) = false := beq_eq_false_iff_ne.mpr c3
  have c3b1 : (a0_0 != 1) = true := bne_iff_ne.mpr c3
  by_cases c12 : a0_0 = 2
  ·
   rw [if_pos c12] at H
   have c12b0 : (a0_0 == 2) = true := beq_iff_eq.mpr c12
   have c12b1 : (a0_0 != 2) = false := bne_eq_false_iff_eq.mpr c12
   clear c12
   by_cases c13 : a0_1 ≥ 0
   ·
    rw [if_pos c13] at H
    have c13b0 : decide (0 ≤ a0_1) = true := decide_eq_true c13
    clear c13
    by_cases c14 : a0_1 < 8
    ·
     rw [if_pos c14] at H
     have c14b0 : decide (a0_1 < 8) = true := decide_eq_true c14
     clear c14
     obtain rfl := Option.some.inj H
     go_enter Try.func28, Try.ntmps28
     go_wp2_with (first | ((with_reducible refine gate_dst (N := 2) rfl ?_); (try (refine gate_guard (by rfl) ?_; dsimp only)); refine box_event ?hg (N := 2) ?hd (cs := #[.int .i64 a0_0, .int .i64 a0_1, .slice A0_2 l0_2.length c0_2]) (t := 24) ?hr ?_; (case hd => rfl); (case hg => rfl); (case hr => first | (go_simp; done) | (go_simp; rfl)); intro gb162 hg w15 hbox hb; have n0_ := Am (below_step (by repeat (first | (with_reducible first | exact HB.out | apply pA | apply pN | apply pD) | exact HB.out)) hb); have n1_ := Am (hbox); have n2_ := Am ((by rw [hg]; exact (below_size (by repeat (first | (with_reducible first | exact HB.out | apply pA | apply pN | apply pD) | exact HB.out))) : w.heap.size ≤ gb162)); have n3_ := Am ((by rw [hg]; exact (below_size (by repeat (first | (with_reducible first | exact HB.out | apply pA | apply pN | apply pD) | exact HB.out))) : w.heap.size ≤ gb162)); clear HB; have HB := n0_; have BK162 := n1_; have GW162 := n2_; have GE162 := n3_; clear n0_ n1_ n2_ n3_; clear hb hbox hg; have hcz16_0 : w15.cell? ⟨gb162, 0, none⟩ = some (.int .i64 a0_0) := (blk_cell BK162.out 0).trans rfl; have hcz16_1 : w15.cell? ⟨gb162, 1, none⟩ = some (.int .i64 a0_1) := (blk_cell BK162.out 1).trans rfl; have hcz16_2 : w15.cell? ⟨gb162, 2, none⟩ = some (.slice A0_2 l0_2.length c0_2) := (blk_cell BK162.out 2).trans rfl; have hfz16_0 := blk_frozen BK162.out 0; have hfz16_1 := blk_frozen BK162.out 1; have hfz16_2 := blk_frozen BK162.out 2))
     go_ret
     exact ⟨by first | rfl | (simp [errW_none, errW_some] <;> rfl) | (simp [*, errW_none, errW_some] <;> rfl), by repeat (first | (with_reducible first | exact HB.out | apply pA | apply pN | apply pD | refine pS ?_ GE162.out) | exact HB.out)⟩
    ·
     rw [if_neg c14] at H
     have c14b0 : decide (a0_1 < 8) = false := decide_eq_false c14
     clear c14
     obtain rfl := Option.some.inj H
     go_enter Try.func28, Try.ntmps28
     go_wp2_with (first | ((with_reducible refine gate_dst (N := 2) rfl ?_); (try (refine gate_guard (by rfl) ?_; dsimp only)); refine box_event ?hg (N := 2) ?hd (cs := #[.int .i64 a0_0, .int .i64 a0_1, .slice A0_2 l0_2.length c0_2]) (t := 24) ?hr ?_; (case hd => rfl); (case hg => rfl); (case hr => first | (go_simp; done) | (go_simp; rfl)); intro gb162 hg w17 hbox hb; have n0_ := Am (below_step (by repeat (first | (with_reducible first | exact HB.out | apply pA | apply pN | apply pD) | exact HB.out)) hb); have n1_ := Am (hbox); have n2_ := Am ((by rw [hg]; exact (below_size (by repeat (first | (with_reducible first | exact HB.out | apply pA | apply pN | apply pD) | exact HB.out))) : w.heap.size ≤ gb162)); have n3_ := Am ((by rw [hg]; exact (below_size (by repeat (first | (with_reducible first | exact HB.out | apply pA | apply pN | apply pD) | exact HB.out))) : w.heap.size ≤ gb162)); clear HB; have HB := n0_; have BK162 := n1_; have GW162 := n2_; have GE162 := n3_; clear n0_ n1_ n2_ n3_; clear hb hbox hg; have hcz18_0 : w17.cell? ⟨gb162, 0, none⟩ = some (.int .i64 a0_0) := (blk_cell BK162.out 0).trans rfl; have hcz18_1 : w17.cell? ⟨gb162, 1, none⟩ = some (.int .i64 a0_1) := (blk_cell BK162.out 1).trans rfl; have hcz18_2 : w17.cell? ⟨gb162, 2, none⟩ = some (.slice A0_2 l0_2.length c0_2) := (blk_cell BK162.out 2).trans rfl; have hfz18_0 := blk_frozen BK162.out 0; have hfz18_1 := blk_frozen BK162.out 1; have hfz18_2 := blk_frozen BK162.out 2))
     go_ret
     exact ⟨by first | rfl | (simp [errW_none, errW_some] <;> rfl) | (simp [*, errW_none, errW_some] <;> rfl), by repeat (first | (with_reducible first | exact HB.out | apply pA | apply pN | apply pD | refine pS ?_ GE162.out) | exact HB.out)⟩
   ·
    rw [if_neg c13] at H
    have c13b0 : decide (0 ≤ a0_1) = false := decide_eq_false c13
    clear c13
    obtain rfl := Option.some.inj H
    go_enter Try.func28, Try.ntmps28
    go_wp2_with (first | ((with_reducible refine gate_dst (N := 2) rfl ?_); (try (refine gate_guard (by rfl) ?_; dsimp only)); refine box_event ?hg (N := 2) ?hd (cs := #[.int .i64 a0_0, .int .i64 a0_1, .slice A0_2 l0_2.length c0_2]) (t := 24) ?hr ?_; (case hd => rfl); (case hg => rfl); (case hr => first | (go_simp; done) | (go_simp; rfl)); intro gb162 hg w19 hbox hb; have n0_ := Am (below_step (by repeat (first | (with_reducible first | exact HB.out | apply pA | apply pN | apply pD) | exact HB.out)) hb); have n1_ := Am (hbox); have n2_ := Am ((by rw [hg]; exact (below_size (by repeat (first | (with_reducible first | exact HB.out | apply pA | apply pN | apply pD) | exact HB.out))) : w.heap.size ≤ gb162)); have n3_ := Am ((by rw [hg]; exact (below_size (by repeat (first | (with_reducible first | exact HB.out | apply pA | apply pN | apply pD) | exact HB.out))) : w.heap.size ≤ gb162)); clear HB; have HB := n0_; have BK162 := n1_; have GW162 := n2_; have GE162 := n3_; clear n0_ n1_ n2_ n3_; clear hb hbox hg; have hcz20_0 : w19.cell? ⟨gb162, 0, none⟩ = some (.int .i64 a0_0) := (blk_cell BK162.out 0).trans rfl; have hcz20_1 : w19.cell? ⟨gb162, 1, none⟩ = some (.int .i64 a0_1) := (blk_cell BK162.out 1).trans rfl; have hcz20_2 : w19.cell? ⟨gb162, 2, none⟩ = some (.slice A0_2 l0_2.length c0_2) := (blk_cell BK162.out 2).trans rfl; have hfz20_0 := blk_frozen BK162.out 0; have hfz20_1 := blk_frozen BK162.out 1; have hfz20_2 := blk_frozen BK162.out 2))
    go_ret
    exact ⟨by first | rfl | (simp [errW_none, errW_some] <;> rfl) | (simp [*, errW_none, errW_some] <;> rfl), by repeat (first | (with_reducible first | exact HB.out | apply pA | apply pN | apply pD | refine pS ?_ GE162.out) | exact HB.out)⟩
  ·
   rw [if_neg c12] at H
   have c12b0 : (a0_0 == 2) = false := beq_eq_false_iff_ne.mpr c12
   have c12b1 : (a0_0 != 2) = true := bne_iff_ne.mpr c12
   have HC21 := Am H
   clear H
   go_enter Try.func28, Try.ntmps28
   go_upto_if 40 with (first | ((with_reducible refine gate_dst (N := 2) rfl ?_); (try (refine gate_guard (by rfl) ?_; dsimp only)); refine box_event ?hg (N := 2) ?hd (cs := #[.int .i64 a0_0, .int .i64 a0_1, .slice A0_2 l0_2.length c0_2]) (t := 24) ?hr ?_; (case hd => rfl); (case hg => rfl); (case hr => first | (go_simp; done) | (go_simp; rfl)); intro gb162 hg w22 hbox hb; have n0_ := Am (below_step (by repeat (first | (with_reducible first | exact HB.out | apply pA | apply pN | apply pD) | exact HB.out)) hb); have n1_ := Am (hbox); have n2_ := Am ((by rw [hg]; exact (below_size (by repeat (first | (with_reducible first | exact HB.out | apply pA | apply pN | apply pD) | exact HB.out))) : w.heap.size ≤ gb162)); have n3_ := Am ((by rw [hg]; exact (below_size (by repeat (first | (with_reducible first | exact HB.out | apply pA | apply pN | apply pD) | exact HB.out))) : w.heap.size ≤ gb162)); clear HB; have HB := n0_; have BK162 := n1_; have GW162 := n2_; have GE162 := n3_; clear n0_ n1_ n2_ n3_; clear hb hbox hg; have hcz23_0 : w22.cell? ⟨gb162, 0, none⟩ = some (.int .i64 a0_0) := (blk_cell BK162.out 0).trans rfl; have hcz23_1 : w22.cell? ⟨gb162, 1, none⟩ = some (.int .i64 a0_1) := (blk_cell BK162.out 1).trans rfl; have hcz23_2 : w22.cell? ⟨gb162, 2, none⟩ = some (.slice A0_2 l0_2.length c0_2) := (blk_cell BK162.out 2).trans rfl; have hfz23_0 := blk_frozen BK162.out 0; have hfz23_1 := blk_frozen BK162.out 1; have hfz23_2 := blk_frozen BK162.out 2))
   (try simp only [Act.put, List.setIfInBounds_toArray, List.set_cons_zero, List.set_cons_succ])
   go_cut [40] (fun v40 wc => ∃ (kq : Nat) (x40_20 : Bool), v40 = .bool x40_20 ∧ Aside0 (tenetref24_formed.j0 kq a1 x40_20 a0_0 a0_1 l0_2 = some r) ∧ Aside0 (kq ≤ k) ∧ Aside0 (wc.heap[gb162]? = some (.cells #[.int .i64 a0_0, .int .i64 a0_1, (.slice A0_2 l0_2.length c0_2)] 24 (0, 0))) ∧ Aside0 (Below w.heap.size w wc))
   case first =>
    have H := HC21.out
    clear HC21
    by_cases c24 : a0_0 = 3
    ·
     rw [if_pos c24] at H
     have c24b0 : (a0_0 == 3) = true := beq_iff_eq.mpr c24
     have c24b1 : (a0_0 != 3) = false := bne_eq_false_iff_eq.mpr c24
     clear c24
     (first | rw [c24b0] | (simp only [i64_w, i32_w]; rw [c24b0]) | skip)
     have H' := Am H
     clear H
     go_wp2
     go_meet
     case rel => exact ⟨_, ((a0_0 == 3)), (by first | rfl | (simp; done) | (simp [*]; done)), H', ⟨by first | omega | exact Nat.le_refl _⟩, ⟨by (with_reducible repeat (first | refine bN ?_ _ | refine bD ?_ | refine bA ?_ _)); exact BK162.out⟩, ⟨by repeat (first | (with_reducible first | exact HB.out | apply pA | apply pN | apply pD | refine pS ?_ GE162.out) | exact HB.out)⟩⟩
    ·
     rw [if_neg c24] at H
     have c24b0 : (a0_0 == 3) = false := beq_eq_false_iff_ne.mpr c24
     have c24b1 : (a0_0 != 3) = true := bne_iff_ne.mpr c24
     (first | rw [c24b0] | (simp only [i64_w, i32_w]; rw [c24b0]) | skip)
     have H' := Am H
     clear H
     go_wp2
     go_meet
     case rel => exact ⟨_, ((a0_0 == 4)), (by first | rfl | (simp; done) | (simp [*]; done)), H', ⟨by first | omega | exact Nat.le_refl _⟩, ⟨by (with_reducible repeat (first | refine bN ?_ _ | refine bD ?_ | refine bA ?_ _)); exact BK162.out⟩, ⟨by repeat (first | (with_reducible first | exact HB.out | apply pA | apply pN | apply pD | refine pS ?_ GE162.out) | exact HB.out)⟩⟩
   case rest =>
    clear HC21
    try clear c1
    try clear c2
    try clear p2
    try clear c3
    try clear c3b0
    try clear c3b1
    try clear c4
    try clear c4b0
    try clear c5
    try clear c5b0
    try clear c12
    try clear c12b0
    try clear c12b1
    try clear c13
    try clear c13b0
    try clear c14
    try clear c14b0
    try clear c24
    try clear c24b0
    try clear c24b1
    try clear hcz11_0
    try clear hcz11_1
    try clear hcz11_2
    try clear hcz16_0
    try clear hcz16_1
    try clear hcz16_2
    try clear hcz18_0
    try clear hcz18_1
    try clear hcz18_2
    try clear hcz20_0
    try clear hcz20_1
    try clear hcz20_2
    try clear hcz23_0
    try clear hcz23_1
    try clear hcz23_2
    try clear hcz7_0
    try clear hcz7_1
    try clear hcz7_2
    try clear hcz9_0
    try clear hcz9_1
    try clear hcz9_2
    try clear hfz11_0
    try clear hfz11_1
    try clear hfz11_2
    try clear hfz16_0
    try clear hfz16_1
    try clear hfz16_2
    try clear hfz18_0
    try clear hfz18_1
    try clear hfz18_2
    try clear hfz20_0
    try clear hfz20_1
    try clear hfz20_2
    try clear hfz23_0
    try clear hfz23_1
    try clear hfz23_2
    try clear hfz7_0
    try clear hfz7_1
    try clear hfz7_2
    try clear hfz9_0
    try clear hfz9_1
    try clear hfz9_2
    obtain ⟨kq, x40_20, rfl, HA, HJ20, BK162, HB⟩ := hcut
    cases kq with
    | zero => exact absurd HA.out (by simp [tenetref24_formed.j0])
    | succ kj20 =>
     have H := HA.out
     clear HA
     simp only [tenetref24_formed.j0] at H
     by_cases c25 : x40_20 = true
     ·
      subst c25
      have H1 : (if a0_1 = 0 then (if (l0_2.length : Int) = 2 then (if 0 < (l0_2.length : Int) then ((tenetref24_formed.f kj20 ((rd_T24 l0_2 0).f0) ((rd_T24 l0_2 0).f1) ((rd_T24 l0_2 0).f2) a1).bind fun t164 => (if t164 = true then (if 1 < (l0_2.length : Int) then ((tenetref24_formed.f kj20 ((rd_T24 l0_2 1).f0) ((rd_T24 l0_2 1).f1) ((rd_T24 l0_2 1).f2) a1).bind fun t166 => (some t166)) else (none)) else (some false))) else (none)) else (some false)) else (some false)) = some r := by rw [if_pos rfl] at H; exact H
      clear H
      have H := H1
      clear H1
      by_cases c26 : a0_1 = 0
      ·
       rw [if_pos c26] at H
       have c26b0 : (a0_1 == 0) = true := beq_iff_eq.mpr c26
       have c26b1 : (a0_1 != 0) = false := bne_eq_false_iff_eq.mpr c26
       clear c26
       by_cases c27 : (l0_2.length : Int) = 2
       ·
        rw [if_pos c27] at H
        have c27b0 : ((l0_2.length : Int) == 2) = true := beq_iff_eq.mpr c27
        have c27b1 : ((l0_2.length : Int) != 2) = false := bne_eq_false_iff_eq.mpr c27
        clear c27
        by_cases c28 : 0 < (l0_2.length : Int)
        ·
         rw [if_pos c28] at H
         have c28b0 : decide (0 < (l0_2.length : Int)) = true := decide_eq_true c28
         have c28b1 : decide (0 < l0_2.length) = true := decide_eq_true (by omega)
         clear c28
         replace H := Option.bind_eq_some_iff.mp H
         obtain ⟨t164, A290, H⟩ := H
         replace H : (if t164 = true then (if 1 < (l0_2.length : Int) then ((tenetref24_formed.f kj20 ((rd_T24 l0_2 1).f0) ((rd_T24 l0_2 1).f1) ((rd_T24 l0_2 1).f2) a1).bind fun t166 => (some t166)) else (none)) else (some false)) = some r := H
         have A29 := Am A290
         clear A290
         by_cases c30 : t164 = true
         ·
          subst c30
          have H1 : (if 1 < (l0_2.length : Int) then ((tenetref24_formed.f kj20 ((rd_T24 l0_2 1).f0) ((rd_T24 l0_2 1).f1) ((rd_T24 l0_2 1).f2) a1).bind fun t166 => (some t166)) else (none)) = some r := by rw [if_pos rfl] at H; exact H
          clear H
          have H := H1
          clear H1
          by_cases c31 : 1 < (l0_2.length : Int)
          ·
           rw [if_pos c31] at H
           have c31b0 : decide (1 < (l0_2.length : Int)) = true := decide_eq_true c31
           have c31b1 : decide (1 < l0_2.length) = true := decide_eq_true (by omega)
           clear c31
           replace H := Option.bind_eq_some_iff.mp H
           obtain ⟨t166, A320, H⟩ := H
           replace H : (some t166) = some r := H
           have A32 := Am A320
           clear A320
           obtain rfl := Option.some.inj H
           have hcz33_0 : wc.cell? ⟨gb162, 0, none⟩ = some (.int .i64 a0_0) := (blk_cell BK162.out 0).trans rfl
           have hcz33_1 : wc.cell? ⟨gb162, 1, none⟩ = some (.int .i64 a0_1) := (blk_cell BK162.out 1).trans rfl
           have hcz33_2 : wc.cell? ⟨gb162, 2, none⟩ = some (.slice A0_2 l0_2.length c0_2) := (blk_cell BK162.out 2).trans rfl
           have hfz33_0 := blk_frozen BK162.out 0
           have hfz33_1 := blk_frozen BK162.out 1
           have hfz33_2 := blk_frozen BK162.out 2
           have p163 : 0 ≤ (0 : Int) := (by omega)
           have q163 : 0 < (l0_2.length : Int) := of_decide_eq_true (by first | (with_reducible assumption) | assumption)
           obtain ⟨ad163, A163_2, c163_2, e163, hx163_0, hx163_1, hx163_2, hl163_2, hi163_2⟩ := at_T24 HR0_2.out 0 p163 q163
           cases e163
           have qi163 : (0 < l0_2.length) = True := eq_true (by omega)
           (try rw [show ((0 : Int)).toNat = 0 from rfl] at hx163_0)
           (try rw [show 0 * 3 = 0 from rfl] at hx163_0)
           (try rw [Addr.add_zero'] at hx163_0)
           (try rw [show ((0 : Int)).toNat = 0 from rfl] at hx163_1)
           (try rw [show 0 * 3 = 0 from rfl] at hx163_1)
           (try rw [Addr.add_zero'] at hx163_1)
           (try rw [show ((0 : Int)).toNat = 0 from rfl] at hx163_2)
           (try rw [show 0 * 3 = 0 from rfl] at hx163_2)
           (try rw [Addr.add_zero'] at hx163_2)
           replace hx163_0 := (HB.out.cell (wB w _ hx163_0)).trans hx163_0
           replace hx163_1 := (HB.out.cell (wB w _ hx163_1)).trans hx163_1
           replace hx163_2 := (HB.out.cell (wB w _ hx163_2)).trans hx163_2
           have HR163_2 := Am hi163_2
           have HC163_2 := Am hl163_2
           clear hi163_2 hl163_2
           replace p163 := eq_true p163
           replace q163 := eq_true q163
           go_wp2_with (first | (go_at_call 28; (with_reducible refine (ih kj20 (by have := HJ20.out; omega) ((rd_T24 l0_2 0).f0) ((rd_T24 l0_2 0).f1) _ _ ((rd_T24 l0_2 0).f2) a1 true _ ?side1 ?side2 A29.out).mono ?_); (case side1 => repeat (first | exact (Kd.C_below HR163_2.out HB.out) | (with_reducible refine Kd.C_alloc ?_ _) | (with_reducible refine Kd.C_drewN ?_ _) | (with_reducible refine Kd.C_drew ?_))); (case side2 => exact HC163_2.out); rintro e w34 ⟨rfl, hb⟩; have n0_ := Am (blk_below (g := gb162) (o := .cells #[.int .i64 a0_0, .int .i64 a0_1, .slice (some ad163) l0_2.length c0_2] 24 (0, 0)) (by (with_reducible repeat (first | refine bN ?_ _ | refine bD ?_ | refine bA ?_ _)); exact BK162.out) hb); have n1_ := Am (below_step (by repeat (first | (with_reducible first | exact HB.out | apply pA | apply pN | apply pD | refine pS ?_ GE162.out) | exact HB.out)) hb); clear BK162; clear HB; have BK162 := n0_; have HB := n1_; clear n0_ n1_; (try clear hb); (try clear hb2); (try clear hk); (try clear hi); have hcz35_0 : w34.cell? ⟨gb162, 0, none⟩ = some (.int .i64 a0_0) := (blk_cell BK162.out 0).trans rfl; have hcz35_1 : w34.cell? ⟨gb162, 1, none⟩ = some (.int .i64 a0_1) := (blk_cell BK162.out 1).trans rfl; have hcz35_2 : w34.cell? ⟨gb162, 2, none⟩ = some (.slice (some ad163) l0_2.length c0_2) := (blk_cell BK162.out 2).trans rfl; have hfz35_0 := blk_frozen BK162.out 0; have hfz35_1 := blk_frozen BK162.out 1; have hfz35_2 := blk_frozen BK162.out 2; have p165 : 0 ≤ (1 : Int) := (by omega); have q165 : 1 < (l0_2.length : Int) := of_decide_eq_true (by first | (with_reducible assumption) | assumption); obtain ⟨ad165, A165_2, c165_2, e165, hx165_0, hx165_1, hx165_2, hl165_2, hi165_2⟩ := at_T24 HR0_2.out 1 p165 q165; obtain rfl : ad163 = ad165 := (by injection e165); (try simp only [show (1 : Int).toNat = 1 from rfl, Nat.reduceMul, Nat.reduceEqDiff, Go.Addr.add, ↓reduceIte] at hx165_0); (try simp only [show (1 : Int).toNat = 1 from rfl, Nat.reduceMul, Nat.reduceEqDiff, Go.Addr.add, ↓reduceIte] at hx165_1); (try simp only [show (1 : Int).toNat = 1 from rfl, Nat.reduceMul, Nat.reduceEqDiff, Go.Addr.add, ↓reduceIte] at hx165_2); have qi165 : (1 < l0_2.length) = True := eq_true (by omega); (try rw [show ((1 : Int)).toNat = 1 from rfl] at hx165_0); (try rw [show 1 * 3 = 3 from rfl] at hx165_0); (try rw [show ((1 : Int)).toNat = 1 from rfl] at hx165_1); (try rw [show 1 * 3 = 3 from rfl] at hx165_1); (try rw [show ((1 : Int)).toNat = 1 from rfl] at hx165_2); (try rw [show 1 * 3 = 3 from rfl] at hx165_2); replace hx165_0 := (HB.out.cell (wB w _ hx165_0)).trans hx165_0; replace hx165_1 := (HB.out.cell (wB w _ hx165_1)).trans hx165_1; replace hx165_2 := (HB.out.cell (wB w _ hx165_2)).trans hx165_2; have HR165_2 := Am hi165_2; have HC165_2 := Am hl165_2; clear hi165_2 hl165_2; replace p165 := eq_true p165; replace q165 := eq_true q165) | (go_at_call 28; (with_reducible refine (ih kj20 (by have := HJ20.out; omega) ((rd_T24 l0_2 1).f0) ((rd_T24 l0_2 1).f1) _ _ ((rd_T24 l0_2 1).f2) a1 t166 _ ?side1 ?side2 A32.out).mono ?_); (case side1 => repeat (first | exact (Kd.C_below HR165_2.out HB.out) | (with_reducible refine Kd.C_alloc ?_ _) | (with_reducible refine Kd.C_drewN ?_ _) | (with_reducible refine Kd.C_drew ?_))); (case side2 => exact HC165_2.out); rintro e w36 ⟨rfl, hb⟩; have n0_ := Am (blk_below (g := gb162) (o := .cells #[.int .i64 a0_0, .int .i64 a0_1, .slice (some ad163) l0_2.length c0_2] 24 (0, 0)) (by (with_reducible repeat (first | refine bN ?_ _ | refine bD ?_ | refine bA ?_ _)); exact BK162.out) hb); have n1_ := Am (below_step (by repeat (first | (with_reducible first | exact HB.out | apply pA | apply pN | apply pD | refine pS ?_ GE162.out) | exact HB.out)) hb); clear BK162; clear HB; have BK162 := n0_; have HB := n1_; clear n0_ n1_; (try clear hb); (try clear hb2); (try clear hk); (try clear hi)))
           go_ret
           exact ⟨by first | rfl | (simp [errW_none, errW_some] <;> rfl) | (simp [*, errW_none, errW_some] <;> rfl), by repeat (first | (with_reducible first | exact HB.out | apply pA | apply pN | apply pD | refine pS ?_ GE162.out) | exact HB.out)⟩
          ·
           rw [if_neg c31] at H
           exact absurd H (by simp)
         ·
          replace c30 := Bool.eq_false_iff.mpr c30
          subst c30
          have H1 : (some false) = some r := by rw [if_neg (show ¬ (false = true) by decide)] at H; exact H
          clear H
          have H := H1
          clear H1
          obtain rfl := Option.some.inj H
          have hcz37_0 : wc.cell? ⟨gb162, 0, none⟩ = some (.int .i64 a0_0) := (blk_cell BK162.out 0).trans rfl
          have hcz37_1 : wc.cell? ⟨gb162, 1, none⟩ = some (.int .i64 a0_1) := (blk_cell BK162.out 1).trans rfl
          have hcz37_2 : wc.cell? ⟨gb162, 2, none⟩ = some (.slice A0_2 l0_2.length c0_2) := (blk_cell BK162.out 2).trans rfl
          have hfz37_0 := blk_frozen BK162.out 0
          have hfz37_1 := blk_frozen BK162.out 1
          have hfz37_2 := blk_frozen BK162.out 2
          have p163 : 0 ≤ (0 : Int) := (by omega)
          have q163 : 0 < (l0_2.length : Int) := of_decide_eq_true (by first | (with_reducible assumption) | assumption)
          obtain ⟨ad163, A163_2, c163_2, e163, hx163_0, hx163_1, hx163_2, hl163_2, hi163_2⟩ := at_T24 HR0_2.out 0 p163 q163
          cases e163
          have qi163 : (0 < l0_2.length) = True := eq_true (by omega)
          (try rw [show ((0 : Int)).toNat = 0 from rfl] at hx163_0)
          (try rw [show 0 * 3 = 0 from rfl] at hx163_0)
          (try rw [Addr.add_zero'] at hx163_0)
          (try rw [show ((0 : Int)).toNat = 0 from rfl] at hx163_1)
          (try rw [show 0 * 3 = 0 from rfl] at hx163_1)
          (try rw [Addr.add_zero'] at hx163_1)
          (try rw [show ((0 : Int)).toNat = 0 from rfl] at hx163_2)
          (try rw [show 0 * 3 = 0 from rfl] at hx163_2)
          (try rw [Addr.add_zero'] at hx163_2)
          replace hx163_0 := (HB.out.cell (wB w _ hx163_0)).trans hx163_0
          replace hx163_1 := (HB.out.cell (wB w _ hx163_1)).trans hx163_1
          replace hx163_2 := (HB.out.cell (wB w _ hx163_2)).trans hx163_2
          have HR163_2 := Am hi163_2
          have HC163_2 := Am hl163_2
          clear hi163_2 hl163_2
          replace p163 := eq_true p163
          replace q163 := eq_true q163
          go_wp2_with (first | (go_at_call 28; (with_reducible refine (ih kj20 (by have := HJ20.out; omega) ((rd_T24 l0_2 0).f0) ((rd_T24 l0_2 0).f1) _ _ ((rd_T24 l0_2 0).f2) a1 false _ ?side1 ?side2 A29.out).mono ?_); (case side1 => repeat (first | exact (Kd.C_below HR163_2.out HB.out) | (with_reducible refine Kd.C_alloc ?_ _) | (with_reducible refine Kd.C_drewN ?_ _) | (with_reducible refine Kd.C_drew ?_))); (case side2 => exact HC163_2.out); rintro e w38 ⟨rfl, hb⟩; have n0_ := Am (blk_below (g := gb162) (o := .cells #[.int .i64 a0_0, .int .i64 a0_1, .slice (some ad163) l0_2.length c0_2] 24 (0, 0)) (by (with_reducible repeat (first | refine bN ?_ _ | refine bD ?_ | refine bA ?_ _)); exact BK162.out) hb); have n1_ := Am (below_step (by repeat (first | (with_reducible first | exact HB.out | apply pA | apply pN | apply pD | refine pS ?_ GE162.out) | exact HB.out)) hb); clear BK162; clear HB; have BK162 := n0_; have HB := n1_; clear n0_ n1_; (try clear hb); (try clear hb2); (try clear hk); (try clear hi)))
          go_ret
          exact ⟨by first | rfl | (simp [errW_none, errW_some] <;> rfl) | (simp [*, errW_none, errW_some] <;> rfl), by repeat (first | (with_reducible first | exact HB.out | apply pA | apply pN | apply pD | refine pS ?_ GE162.out) | exact HB.out)⟩
        ·
         rw [if_neg c28] at H
         exact absurd H (by simp)
       ·
        rw [if_neg c27] at H
        have c27b0 : ((l0_2.length : Int) == 2) = false := beq_eq_false_iff_ne.mpr c27
        have c27b1 : ((l0_2.length : Int) != 2) = true := bne_iff_ne.mpr c27
        obtain rfl := Option.some.inj H
        have hcz39_0 : wc.cell? ⟨gb162, 0, none⟩ = some (.int .i64 a0_0) := (blk_cell BK162.out 0).trans rfl
        have hcz39_1 : wc.cell? ⟨gb162, 1, none⟩ = some (.int .i64 a0_1) := (blk_cell BK162.out 1).trans rfl
        have hcz39_2 : wc.cell? ⟨gb162, 2, none⟩ = some (.slice A0_2 l0_2.length c0_2) := (blk_cell BK162.out 2).trans rfl
        have hfz39_0 := blk_frozen BK162.out 0
        have hfz39_1 := blk_frozen BK162.out 1
        have hfz39_2 := blk_frozen BK162.out 2
        go_wp2
        go_ret
        exact ⟨by first | rfl | (simp [errW_none, errW_some] <;> rfl) | (simp [*, errW_none, errW_some] <;> rfl), by repeat (first | (with_reducible first | exact HB.out | apply pA | apply pN | apply pD | refine pS ?_ GE162.out) | exact HB.out)⟩
      ·
       rw [if_neg c26] at H
       have c26b0 : (a0_1 == 0) = false := beq_eq_false_iff_ne.mpr c26
       have c26b1 : (a0_1 != 0) = true := bne_iff_ne.mpr c26
       obtain rfl := Option.some.inj H
       have hcz40_0 : wc.cell? ⟨gb162, 0, none⟩ = some (.int .i64 a0_0) := (blk_cell BK162.out 0).trans rfl
       have hcz40_1 : wc.cell? ⟨gb162, 1, none⟩ = some (.int .i64 a0_1) := (blk_cell BK162.out 1).trans rfl
       have hcz40_2 : wc.cell? ⟨gb162, 2, none⟩ = some (.slice A0_2 l0_2.length c0_2) := (blk_cell BK162.out 2).trans rfl
       have hfz40_0 := blk_frozen BK162.out 0
       have hfz40_1 := blk_frozen BK162.out 1
       have hfz40_2 := blk_frozen BK162.out 2
       go_wp2
       go_ret
       exact ⟨by first | rfl | (simp [errW_none, errW_some] <;> rfl) | (simp [*, errW_none, errW_some] <;> rfl), by repeat (first | (with_reducible first | exact HB.out | apply pA | apply pN | apply pD | refine pS ?_ GE162.out) | exact HB.out)⟩
     ·
      replace c25 := Bool.eq_false_iff.mpr c25
      subst c25
      have H1 : (some false) = some r := by rw [if_neg (show ¬ (false = true) by decide)] at H; exact H
      clear H
      have H := H1
      clear H1
      obtain rfl := Option.some.inj H
      go_wp2
      go_ret
      exact ⟨by first | rfl | (simp [errW_none, errW_some] <;> rfl) | (simp [*, errW_none, errW_some] <;> rfl), by repeat (first | (with_reducible first | exact HB.out | apply pA | apply pN | apply pD | refine pS ?_ GE162.out) | exact HB.out)⟩

end Go.Proofs.Ytjnplfbggklkfaa.Rg

-- Written by a program of this claim's session: print.py's form, some functions told by hand.
namespace Go.Proofs.Ytjnplfbggklkfaa.Rg
open Go.RowKit Go.Proofs.YtjnplfbggklkfaaW.PrintWords Go.Proofs.YtjnplfbggklkfaaW.PrintLast Go.Proofs.YtjnplfbggklkfaaW.PrintMore
attribute [local go_sem] max2_int min2_int max_two min_two max_three min_three max_four min_four   -- for this text's walks alone
set_option linter.unusedVariables false
set_option linter.unusedSimpArgs false

/-! ### tenetref24_Valid: function 19 -/
def tenetref24_Valid.f (k : Nat) (a0_0 : Int) (a0_1 : Int) (l0_2 : List (S24)) : Option (Bool) := (tenetref24_Size.f k a0_0 a0_1 l0_2 60).bind fun bt168 => (if bt168.1 ≤ 60 then (if bt168.2 ≤ 12 then ((tenetref24_formed.f k a0_0 a0_1 l0_2 1000000).bind fun t170 => (some t170)) else (some false)) else (some false))
theorem tenetref24_Valid.mono : ∀ a0 a1 a2 k, LeO (tenetref24_Valid.f k a0 a1 a2) (tenetref24_Valid.f (k + 1) a0 a1 a2) := by
 intro a0 a1 a2 k
 unfold tenetref24_Valid.f
 repeat' first
   | (with_reducible exact tenetref24_Size.mono _ _ _ _ _)
   | (with_reducible exact tenetref24_formed.mono _ _ _ _ _)
   | (with_reducible exact LeO.refl _)
   | (with_reducible exact LeO.none _)
   | (with_reducible refine LeO.ite ?_ ?_)
   | (with_reducible refine LeO.bind ?_ (fun _ => ?_))
   | exact tenetref24_Size.mono _ _ _ _ _
   | exact tenetref24_formed.mono _ _ _ _ _
   | exact LeO.none _
   | refine LeO.ite ?_ ?_
   | refine LeO.bind ?_ (fun _ => ?_)
set_option maxHeartbeats 8000000 in
set_option maxRecDepth 100000 in
theorem tenetref24_Valid.calls (k : Nat) (a0_0 : Int) (a0_1 : Int) (A0_2 : Option Addr) (c0_2 : Nat) (l0_2 : List (S24)) (r : Bool) (w : World) (hr0_2 : Kd.C k24 w A0_2 l0_2.length l0_2) (hc0_2 : l0_2.length ≤ c0_2) (h : tenetref24_Valid.f k a0_0 a0_1 l0_2 = some r) :
  Calls Try.prog 19 #[.agg #[.int .i64 a0_0, .int .i64 a0_1, .slice A0_2 l0_2.length c0_2]] w fun e w' => e = .returned (.bool r) ∧ Below w.heap.size w w' := by
 have hu24 := Try.underlying24
 have HR0_2 := Am hr0_2
 have HC0_2 := Am hc0_2
 clear hr0_2 hc0_2
 have HB := Am (Below.refl w.heap.size w)
 have H : ((tenetref24_Size.f k a0_0 a0_1 l0_2 60).bind fun bt168 => (if bt168.1 ≤ 60 then (if bt168.2 ≤ 12 then ((tenetref24_formed.f k a0_0 a0_1 l0_2 1000000).bind fun t170 => (some t170)) else (some false)) else (some false))) = some r := h
 clear h
 replace H := Option.bind_eq_some_iff.mp H
 obtain ⟨⟨t168, t169⟩, A20, H⟩ := H
 replace H : (if t168 ≤ 60 then (if t169 ≤ 12 then ((tenetref24_formed.f k a0_0 a0_1 l0_2 1000000).bind fun t170 => (some t170)) else (some false)) else (some false)) = some r := H
 have A2 := Am A20
 clear A20
 by_cases c3 : t168 ≤ 60
 ·
  rw [if_pos c3] at H
  have c3b0 : decide (t168 ≤ 60) = true := decide_eq_true c3
  clear c3
  by_cases c4 : t169 ≤ 12
  ·
   rw [if_pos c4] at H
   have c4b0 : decide (t169 ≤ 12) = true := decide_eq_true c4
   clear c4
   replace H := Option.bind_eq_some_iff.mp H
   obtain ⟨t170, A50, H⟩ := H
   replace H : (some t170) = some r := H
   have A5 := Am A50
   clear A50
   obtain rfl := Option.some.inj H
   go_enter Try.func19, Try.ntmps19
   go_wp2_with (first | ((with_reducible refine gate_dst (N := 1) rfl ?_); refine box_event ?hg (N := 1) ?hd (cs := #[.int .i64 a0_0, .int .i64 a0_1, .slice A0_2 l0_2.length c0_2]) (t := 24) ?hr ?_; (case hd => rfl); (case hg => rfl); (case hr => first | (go_simp; done) | (go_simp; rfl)); intro gb167 hg w6 hbox hb; have n0_ := Am (below_step (by repeat (first | (with_reducible first | exact HB.out | apply pA | apply pN | apply pD) | exact HB.out)) hb); have n1_ := Am (hbox); have n2_ := Am ((by rw [hg]; exact (below_size (by repeat (first | (with_reducible first | exact HB.out | apply pA | apply pN | apply pD) | exact HB.out))) : w.heap.size ≤ gb167)); have n3_ := Am ((by rw [hg]; exact (below_size (by repeat (first | (with_reducible first | exact HB.out | apply pA | apply pN | apply pD) | exact HB.out))) : w.heap.size ≤ gb167)); clear HB; have HB := n0_; have BK167 := n1_; have GW167 := n2_; have GE167 := n3_; clear n0_ n1_ n2_ n3_; clear hb hbox hg; have hcz7_0 : w6.cell? ⟨gb167, 0, none⟩ = some (.int .i64 a0_0) := (blk_cell BK167.out 0).trans rfl; have hcz7_1 : w6.cell? ⟨gb167, 1, none⟩ = some (.int .i64 a0_1) := (blk_cell BK167.out 1).trans rfl; have hcz7_2 : w6.cell? ⟨gb167, 2, none⟩ = some (.slice A0_2 l0_2.length c0_2) := (blk_cell BK167.out 2).trans rfl; have hfz7_0 := blk_frozen BK167.out 0; have hfz7_1 := blk_frozen BK167.out 1; have hfz7_2 := blk_frozen BK167.out 2) | ((with_reducible refine gate_callee (f := 14) rfl ?_); refine goesL_ (some 7) rfl rfl Try.func14 (by kernel_rfl) rfl #[.agg #[.int .i64 a0_0, .int .i64 a0_1, .slice A0_2 l0_2.length c0_2], .int .i64 60] rfl (by (try simp only [List.map_toArray, List.map_cons, List.map_nil]); first | done | rfl | (simp only [List.length_drop, List.length_take]; rfl)) ?_; (with_reducible refine (tenetref24_Size.calls k a0_0 a0_1 _ _ l0_2 60 t168 t169 _ ?side1 ?side2 A2.out).mono ?_); (case side1 => repeat (first | exact (Kd.C_below HR0_2.out HB.out) | (with_reducible refine Kd.C_alloc ?_ _) | (with_reducible refine Kd.C_drewN ?_ _) | (with_reducible refine Kd.C_drew ?_))); (case side2 => exact HC0_2.out); rintro e w8 ⟨rfl, hb⟩; refine ⟨_, rfl, ?_⟩; have n0_ := Am (blk_below (g := gb167) (o := .cells #[.int .i64 a0_0, .int .i64 a0_1, .slice A0_2 l0_2.length c0_2] 24 (0, 0)) (by (with_reducible repeat (first | refine bN ?_ _ | refine bD ?_ | refine bA ?_ _)); exact BK167.out) hb); have n1_ := Am (below_step (by repeat (first | (with_reducible first | exact HB.out | apply pA | apply pN | apply pD | refine pS ?_ GE167.out) | exact HB.out)) hb); clear BK167; clear HB; have BK167 := n0_; have HB := n1_; clear n0_ n1_; (try clear hb); (try clear hb2); (try clear hk); (try clear hi); have hcz9_0 : w8.cell? ⟨gb167, 0, none⟩ = some (.int .i64 a0_0) := (blk_cell BK167.out 0).trans rfl; have hcz9_1 : w8.cell? ⟨gb167, 1, none⟩ = some (.int .i64 a0_1) := (blk_cell BK167.out 1).trans rfl; have hcz9_2 : w8.cell? ⟨gb167, 2, none⟩ = some (.slice A0_2 l0_2.length c0_2) := (blk_cell BK167.out 2).trans rfl; have hfz9_0 := blk_frozen BK167.out 0; have hfz9_1 := blk_frozen BK167.out 1; have hfz9_2 := blk_frozen BK167.out 2) | (go_at_call 28; (with_reducible refine (tenetref24_formed.calls k a0_0 a0_1 _ _ l0_2 1000000 t170 _ ?side1 ?side2 A5.out).mono ?_); (case side1 => repeat (first | exact (Kd.C_below HR0_2.out HB.out) | (with_reducible refine Kd.C_alloc ?_ _) | (with_reducible refine Kd.C_drewN ?_ _) | (with_reducible refine Kd.C_drew ?_))); (case side2 => exact HC0_2.out); rintro e w10 ⟨rfl, hb⟩; have n0_ := Am (blk_below (g := gb167) (o := .cells #[.int .i64 a0_0, .int .i64 a0_1, .slice A0_2 l0_2.length c0_2] 24 (0, 0)) (by (with_reducible repeat (first | refine bN ?_ _ | refine bD ?_ | refine bA ?_ _)); exact BK167.out) hb); have n1_ := Am (below_step (by repeat (first | (with_reducible first | exact HB.out | apply pA | apply pN | apply pD | refine pS ?_ GE167.out) | exact HB.out)) hb); clear BK167; clear HB; have BK167 := n0_; have HB := n1_; clear n0_ n1_; (try clear hb); (try clear hb2); (try clear hk); (try clear hi)))
   go_ret
   exact ⟨by first | rfl | (simp [errW_none, errW_some] <;> rfl) | (simp [*, errW_none, errW_some] <;> rfl), by repeat (first | (with_reducible first | exact HB.out | apply pA | apply pN | apply pD | refine pS ?_ GE167.out) | exact HB.out)⟩
  ·
   rw [if_neg c4] at H
   have c4b0 : decide (t169 ≤ 12) = false := decide_eq_false c4
   clear c4
   obtain rfl := Option.some.inj H
   go_enter Try.func19, Try.ntmps19
   go_wp2_with (first | ((with_reducible refine gate_dst (N := 1) rfl ?_); refine box_event ?hg (N := 1) ?hd (cs := #[.int .i64 a0_0, .int .i64 a0_1, .slice A0_2 l0_2.length c0_2]) (t := 24) ?hr ?_; (case hd => rfl); (case hg => rfl); (case hr => first | (go_simp; done) | (go_simp; rfl)); intro gb167 hg w11 hbox hb; have n0_ := Am (below_step (by repeat (first | (with_reducible first | exact HB.out | apply pA | apply pN | apply pD) | exact HB.out)) hb); have n1_ := Am (hbox); have n2_ := Am ((by rw [hg]; exact (below_size (by repeat (first | (with_reducible first | exact HB.out | apply pA | apply pN | apply pD) | exact HB.out))) : w.heap.size ≤ gb167)); have n3_ := Am ((by rw [hg]; exact (below_size (by repeat (first | (with_reducible first | exact HB.out | apply pA | apply pN | apply pD) | exact HB.out))) : w.heap.size ≤ gb167)); clear HB; have HB := n0_; have BK167 := n1_; have GW167 := n2_; have GE167 := n3_; clear n0_ n1_ n2_ n3_; clear hb hbox hg; have hcz12_0 : w11.cell? ⟨gb167, 0, none⟩ = some (.int .i64 a0_0) := (blk_cell BK167.out 0).trans rfl; have hcz12_1 : w11.cell? ⟨gb167, 1, none⟩ = some (.int .i64 a0_1) := (blk_cell BK167.out 1).trans rfl; have hcz12_2 : w11.cell? ⟨gb167, 2, none⟩ = some (.slice A0_2 l0_2.length c0_2) := (blk_cell BK167.out 2).trans rfl; have hfz12_0 := blk_frozen BK167.out 0; have hfz12_1 := blk_frozen BK167.out 1; have hfz12_2 := blk_frozen BK167.out 2) | ((with_reducible refine gate_callee (f := 14) rfl ?_); refine goesL_ (some 7) rfl rfl Try.func14 (by kernel_rfl) rfl #[.agg #[.int .i64 a0_0, .int .i64 a0_1, .slice A0_2 l0_2.length c0_2], .int .i64 60] rfl (by (try simp only [List.map_toArray, List.map_cons, List.map_nil]); first | done | rfl | (simp only [List.length_drop, List.length_take]; rfl)) ?_; (with_reducible refine (tenetref24_Size.calls k a0_0 a0_1 _ _ l0_2 60 t168 t169 _ ?side1 ?side2 A2.out).mono ?_); (case side1 => repeat (first | exact (Kd.C_below HR0_2.out HB.out) | (with_reducible refine Kd.C_alloc ?_ _) | (with_reducible refine Kd.C_drewN ?_ _) | (with_reducible refine Kd.C_drew ?_))); (case side2 => exact HC0_2.out); rintro e w13 ⟨rfl, hb⟩; refine ⟨_, rfl, ?_⟩; have n0_ := Am (blk_below (g := gb167) (o := .cells #[.int .i64 a0_0, .int .i64 a0_1, .slice A0_2 l0_2.length c0_2] 24 (0, 0)) (by (with_reducible repeat (first | refine bN ?_ _ | refine bD ?_ | refine bA ?_ _)); exact BK167.out) hb); have n1_ := Am (below_step (by repeat (first | (with_reducible first | exact HB.out | apply pA | apply pN | apply pD | refine pS ?_ GE167.out) | exact HB.out)) hb); clear BK167; clear HB; have BK167 := n0_; have HB := n1_; clear n0_ n1_; (try clear hb); (try clear hb2); (try clear hk); (try clear hi)))
   go_ret
   exact ⟨by first | rfl | (simp [errW_none, errW_some] <;> rfl) | (simp [*, errW_none, errW_some] <;> rfl), by repeat (first | (with_reducible first | exact HB.out | apply pA | apply pN | apply pD | refine pS ?_ GE167.out) | exact HB.out)⟩
 ·
  rw [if_neg c3] at H
  have c3b0 : decide (t168 ≤ 60) = false := decide_eq_false c3
  clear c3
  obtain rfl := Option.some.inj H
  go_enter Try.func19, Try.ntmps19
  go_wp2_with (first | ((with_reducible refine gate_dst (N := 1) rfl ?_); refine box_event ?hg (N := 1) ?hd (cs := #[.int .i64 a0_0, .int .i64 a0_1, .slice A0_2 l0_2.length c0_2]) (t := 24) ?hr ?_; (case hd => rfl); (case hg => rfl); (case hr => first | (go_simp; done) | (go_simp; rfl)); intro gb167 hg w14 hbox hb; have n0_ := Am (below_step (by repeat (first | (with_reducible first | exact HB.out | apply pA | apply pN | apply pD) | exact HB.out)) hb); have n1_ := Am (hbox); have n2_ := Am ((by rw [hg]; exact (below_size (by repeat (first | (with_reducible first | exact HB.out | apply pA | apply pN | apply pD) | exact HB.out))) : w.heap.size ≤ gb167)); have n3_ := Am ((by rw [hg]; exact (below_size (by repeat (first | (with_reducible first | exact HB.out | apply pA | apply pN | apply pD) | exact HB.out))) : w.heap.size ≤ gb167)); clear HB; have HB := n0_; have BK167 := n1_; have GW167 := n2_; have GE167 := n3_; clear n0_ n1_ n2_ n3_; clear hb hbox hg; have hcz15_0 : w14.cell? ⟨gb167, 0, none⟩ = some (.int .i64 a0_0) := (blk_cell BK167.out 0).trans rfl; have hcz15_1 : w14.cell? ⟨gb167, 1, none⟩ = some (.int .i64 a0_1) := (blk_cell BK167.out 1).trans rfl; have hcz15_2 : w14.cell? ⟨gb167, 2, none⟩ = some (.slice A0_2 l0_2.length c0_2) := (blk_cell BK167.out 2).trans rfl; have hfz15_0 := blk_frozen BK167.out 0; have hfz15_1 := blk_frozen BK167.out 1; have hfz15_2 := blk_frozen BK167.out 2) | ((with_reducible refine gate_callee (f := 14) rfl ?_); refine goesL_ (some 7) rfl rfl Try.func14 (by kernel_rfl) rfl #[.agg #[.int .i64 a0_0, .int .i64 a0_1, .slice A0_2 l0_2.length c0_2], .int .i64 60] rfl (by (try simp only [List.map_toArray, List.map_cons, List.map_nil]); first | done | rfl | (simp only [List.length_drop, List.length_take]; rfl)) ?_; (with_reducible refine (tenetref24_Size.calls k a0_0 a0_1 _ _ l0_2 60 t168 t169 _ ?side1 ?side2 A2.out).mono ?_); (case side1 => repeat (first | exact (Kd.C_below HR0_2.out HB.out) | (with_reducible refine Kd.C_alloc ?_ _) | (with_reducible refine Kd.C_drewN ?_ _) | (with_reducible refine Kd.C_drew ?_))); (case side2 => exact HC0_2.out); rintro e w16 ⟨rfl, hb⟩; refine ⟨_, rfl, ?_⟩; have n0_ := Am (blk_below (g := gb167) (o := .cells #[.int .i64 a0_0, .int .i64 a0_1, .slice A0_2 l0_2.length c0_2] 24 (0, 0)) (by (with_reducible repeat (first | refine bN ?_ _ | refine bD ?_ | refine bA ?_ _)); exact BK167.out) hb); have n1_ := Am (below_step (by repeat (first | (with_reducible first | exact HB.out | apply pA | apply pN | apply pD | refine pS ?_ GE167.out) | exact HB.out)) hb); clear BK167; clear HB; have BK167 := n0_; have HB := n1_; clear n0_ n1_; (try clear hb); (try clear hb2); (try clear hk); (try clear hi)))
  go_ret
  exact ⟨by first | rfl | (simp [errW_none, errW_some] <;> rfl) | (simp [*, errW_none, errW_some] <;> rfl), by repeat (first | (with_reducible first | exact HB.out | apply pA | apply pN | apply pD | refine pS ?_ GE167.out) | exact HB.out)⟩

end Go.Proofs.Ytjnplfbggklkfaa.Rg

/- How great an expression is, and whether it is valid: what the program's and the reference's functions come to. No walk here. -/
namespace Go.Proofs.Ytjnplfbggklkfaa
open Go.RowKit Go.Proofs.YtjnplfbggklkfaaW.PrintWords Go.Proofs.YtjnplfbggklkfaaW.PrintLast Go.Proofs.YtjnplfbggklkfaaW.PrintMore Go.Proofs.Ytjnplfbggklkfaa.Rg
set_option linter.unusedVariables false
set_option linter.unusedSimpArgs false

/-- From some number of rounds on. -/
def Ev (p : Nat → Prop) : Prop := ∃ k0, ∀ k, k0 ≤ k → p k
theorem Ev.mono {p q : Nat → Prop} (h : Ev p) (hpq : ∀ k, p k → q k) : Ev q := by
  obtain ⟨k0, h⟩ := h
  exact ⟨k0, fun k hk => hpq k (h k hk)⟩
theorem Ev.and {p q : Nat → Prop} (h : Ev p) (g : Ev q) : Ev fun k => p k ∧ q k := by
  obtain ⟨k0, h⟩ := h
  obtain ⟨k1, g⟩ := g
  exact ⟨max k0 k1, fun k hk => ⟨h k (by omega), g k (by omega)⟩⟩
theorem Ev.succ {p : Nat → Prop} (h : Ev fun k => p (k + 1)) : Ev p := by
  obtain ⟨k0, h⟩ := h
  refine ⟨k0 + 1, fun k hk => ?_⟩
  obtain ⟨k', rfl⟩ : ∃ k', k = k' + 1 := ⟨k - 1, by omega⟩
  exact h k' (by omega)
theorem Ev.all {p : Nat → Prop} (h : ∀ k, p k) : Ev p := ⟨0, fun k _ => h k⟩
theorem Ev.one {p : Nat → Prop} (h : Ev p) : ∃ k, p k := by
  obtain ⟨k0, h⟩ := h
  exact ⟨k0, h k0 (Nat.le_refl _)⟩
mutual
def nodes : S24 → Nat
  | ⟨_, _, l⟩ => 1 + nodesL l
def nodesL : List S24 → Nat
  | [] => 0
  | x :: l => nodes x + nodesL l
end
mutual
def depth : S24 → Nat
  | ⟨_, _, l⟩ => 1 + depthL l
def depthL : List S24 → Nat
  | [] => 0
  | x :: l => max (depth x) (depthL l)
end
theorem nodes_pos (x : S24) : 1 ≤ nodes x := by
  cases x
  rw [nodes]
  omega
theorem depth_le : ∀ (n : Nat), (∀ x : S24, SizeOf.sizeOf x < n → depth x ≤ nodes x) ∧ (∀ l : List S24, SizeOf.sizeOf l < n → depthL l ≤ nodesL l)
  | 0 => ⟨fun _ h => absurd h (by omega), fun _ h => absurd h (by omega)⟩
  | n + 1 => by
    obtain ⟨h1, h2⟩ := depth_le n
    constructor
    · rintro ⟨a, b, l⟩ h
      simp at h
      have := h2 l (by omega)
      rw [depth, nodes]
      omega
    · intro l h
      cases l with
      | nil => simp [depthL, nodesL]
      | cons x l =>
        simp at h
        have := h1 x (by omega)
        have := h2 l (by omega)
        rw [depthL, nodesL]
        omega
theorem depth_nodes (x : S24) : depth x ≤ nodes x := (depth_le (SizeOf.sizeOf x + 1)).1 x (by omega)
theorem w64 {n : Int} (h : -9223372036854775808 ≤ n) (h' : n ≤ 9223372036854775807) : wrap64 n = n := by
  unfold wrap64
  omega
theorem rd_drop {l : List S24} {i : Nat} {x : S24} {s : List S24} (h : l.drop i = x :: s) : i < l.length ∧ rd_T24 l (i : Int) = x ∧ l.drop (i + 1) = s := by
  have hi : i < l.length := by
    by_cases hi : i < l.length
    · exact hi
    · rw [List.drop_eq_nil_of_le (by omega)] at h
      cases h
  rw [List.drop_eq_getElem_cons hi] at h
  injection h with h1 h2
  refine ⟨hi, ?_, h2⟩
  rw [rd_T24, Int.toNat_natCast, List.getD_eq_getElem?_getD, List.getElem?_eq_getElem hi]
  exact h1
theorem drop_nil {l : List S24} {i : Nat} (h : l.drop i = []) : l.length ≤ i := by simpa using h

/-! ### The program's size -/
theorem sizeOf_loop (L : List S24) : ∀ (s : List S24), (∀ x ∈ s, nodes x ≤ 1000000 → Ev fun k => ring_sizeOf.f k x.f0 x.f1 x.f2 = some ((nodes x : Int), (depth x : Int))) → ∀ (i n d : Nat), L.drop i = s → n + nodesL s ≤ 1000000 → i ≤ n → d ≤ n →
    Ev fun k => ring_sizeOf.l0 k (n : Int) (d : Int) L (L.length : Int) (i : Int) = some (((n + nodesL s + 1 : Nat) : Int), ((max d (depthL s) + 1 : Nat) : Int))
  | [], _, i, n, d, hs, hn, hi, hd => by
    have hl := drop_nil hs
    refine Ev.succ (Ev.all fun k => ?_)
    unfold ring_sizeOf.l0
    rw [nodesL] at hn
    rw [if_neg (by omega), nodesL, depthL, w64 (by omega) (by omega), w64 (by omega) (by omega)]
    simp
  | x :: s, hx, i, n, d, hs, hn, hi, hd => by
    obtain ⟨hl, hr, hs'⟩ := rd_drop hs
    rw [nodesL] at hn
    have h1 := nodes_pos x
    have h2 := depth_nodes x
    have e1 := hx x (by simp) (by omega)
    have e2 := sizeOf_loop L s (fun y hy => hx y (by simp [hy])) (i + 1) (n + nodes x) (max d (depth x)) hs' (by omega) (by omega) (by omega)
    refine Ev.succ ((e1.and e2).mono fun k ⟨e1, e2⟩ => ?_)
    unfold ring_sizeOf.l0
    rw [if_pos (by omega), if_pos (by omega), if_pos (by omega), hr, e1, Option.bind_some]
    have hmx : mx (d : Int) (depth x : Int) = ((max d (depth x) : Nat) : Int) := by
      unfold mx
      split <;> omega
    simp only
    rw [hmx, w64 (by omega) (by omega), w64 (by omega) (by omega)]
    have e2' : ring_sizeOf.l0 k ((n : Int) + (nodes x : Int)) ((max d (depth x) : Nat) : Int) L (L.length : Int) ((i : Int) + 1) = _ := e2
    rw [e2', nodesL, depthL]
    congr 2
    · omega
    · omega
theorem sizeOf_eq_ : ∀ (m : Nat) (x : S24), SizeOf.sizeOf x < m → nodes x ≤ 1000000 → Ev fun k => ring_sizeOf.f k x.f0 x.f1 x.f2 = some ((nodes x : Int), (depth x : Int))
  | 0, _, h, _ => absurd h (by omega)
  | m + 1, ⟨a, b, l⟩, h, hn => by
    rw [nodes] at hn
    simp at h
    have := sizeOf_loop l l (fun x hx hn => sizeOf_eq_ m x (by have := List.sizeOf_lt_of_mem hx; omega) hn) 0 0 0 rfl (by omega) (by omega) (by omega)
    refine Ev.succ (this.mono fun k e => ?_)
    unfold ring_sizeOf.f
    have e' : ring_sizeOf.l0 k 0 0 l (l.length : Int) 0 = _ := e
    simp only
    rw [e', nodes, depth]
    congr 2
    · omega
    · omega
theorem sizeOf_eq {x : S24} (h : nodes x ≤ 1000000) : Ev fun k => ring_sizeOf.f k x.f0 x.f1 x.f2 = some ((nodes x : Int), (depth x : Int)) := sizeOf_eq_ _ x (Nat.lt_succ_self _) h

/-! ### The reference's size: it stops above a limit -/
/-- Above the limit: one more than the limit, whatever the depth. -/
def SizeIs (cap N D : Nat) (r : Int × Int) : Prop := r.1 = ((min N (cap + 1) : Nat) : Int) ∧ (N ≤ cap → r.2 = (D : Int)) ∧ (0 ≤ r.1 ∧ r.1 ≤ cap + 1)
theorem Size_over (cap : Nat) (hc : cap ≤ 1000) (a b d i : Int) (L : List S24) : Ev fun k => tenetref24_Size.l0 k (cap : Int) ((cap : Int) + 1) d i a b L = some ((cap : Int) + 1, wrap64 (d + 1)) := by
  refine Ev.succ (Ev.all fun k => ?_)
  unfold tenetref24_Size.l0
  have h : mn ((cap : Int) + 1) (wrap64 ((cap : Int) + 1)) = (cap : Int) + 1 := by
    rw [w64 (by omega) (by omega)]
    unfold mn
    rw [if_neg (by omega)]
  by_cases h1 : i < (L.length : Int)
  · rw [if_pos h1, if_neg (by omega), h]
  · rw [if_neg h1, h]
theorem Size_loop (cap : Nat) (hc : cap ≤ 1000) (a b : Int) (L : List S24) : ∀ (s : List S24), (∀ x ∈ s, ∀ c ≤ cap, ∃ r, SizeIs c (nodes x) (depth x) r ∧ Ev fun k => tenetref24_Size.f k x.f0 x.f1 x.f2 (c : Int) = some r) → ∀ (i n d : Nat), L.drop i = s → n ≤ cap → i + 1 ≤ n → d ≤ n →
    ∃ r, SizeIs cap (n + nodesL s) (max d (depthL s) + 1) r ∧ Ev fun k => tenetref24_Size.l0 k (cap : Int) (n : Int) (d : Int) (i : Int) a b L = some r
  | [], _, i, n, d, hs, hn, hi, hd => by
    have hl := drop_nil hs
    refine ⟨((n : Int), (d : Int) + 1), ⟨by rw [nodesL]; simp only; omega, fun _ => by rw [depthL]; simp only; omega, by simp only; omega⟩, Ev.succ (Ev.all fun k => ?_)⟩
    unfold tenetref24_Size.l0
    rw [if_neg (by omega), w64 (by omega) (by omega), w64 (by omega) (by omega)]
    unfold mn
    rw [if_neg (by omega)]
  | x :: s, hx, i, n, d, hs, hn, hi, hd => by
    obtain ⟨hl, hr, hs'⟩ := rd_drop hs
    have h1 := nodes_pos x
    have h2 := depth_nodes x
    obtain ⟨r1, ⟨i1, i2, i3⟩, e1⟩ := hx x (by simp) (cap - n) (by omega)
    by_cases hb : n + nodes x ≤ cap
    · have i4 := i2 (by omega)
      obtain ⟨r, hr', e2⟩ := Size_loop cap hc a b L s (fun y hy => hx y (by simp [hy])) (i + 1) (n + nodes x) (max d (depth x)) hs' (by omega) (by omega) (by omega)
      refine ⟨r, by rw [nodesL, depthL]; rw [show n + (nodes x + nodesL s) = n + nodes x + nodesL s by omega, show max d (max (depth x) (depthL s)) = max (max d (depth x)) (depthL s) by omega]; exact hr', Ev.succ ((e1.and e2).mono fun k ⟨e1, e2⟩ => ?_)⟩
      unfold tenetref24_Size.l0
      rw [if_pos (by omega), if_pos (by omega), if_pos (by omega), hr, w64 (by omega) (by omega), show (cap : Int) - (n : Int) = ((cap - n : Nat) : Int) by omega, e1, Option.bind_some]
      have hmx : mx (d : Int) r1.2 = ((max d (depth x) : Nat) : Int) := by
        unfold mx
        rw [i4]
        split <;> omega
      have hn' : (n : Int) + r1.1 = ((n + nodes x : Nat) : Int) := by rw [i1]; omega
      rw [hmx, hn', w64 (by omega) (by omega), w64 (by omega) (by omega)]
      exact e2
    · have hi1 : r1.1 = ((cap - n + 1 : Nat) : Int) := by rw [i1]; congr 1; omega
      refine ⟨((cap : Int) + 1, wrap64 (mx (d : Int) r1.2 + 1)), ⟨by rw [nodesL]; simp only; omega, fun h => absurd h (by rw [nodesL]; omega), by simp only; omega⟩, Ev.succ ((e1.and (Size_over cap hc a b (mx (d : Int) r1.2) (wrap64 ((i : Int) + 1)) L)).mono fun k ⟨e1, e2⟩ => ?_)⟩
      unfold tenetref24_Size.l0
      rw [if_pos (by omega), if_pos (by omega), if_pos (by omega), hr, w64 (by omega) (by omega), show (cap : Int) - (n : Int) = ((cap - n : Nat) : Int) by omega, e1, Option.bind_some]
      have hn' : (n : Int) + r1.1 = (cap : Int) + 1 := by rw [hi1]; omega
      rw [hn', w64 (n := (cap : Int) + 1) (by omega) (by omega)]
      exact e2
theorem Size_eq_ : ∀ (m : Nat) (x : S24), SizeOf.sizeOf x < m → ∀ cap ≤ 1000, ∃ r, SizeIs cap (nodes x) (depth x) r ∧ Ev fun k => tenetref24_Size.f k x.f0 x.f1 x.f2 (cap : Int) = some r
  | 0, _, h, _, _ => absurd h (by omega)
  | m + 1, ⟨a, b, l⟩, h, cap, hc => by
    simp at h
    by_cases h0 : cap = 0
    · subst h0
      refine ⟨(1, 1), ⟨by rw [nodes]; simp only; omega, fun h => absurd h (by rw [nodes]; omega), by simp⟩, ?_⟩
      refine Ev.succ ((Size_over 0 (by omega) a b 0 0 l).mono fun k e => ?_)
      unfold tenetref24_Size.f
      rw [show ((0 : Nat) : Int) + 1 = 1 from rfl, w64 (n := 0 + 1) (by omega) (by omega), show (0 : Int) + 1 = 1 from rfl] at e
      exact e
    · obtain ⟨r, hr, e⟩ := Size_loop cap hc a b l l (fun x hx c hc' => Size_eq_ m x (by have := List.sizeOf_lt_of_mem hx; omega) c (by omega)) 0 1 0 rfl (by omega) (by omega) (by omega)
      refine ⟨r, by rw [nodes, depth]; rw [show 1 + depthL l = max 0 (depthL l) + 1 by omega]; exact hr, Ev.succ (e.mono fun k e => ?_)⟩
      unfold tenetref24_Size.f
      exact e
theorem Size_eq (x : S24) (cap : Nat) (h : cap ≤ 1000) : ∃ r, SizeIs cap (nodes x) (depth x) r ∧ Ev fun k => tenetref24_Size.f k x.f0 x.f1 x.f2 (cap : Int) = some r := Size_eq_ _ x (Nat.lt_succ_self _) cap h
theorem big_eq (x : S24) : Ev fun k => tenetlaw24_big.f k x.f0 x.f1 x.f2 = some (decide (400 < nodes x)) := by
  obtain ⟨r, ⟨h1, _, h2⟩, e⟩ := Size_eq x 400 (by omega)
  refine e.mono fun k e => ?_
  unfold tenetlaw24_big.f
  have e' : tenetref24_Size.f k x.f0 x.f1 x.f2 400 = some r := e
  rw [e', Option.bind_some]
  congr 1
  rw [decide_eq_decide]
  omega

/-! ### The form -/
mutual
def formB : S24 → Bool
  | ⟨op, n, l⟩ => (op == 1 && l.isEmpty && decide (0 ≤ n)) || (op == 2 && l.isEmpty && decide (0 ≤ n) && decide (n < 8)) || ((op == 3 || op == 4) && n == 0 && l.length == 2 && formLB l)
def formLB : List S24 → Bool
  | [] => true
  | x :: l => formB x && formLB l
end
theorem good_form : ∀ (m : Nat) (x : S24), SizeOf.sizeOf x < m → good x = (formB x && right x 1000000)
  | 0, _, h => absurd h (by omega)
  | m + 1, ⟨a, b, l⟩, h => by
    simp at h
    have hl : ∀ l' : List S24, SizeOf.sizeOf l' ≤ SizeOf.sizeOf l → goodL l' = (formLB l' && rightL l' 1000000) := by
      intro l' hl'
      induction l' with
      | nil => rw [goodL, formLB, rightL]; rfl
      | cons x r ihr =>
        simp at hl'
        have hx := good_form m x (by omega)
        rw [goodL, formLB, rightL, hx, ihr (by omega)]
        cases formB x <;> cases formLB r <;> cases right x 1000000 <;> cases rightL r 1000000 <;> rfl
    rw [good, formB, right, hl l (Nat.le_refl _)]
    by_cases h1 : a = 1
    · subst h1
      cases l with
      | nil =>
        rw [rightL, Bool.eq_iff_iff]
        simp
      | cons x r => simp
    · have e1 : (a == 1) = false := beq_eq_false_iff_ne.2 h1
      by_cases h2 : a = 2
      · subst h2
        cases l with
        | nil => rw [rightL]; simp
        | cons x r => simp
      · have e2 : (a == 2) = false := beq_eq_false_iff_ne.2 h2
        rw [e1, e2]
        simp only [Bool.false_and, Bool.false_or, Bool.not_false, Bool.true_and]
        rw [Bool.and_assoc (_ && (l.length == 2))]
theorem good_eq (x : S24) : good x = (formB x && right x 1000000) := good_form _ x (Nat.lt_succ_self _)
theorem formed_eq_ : ∀ (m : Nat) (x : S24), SizeOf.sizeOf x < m → Ev fun k => ring_formed.f k x.f0 x.f1 x.f2 = some (formB x)
  | 0, _, h => absurd h (by omega)
  | m + 1, ⟨a, b, l⟩, h => by
    simp at h
    by_cases h1 : a = 1
    · refine Ev.succ (Ev.all fun k => ?_)
      unfold ring_formed.f
      rw [formB]
      subst h1
      cases l with
      | nil => simp
      | cons x r => simp; omega
    · by_cases h2 : a = 2
      · refine Ev.succ (Ev.all fun k => ?_)
        unfold ring_formed.f
        rw [formB]
        subst h2
        cases l with
        | nil =>
          simp
          by_cases hb : 0 ≤ b
          · simp [hb]
          · simp [hb]
        | cons x r => simp; omega
      · have hj : ∀ c : Bool, c = (a == 3 || a == 4) → Ev fun k => ring_formed.j0 k c a b l = some (formB ⟨a, b, l⟩) := by
          intro c hc
          have hf : formB ⟨a, b, l⟩ = (c && b == 0 && l.length == 2 && formLB l) := by
            rw [formB, ← hc]
            simp [h1, h2]
          rw [hf]
          cases hcc : c with
          | false =>
            refine Ev.succ (Ev.all fun k => ?_)
            unfold ring_formed.j0
            simp
          | true =>
            by_cases hl : l.length = 2
            · match l, hl with
              | [y, z], _ =>
                simp at h
                have iy := formed_eq_ m y (by omega)
                have iz := formed_eq_ m z (by omega)
                refine Ev.succ ((iy.and iz).mono fun k ⟨iy, iz⟩ => ?_)
                unfold ring_formed.j0
                rw [formLB, formLB, formLB]
                have ey : ring_formed.f k (rd_T24 [y, z] 0).f0 (rd_T24 [y, z] 0).f1 (rd_T24 [y, z] 0).f2 = some (formB y) := iy
                have ez : ring_formed.f k (rd_T24 [y, z] 1).f0 (rd_T24 [y, z] 1).f1 (rd_T24 [y, z] 1).f2 = some (formB z) := iz
                rw [ey, ez]
                by_cases hb : b = 0
                · subst hb
                  cases formB y <;> simp
                · simp [hb]
            · refine Ev.succ (Ev.all fun k => ?_)
              unfold ring_formed.j0
              rw [if_pos rfl, if_neg (by omega)]
              have : (l.length == 2) = false := beq_eq_false_iff_ne.2 hl
              simp [this]
        have e1 : (a == 1) = false := beq_eq_false_iff_ne.2 h1
        by_cases h3 : a = 3
        · refine Ev.succ ((hj (a == 3) (by simp [h3])).mono fun k e => ?_)
          unfold ring_formed.f
          simp only
          rw [if_neg h1, if_neg h2, if_pos h3]
          exact e
        · refine Ev.succ ((hj (a == 4) (by simp [h3])).mono fun k e => ?_)
          unfold ring_formed.f
          simp only
          rw [if_neg h1, if_neg h2, if_neg h3]
          exact e
theorem formed_eq (x : S24) : Ev fun k => ring_formed.f k x.f0 x.f1 x.f2 = some (formB x) := formed_eq_ _ x (Nat.lt_succ_self _)
/-- Whether an expression is valid. -/
def validB (x : S24) : Bool := decide (nodes x ≤ 60) && decide (depth x ≤ 12) && good x
theorem Valid_eq {x : S24} (h : nodes x ≤ 1000000) : Ev fun k => ring_Valid.f k x.f0 x.f1 x.f2 = some (validB x) := by
  refine ((sizeOf_eq h).and (formed_eq x)).mono fun k ⟨e1, e2⟩ => ?_
  unfold ring_Valid.f validB
  rw [e1, e2, Option.bind_some, good_eq]
  simp only
  by_cases h1 : nodes x ≤ 60
  · rw [if_pos (by omega)]
    by_cases h2 : depth x ≤ 12
    · rw [if_pos (by omega), Option.bind_some]
      unfold ring_right.f
      rw [eta24]
      cases formB x <;> simp [h1, h2]
    · rw [if_neg (by omega)]
      simp [h2]
  · rw [if_neg (by omega)]
    simp [h1]
end Go.Proofs.Ytjnplfbggklkfaa

/- Sorted lists of monomials, as the reference keeps its normal forms: no program here. -/
namespace Go.Proofs.Ytjnplfbggklkfaa
open Go.Proofs.Ytjnplfbggklkfaa.Rg
set_option linter.unusedVariables false
set_option linter.unusedSimpArgs false

/-- The first of two exponent vectors comes first. -/
def less8 : List Int → List Int → Bool
  | a :: u, b :: v => if a = b then less8 u v else decide (a > b)
  | _, _ => false
theorem less8_irr : ∀ u : List Int, less8 u u = false
  | [] => rfl
  | a :: u => by
    rw [less8, if_pos rfl]
    exact less8_irr u
theorem less8_tri : ∀ (u v : List Int), u.length = v.length → less8 u v = false → less8 v u = false → u = v
  | [], [], _, _, _ => rfl
  | a :: u, b :: v, hl, h1, h2 => by
    rw [less8] at h1 h2
    by_cases e : a = b
    · subst e
      rw [if_pos rfl] at h1 h2
      rw [less8_tri u v (by simpa using hl) h1 h2]
    · rw [if_neg e] at h1
      rw [if_neg (fun h => e h.symm)] at h2
      simp at h1 h2
      omega
theorem less8_trans : ∀ (u v x : List Int), less8 u v = true → less8 v x = true → less8 u x = true
  | a :: u, b :: v, c :: x, h1, h2 => by
    rw [less8] at h1 h2 ⊢
    by_cases e1 : a = b
    · subst e1
      rw [if_pos rfl] at h1
      by_cases e2 : a = c
      · subst e2
        rw [if_pos rfl] at h2 ⊢
        exact less8_trans u v x h1 h2
      · rw [if_neg e2] at h2 ⊢
        exact h2
    · rw [if_neg e1] at h1
      simp at h1
      by_cases e2 : b = c
      · subst e2
        rw [if_neg (by omega)]
        simp
        omega
      · rw [if_neg e2] at h2
        simp at h2
        rw [if_neg (by omega)]
        simp
        omega
  | [], _, _, h1, _ => by simp [less8] at h1
  | _ :: _, [], _, h1, _ => by simp [less8] at h1
  | _ :: _, _ :: _, [], _, h2 => by simp [less8] at h2
def asc (l : List S57) : Asc := l.map fun m => (m.f1, m.f0)
/-- A list as the reference keeps it. -/
structure Okay (l : List S57) : Prop where
  srt : l.Pairwise fun p q => less8 p.f1 q.f1 = true
  ent : ∀ p ∈ l, p.f1.length = 8 ∧ 0 < p.f0 ∧ p.f0 ≤ 1000000000000000 ∧ ∀ v ∈ p.f1, 0 ≤ v ∧ v ≤ 60
theorem Okay.nil : Okay [] := ⟨List.Pairwise.nil, fun p h => by cases h⟩
theorem Okay.tail {p : S57} {l : List S57} (h : Okay (p :: l)) : Okay l := ⟨(List.pairwise_cons.1 h.srt).2, fun q hq => h.ent q (by simp [hq])⟩
theorem Okay.plus {l : List S57} (h : Okay l) : Plus (asc l) := fun p hp => by
  obtain ⟨q, hq, rfl⟩ := List.mem_map.1 hp
  exact (h.ent q hq).2.1
theorem coef_asc_none {l : List S57} {k : List Int} (h : ∀ q ∈ l, q.f1 ≠ k) : coef (asc l) k = 0 := by
  refine coef_none fun hk => ?_
  obtain ⟨p, hp, rfl⟩ := List.mem_map.1 hk
  obtain ⟨q, hq, rfl⟩ := List.mem_map.1 hp
  exact h q hq rfl
theorem coef_cons (p : S57) (l : List S57) (k : List Int) : coef (asc (p :: l)) k = (if p.f1 = k then p.f0 else 0) + coef (asc l) k := rfl
theorem Okay.head {p : S57} {l : List S57} (h : Okay (p :: l)) : coef (asc l) p.f1 = 0 := by
  refine coef_asc_none fun q hq e => ?_
  have := (List.pairwise_cons.1 h.srt).1 q hq
  rw [e, less8_irr] at this
  cases this
/-- A monomial is put in. -/
def insertS : List S57 → Int → List Int → Option (List S57)
  | [], c, e => some [⟨c, e⟩]
  | p :: l, c, e => if less8 p.f1 e = true then (insertS l c e).map (p :: ·) else if p.f1 = e then (if p.f0 > 1000000000000000 - c then none else some (⟨p.f0 + c, p.f1⟩ :: l)) else some (⟨c, e⟩ :: p :: l)
theorem insertS_none : ∀ {l : List S57} {c : Int} {e : List Int}, Okay l → insertS l c e = none → 1000000000000000 < coef (asc l) e + c
  | [], c, e, _, h => by simp [insertS] at h
  | p :: l, c, e, ok, h => by
    rw [insertS] at h
    by_cases h1 : less8 p.f1 e = true
    · rw [if_pos h1] at h
      cases hi : insertS l c e with
      | none =>
        have := insertS_none ok.tail hi
        rw [coef_cons, if_neg (fun e' => by rw [e', less8_irr] at h1; cases h1)]
        omega
      | some r => rw [hi] at h; cases h
    · rw [if_neg h1] at h
      by_cases h2 : p.f1 = e
      · rw [if_pos h2] at h
        by_cases h3 : p.f0 > 1000000000000000 - c
        · rw [coef_cons, if_pos h2]
          have := ok.head
          rw [h2] at this
          rw [this]
          omega
        · rw [if_neg h3] at h
          cases h
      · rw [if_neg h2] at h
        cases h
theorem insertS_some : ∀ {l : List S57} {c : Int} {e : List Int} {r : List S57}, Okay l → e.length = 8 → 0 < c → c ≤ 1000000000000000 → (∀ v ∈ e, 0 ≤ v ∧ v ≤ 60) → insertS l c e = some r →
    Okay r ∧ (∀ k, coef (asc r) k = coef (asc l) k + if e = k then c else 0) ∧ (∀ q ∈ r, q.f1 = e ∨ ∃ p ∈ l, p.f1 = q.f1) ∧ r.length ≤ l.length + 1
  | [], c, e, r, ok, h8, h1, h2, h3, h => by
    rw [insertS] at h
    obtain rfl := Option.some.inj h
    refine ⟨⟨List.pairwise_singleton _ _, fun p hp => ?_⟩, fun k => ?_, fun q hq => ?_, by simp⟩
    · rw [List.mem_singleton.1 hp]
      exact ⟨h8, h1, h2, h3⟩
    · rw [coef_cons]
      show (if e = k then c else 0) + 0 = 0 + (if e = k then c else 0)
      omega
    · rw [List.mem_singleton.1 hq]
      exact .inl rfl
  | p :: l, c, e, r, ok, h8, h1, h2, h3, h => by
    rw [insertS] at h
    by_cases c1 : less8 p.f1 e = true
    · rw [if_pos c1] at h
      obtain ⟨r', hi, rfl⟩ := Option.map_eq_some_iff.1 h
      obtain ⟨i1, i2, i3, i4⟩ := insertS_some ok.tail h8 h1 h2 h3 hi
      refine ⟨⟨List.pairwise_cons.2 ⟨fun q hq => ?_, i1.srt⟩, fun q hq => ?_⟩, fun k => ?_, fun q hq => ?_, by simp; omega⟩
      · rcases i3 q hq with e' | ⟨p', hp', e'⟩
        · rw [e']
          exact c1
        · rw [← e']
          exact (List.pairwise_cons.1 ok.srt).1 p' hp'
      · rcases List.mem_cons.1 hq with rfl | hq
        · exact ok.ent _ (by simp)
        · exact i1.ent q hq
      · rw [coef_cons, coef_cons, i2]
        omega
      · rcases List.mem_cons.1 hq with rfl | hq
        · exact .inr ⟨_, by simp, rfl⟩
        · rcases i3 q hq with e' | ⟨p', hp', e'⟩
          · exact .inl e'
          · exact .inr ⟨p', by simp [hp'], e'⟩
    · rw [if_neg c1] at h
      have hp := ok.ent p (by simp)
      by_cases c2 : p.f1 = e
      · rw [if_pos c2] at h
        by_cases c3 : p.f0 > 1000000000000000 - c
        · rw [if_pos c3] at h
          cases h
        · rw [if_neg c3] at h
          obtain rfl := Option.some.inj h
          refine ⟨⟨List.pairwise_cons.2 ⟨fun q hq => (List.pairwise_cons.1 ok.srt).1 q hq, (List.pairwise_cons.1 ok.srt).2⟩, fun q hq => ?_⟩, fun k => ?_, fun q hq => ?_, by simp⟩
          · rcases List.mem_cons.1 hq with rfl | hq
            · exact ⟨hp.1, by simp only; omega, by simp only; omega, hp.2.2.2⟩
            · exact ok.ent q (by simp [hq])
          · rw [coef_cons, coef_cons, c2]
            simp only
            split <;> omega
          · rcases List.mem_cons.1 hq with rfl | hq
            · exact .inl c2
            · exact .inr ⟨q, by simp [hq], rfl⟩
      · rw [if_neg c2] at h
        obtain rfl := Option.some.inj h
        have hlt : less8 e p.f1 = true := by
          cases hh : less8 e p.f1 with
          | true => rfl
          | false => exact absurd (less8_tri p.f1 e (by rw [hp.1, h8]) (Bool.eq_false_iff.2 c1) hh) c2
        refine ⟨⟨List.pairwise_cons.2 ⟨fun q hq => ?_, ok.srt⟩, fun q hq => ?_⟩, fun k => ?_, fun q hq => ?_, by simp⟩
        · rcases List.mem_cons.1 hq with rfl | hq
          · exact hlt
          · exact less8_trans _ _ _ hlt ((List.pairwise_cons.1 ok.srt).1 q hq)
        · rcases List.mem_cons.1 hq with rfl | hq
          · exact ⟨h8, h1, h2, h3⟩
          · exact ok.ent q hq
        · rw [coef_cons (⟨c, e⟩ : S57)]
          simp only
          omega
        · rcases List.mem_cons.1 hq with rfl | hq
          · exact .inl rfl
          · exact .inr ⟨q, hq, rfl⟩
/-- Monomials are put in one after the other. -/
def foldS : List S57 → Asc → Option (List S57)
  | acc, [] => some acc
  | acc, m :: ms => if m.2 > 1000000000000000 ∨ (∃ v ∈ m.1, 60 < v) then none else (insertS acc m.2 m.1).bind fun r => foldS r ms
theorem coef_le_append {a b : Asc} (hb : Plus b) (k : List Int) : coef a k ≤ coef (a ++ b) k := by
  rw [coef_append]
  have := coef_nonneg hb.nn k
  omega
theorem foldS_spec : ∀ (ms : Asc) (acc : List S57), Okay acc → Plus ms → (∀ m ∈ ms, m.1.length = 8 ∧ ∀ v ∈ m.1, 0 ≤ v) →
    (foldS acc ms = none ∧ ((∃ k, 1000000000000000 < coef (asc acc ++ ms) k) ∨ Steep ms)) ∨
    (∃ r, foldS acc ms = some r ∧ Okay r ∧ (∀ k, coef (asc r) k = coef (asc acc ++ ms) k) ∧ Flat ms ∧ r.length ≤ acc.length + ms.length)
  | [], acc, ok, _, _ => .inr ⟨acc, rfl, ok, fun k => by rw [List.append_nil], (fun m hm => by cases hm), by simp⟩
  | m :: ms, acc, ok, hp, hv => by
    have hpm := hp m (by simp)
    have hp' : Plus ms := fun q hq => hp q (by simp [hq])
    have hvm := hv m (by simp)
    rw [foldS]
    by_cases hb : m.2 > 1000000000000000 ∨ (∃ v ∈ m.1, 60 < v)
    · rw [if_pos hb]
      refine .inl ⟨rfl, ?_⟩
      rcases hb with hb | ⟨v, h1, h2⟩
      · refine .inl ⟨m.1, ?_⟩
        rw [coef_append]
        have h1 := coef_nonneg ok.plus.nn m.1
        have h2 := coef_nonneg hp'.nn m.1
        simp only [coef, if_true]
        omega
      · exact .inr ⟨m, by simp, v, h1, h2⟩
    · rw [if_neg hb]
      have hb1 : m.2 ≤ 1000000000000000 := by
        by_cases h : m.2 ≤ 1000000000000000
        · exact h
        · exact absurd (.inl (by omega)) hb
      have hb2 : ∀ v ∈ m.1, 0 ≤ v ∧ v ≤ 60 := fun v h => ⟨hvm.2 v h, by
        by_cases h' : v ≤ 60
        · exact h'
        · exact absurd (.inr ⟨v, h, by omega⟩) hb⟩
      have hsum : ∀ (r : List S57), (∀ k, coef (asc r) k = coef (asc acc) k + if m.1 = k then m.2 else 0) → ∀ k, coef (asc r ++ ms) k = coef (asc acc ++ m :: ms) k := fun r hr k => by
        rw [coef_append, coef_append, hr]
        simp only [coef]
        omega
      cases hi : insertS acc m.2 m.1 with
      | none =>
        have h := insertS_none ok hi
        refine .inl ⟨rfl, .inl ⟨m.1, ?_⟩⟩
        rw [coef_append]
        have h2 := coef_nonneg hp'.nn m.1
        simp only [coef, if_true]
        omega
      | some r =>
        obtain ⟨i1, i2, _, i4⟩ := insertS_some ok hvm.1 hpm hb1 hb2 hi
        rw [Option.bind_some]
        rcases foldS_spec ms r i1 hp' (fun q hq => hv q (by simp [hq])) with ⟨h1, h2⟩ | ⟨r', h1, h2, h3, h4, h5⟩
        · refine .inl ⟨h1, ?_⟩
          rcases h2 with ⟨k, hk⟩ | ⟨q, hq, hx⟩
          · exact .inl ⟨k, by rw [← hsum r i2]; exact hk⟩
          · exact .inr ⟨q, by simp [hq], hx⟩
        · refine .inr ⟨r', h1, h2, fun k => by rw [h3, hsum r i2], fun q hq v hv' => ?_, by simp; omega⟩
          rcases List.mem_cons.1 hq with rfl | hq
          · exact (hb2 v hv').2
          · exact h4 q hq v hv'
/-- Two such lists of the same coefficients are the same. -/
theorem Okay.uniq : ∀ {l r : List S57}, Okay l → Okay r → (∀ k, coef (asc l) k = coef (asc r) k) → l = r
  | [], [], _, _, _ => rfl
  | [], q :: r, _, hr, h => by
    have := h q.f1
    rw [coef_cons, if_pos rfl, hr.head] at this
    have h2 := (hr.ent q (by simp)).2.1
    have h0 : coef (asc []) q.f1 = 0 := rfl
    omega
  | p :: l, [], hl, _, h => by
    have := h p.f1
    rw [coef_cons, if_pos rfl, hl.head] at this
    have h2 := (hl.ent p (by simp)).2.1
    have h0 : coef (asc []) p.f1 = 0 := rfl
    omega
  | p :: l, q :: r, hl, hr, h => by
    have key : ∀ {p q : S57} {l r : List S57}, Okay (p :: l) → Okay (q :: r) → (∀ k, coef (asc (p :: l)) k = coef (asc (q :: r)) k) → ¬ less8 p.f1 q.f1 = true := by
      intro p q l r hl hr h hlt
      have h1 := h p.f1
      rw [coef_cons, if_pos rfl, hl.head] at h1
      have h2 : coef (asc (q :: r)) p.f1 = 0 := coef_asc_none fun x hx e => by
        rcases List.mem_cons.1 hx with rfl | hx
        · rw [e, less8_irr] at hlt
          cases hlt
        · have := less8_trans _ _ _ hlt ((List.pairwise_cons.1 hr.srt).1 x hx)
          rw [e, less8_irr] at this
          cases this
      have h3 := (hl.ent p (by simp)).2.1
      omega
    have n1 := key hl hr h
    have n2 := key hr hl fun k => (h k).symm
    have e := less8_tri p.f1 q.f1 (by rw [(hl.ent p (by simp)).1, (hr.ent q (by simp)).1]) (Bool.eq_false_iff.2 n1) (Bool.eq_false_iff.2 n2)
    have h0 := h p.f1
    rw [coef_cons, coef_cons, if_pos rfl, if_pos e.symm, hl.head] at h0
    have h1 := hr.head
    rw [← e] at h1
    have hpq : p = q := by
      cases p
      cases q
      simp only at e h0 h1
      subst e
      congr 1
      omega
    subst hpq
    rw [Okay.uniq hl.tail hr.tail fun k => by
      have := h k
      rw [coef_cons, coef_cons] at this
      omega]
end Go.Proofs.Ytjnplfbggklkfaa

-- Written by a program of this claim's session: print.py's form, some functions told by hand.
namespace Go.Proofs.Ytjnplfbggklkfaa.Rg
open Go.RowKit Go.Proofs.YtjnplfbggklkfaaW.PrintWords Go.Proofs.YtjnplfbggklkfaaW.PrintLast Go.Proofs.YtjnplfbggklkfaaW.PrintMore
attribute [local go_sem] max2_int min2_int max_two min_two max_three min_three max_four min_four   -- for this text's walks alone
set_option linter.unusedVariables false
set_option linter.unusedSimpArgs false

/-! ### tenetref24_less: function 42 -/
def tenetref24_less.l0 : Nat → List Int → List Int → Int → Option (Bool)
 | 0, _, _, _ => none
 | k + 1, x0, x1, x5 => if x5 < 8 then (if 0 ≤ x5 then (if x5 < (x0.length : Int) then (if x5 < (x1.length : Int) then (if (rd x0 x5) = (rd x1 x5) then (tenetref24_less.l0 k x0 x1 (wrap64 (x5 + 1))) else (some (decide ((rd x0 x5) > (rd x1 x5))))) else (none)) else (none)) else (none)) else (some false)
def tenetref24_less.f (k : Nat) (l0 : List Int) (l1 : List Int) : Option (Bool) := tenetref24_less.l0 k l0 l1 0
theorem tenetref24_less.mono_l : ∀ k, (∀ y0 y1 y2, LeO (tenetref24_less.l0 k y0 y1 y2) (tenetref24_less.l0 (k + 1) y0 y1 y2))
 | 0 => fun _ _ _ r h => by simp [tenetref24_less.l0] at h
 | k + 1 => by
  have ih0 := tenetref24_less.mono_l k
  ·
   intro y0 y1 y2
   unfold tenetref24_less.l0
   repeat' first
   | (with_reducible exact ih0 _ _ _)
   | (with_reducible exact LeO.refl _)
   | (with_reducible exact LeO.none _)
   | (with_reducible refine LeO.ite ?_ ?_)
   | (with_reducible refine LeO.bind ?_ (fun _ => ?_))
   | exact ih0 _ _ _
   | exact LeO.none _
   | refine LeO.ite ?_ ?_
   | refine LeO.bind ?_ (fun _ => ?_)
theorem tenetref24_less.mono : ∀ a0 a1 k, LeO (tenetref24_less.f k a0 a1) (tenetref24_less.f (k + 1) a0 a1) := by
 intro a0 a1 k
 have ih0 := tenetref24_less.mono_l k
 unfold tenetref24_less.f
 repeat' first
   | (with_reducible exact ih0 _ _ _)
   | (with_reducible exact LeO.refl _)
   | (with_reducible exact LeO.none _)
   | (with_reducible refine LeO.ite ?_ ?_)
   | (with_reducible refine LeO.bind ?_ (fun _ => ?_))
   | exact ih0 _ _ _
   | exact LeO.none _
   | refine LeO.ite ?_ ?_
   | refine LeO.bind ?_ (fun _ => ?_)
set_option maxHeartbeats 8000000 in
set_option maxRecDepth 100000 in
theorem tenetref24_less.calls (k : Nat) (A0 : Option Addr) (c0 : Nat) (l0 : List Int) (A1 : Option Addr) (c1 : Nat) (l1 : List Int) (r : Bool) (w : World) (hr0 : Kd.C (Kd.int .i64) w A0 l0.length l0) (hc0 : l0.length ≤ c0) (hr1 : Kd.C (Kd.int .i64) w A1 l1.length l1) (hc1 : l1.length ≤ c1) (h : tenetref24_less.f k l0 l1 = some r) :
  Calls Try.prog 42 #[.slice A0 l0.length c0, .slice A1 l1.length c1] w fun e w' => e = .returned (.bool r) ∧ Drawn0 w w' := by
 have HR0 := Am hr0
 have HC0 := Am hc0
 clear hr0 hc0
 have HR1 := Am hr1
 have HC1 := Am hc1
 clear hr1 hc1
 have H : (tenetref24_less.l0 k l0 l1 0) = some r := h
 clear h
 have H' := Am H
 clear H
 go_enter Try.func42, Try.ntmps42
 go_wp2
 repeat (go_quiet (fail); try go_wp2)
 go_loopg [5] k (fun kq v5 w' => ∃ (x5_1 : Int), v5 = .int .i64 x5_1 ∧ Aside0 (tenetref24_less.l0 kq l0 l1 x5_1 = some r) ∧ Aside0 (kq ≤ k) ∧ Drawn0 w w')
 case atStart => exact ⟨(0), (by first | rfl | (simp; done) | (simp [*]; done)), H', ⟨Nat.le_refl _⟩, by repeat (first | exact Drawn0.refl _ | apply Drawn0.step)⟩
 case round =>
  clear H'
  try clear c1
  try clear p2
  obtain ⟨x5_1, rfl, HA, HK1, ⟨m1, rfl⟩⟩ := hrel
  cases gk with
  | zero => exact absurd HA.out (by simp [tenetref24_less.l0])
  | succ k1 =>
   have H := HA.out
   clear HA
   simp only [tenetref24_less.l0] at H
   by_cases c3 : x5_1 < 8
   ·
    rw [if_pos c3] at H
    have c3b0 : decide (x5_1 < 8) = true := decide_eq_true c3
    clear c3
    by_cases c4 : 0 ≤ x5_1
    ·
     rw [if_pos c4] at H
     have c4b0 : decide (0 ≤ x5_1) = true := decide_eq_true c4
     clear c4
     by_cases c5 : x5_1 < (l0.length : Int)
     ·
      rw [if_pos c5] at H
      have c5b0 : decide (x5_1 < (l0.length : Int)) = true := decide_eq_true c5
      clear c5
      by_cases c6 : x5_1 < (l1.length : Int)
      ·
       rw [if_pos c6] at H
       have c6b0 : decide (x5_1 < (l1.length : Int)) = true := decide_eq_true c6
       clear c6
       by_cases c7 : (rd l0 x5_1) = (rd l1 x5_1)
       ·
        rw [if_pos c7] at H
        have c7b0 : ((rd l0 x5_1) == (rd l1 x5_1)) = true := beq_iff_eq.mpr c7
        have c7b1 : ((rd l0 x5_1) != (rd l1 x5_1)) = false := bne_eq_false_iff_eq.mpr c7
        clear c7
        have H' := Am H
        clear H
        have p192 : 0 ≤ (x5_1 : Int) := of_decide_eq_true (by first | (with_reducible assumption) | assumption)
        have q192 : x5_1 < (l0.length : Int) := of_decide_eq_true (by first | (with_reducible assumption) | assumption)
        obtain ⟨ad192, e192, hx192_0⟩ := Kd.at_int HR0.out x5_1 p192 q192
        cases e192
        replace p192 := eq_true p192
        replace q192 := eq_true q192
        have p193 : 0 ≤ (x5_1 : Int) := of_decide_eq_true (by first | (with_reducible assumption) | assumption)
        have q193 : x5_1 < (l1.length : Int) := of_decide_eq_true (by first | (with_reducible assumption) | assumption)
        obtain ⟨ad193, e193, hx193_0⟩ := Kd.at_int HR1.out x5_1 p193 q193
        cases e193
        replace p193 := eq_true p193
        replace q193 := eq_true q193
        go_wp2
        repeat (go_quiet (fail); try go_wp2)
        go_roundg k1
        case measure => have := HK1.out; omega
        case rel => exact ⟨(wrap64 (x5_1 + 1)), (by first | rfl | (simp; done) | (simp [*]; done)), H', ⟨by have := HK1.out; omega⟩, by repeat (first | exact Drawn0.refl _ | apply Drawn0.step)⟩
       ·
        rw [if_neg c7] at H
        have c7b0 : ((rd l0 x5_1) == (rd l1 x5_1)) = false := beq_eq_false_iff_ne.mpr c7
        have c7b1 : ((rd l0 x5_1) != (rd l1 x5_1)) = true := bne_iff_ne.mpr c7
        obtain rfl := Option.some.inj H
        have p192 : 0 ≤ (x5_1 : Int) := of_decide_eq_true (by first | (with_reducible assumption) | assumption)
        have q192 : x5_1 < (l0.length : Int) := of_decide_eq_true (by first | (with_reducible assumption) | assumption)
        obtain ⟨ad192, e192, hx192_0⟩ := Kd.at_int HR0.out x5_1 p192 q192
        cases e192
        replace p192 := eq_true p192
        replace q192 := eq_true q192
        have p193 : 0 ≤ (x5_1 : Int) := of_decide_eq_true (by first | (with_reducible assumption) | assumption)
        have q193 : x5_1 < (l1.length : Int) := of_decide_eq_true (by first | (with_reducible assumption) | assumption)
        obtain ⟨ad193, e193, hx193_0⟩ := Kd.at_int HR1.out x5_1 p193 q193
        cases e193
        replace p193 := eq_true p193
        replace q193 := eq_true q193
        have p194 : 0 ≤ (x5_1 : Int) := of_decide_eq_true (by first | (with_reducible assumption) | assumption)
        have q194 : x5_1 < (l0.length : Int) := of_decide_eq_true (by first | (with_reducible assumption) | assumption)
        obtain ⟨ad194, e194, hx194_0⟩ := Kd.at_int HR0.out x5_1 p194 q194
        obtain rfl : ad192 = ad194 := (by injection e194)
        replace p194 := eq_true p194
        replace q194 := eq_true q194
        have p195 : 0 ≤ (x5_1 : Int) := of_decide_eq_true (by first | (with_reducible assumption) | assumption)
        have q195 : x5_1 < (l1.length : Int) := of_decide_eq_true (by first | (with_reducible assumption) | assumption)
        obtain ⟨ad195, e195, hx195_0⟩ := Kd.at_int HR1.out x5_1 p195 q195
        obtain rfl : ad193 = ad195 := (by injection e195)
        replace p195 := eq_true p195
        replace q195 := eq_true q195
        go_wp2
        repeat (go_quiet (fail); try go_wp2)
        go_ret
        exact ⟨by first | rfl | (simp; done) | (simp [*]; done), by repeat (first | exact Drawn0.refl _ | apply Drawn0.step)⟩
      ·
       rw [if_neg c6] at H
       exact absurd H (by simp)
     ·
      rw [if_neg c5] at H
      exact absurd H (by simp)
    ·
     rw [if_neg c4] at H
     exact absurd H (by simp)
   ·
    rw [if_neg c3] at H
    have c3b0 : decide (x5_1 < 8) = false := decide_eq_false c3
    clear c3
    obtain rfl := Option.some.inj H
    go_wp2
    repeat (go_quiet (fail); try go_wp2)
    go_ret
    exact ⟨by first | rfl | (simp; done) | (simp [*]; done), by repeat (first | exact Drawn0.refl _ | apply Drawn0.step)⟩

end Go.Proofs.Ytjnplfbggklkfaa.Rg

-- Written by a program of this claim's session: print.py's form, some functions told by hand.
namespace Go.Proofs.Ytjnplfbggklkfaa.Rg
open Go.RowKit Go.Proofs.YtjnplfbggklkfaaW.PrintWords Go.Proofs.YtjnplfbggklkfaaW.PrintLast Go.Proofs.YtjnplfbggklkfaaW.PrintMore
attribute [local go_sem] max2_int min2_int max_two min_two max_three min_three max_four min_four   -- for this text's walks alone
set_option linter.unusedVariables false
set_option linter.unusedSimpArgs false

/-! ### tenetref24_same: function 43 -/
def tenetref24_same.f (k : Nat) (l0 : List Int) (l1 : List Int) : Option (Bool) := (tenetref24_less.f k l0 l1).bind fun t196 => (if t196 = true then (some false) else ((tenetref24_less.f k l1 l0).bind fun t197 => (some (!t197))))
theorem tenetref24_same.mono : ∀ a0 a1 k, LeO (tenetref24_same.f k a0 a1) (tenetref24_same.f (k + 1) a0 a1) := by
 intro a0 a1 k
 unfold tenetref24_same.f
 repeat' first
   | (with_reducible exact tenetref24_less.mono _ _ _)
   | (with_reducible exact LeO.refl _)
   | (with_reducible exact LeO.none _)
   | (with_reducible refine LeO.ite ?_ ?_)
   | (with_reducible refine LeO.bind ?_ (fun _ => ?_))
   | exact tenetref24_less.mono _ _ _
   | exact LeO.none _
   | refine LeO.ite ?_ ?_
   | refine LeO.bind ?_ (fun _ => ?_)
set_option maxHeartbeats 8000000 in
set_option maxRecDepth 100000 in
theorem tenetref24_same.calls (k : Nat) (A0 : Option Addr) (c0 : Nat) (l0 : List Int) (A1 : Option Addr) (c1 : Nat) (l1 : List Int) (r : Bool) (w : World) (hr0 : Kd.C (Kd.int .i64) w A0 l0.length l0) (hc0 : l0.length ≤ c0) (hr1 : Kd.C (Kd.int .i64) w A1 l1.length l1) (hc1 : l1.length ≤ c1) (h : tenetref24_same.f k l0 l1 = some r) :
  Calls Try.prog 43 #[.slice A0 l0.length c0, .slice A1 l1.length c1] w fun e w' => e = .returned (.bool r) ∧ Drawn0 w w' := by
 have HR0 := Am hr0
 have HC0 := Am hc0
 clear hr0 hc0
 have HR1 := Am hr1
 have HC1 := Am hc1
 clear hr1 hc1
 have H : ((tenetref24_less.f k l0 l1).bind fun t196 => (if t196 = true then (some false) else ((tenetref24_less.f k l1 l0).bind fun t197 => (some (!t197))))) = some r := h
 clear h
 replace H := Option.bind_eq_some_iff.mp H
 obtain ⟨t196, A30, H⟩ := H
 replace H : (if t196 = true then (some false) else ((tenetref24_less.f k l1 l0).bind fun t197 => (some (!t197)))) = some r := H
 have A3 := Am A30
 clear A30
 by_cases c4 : t196 = true
 ·
  subst c4
  have H1 : (some false) = some r := by rw [if_pos rfl] at H; exact H
  clear H
  have H := H1
  clear H1
  obtain rfl := Option.some.inj H
  go_enter Try.func43, Try.ntmps43
  go_wp2_with (first | ((with_reducible refine gate_callee (f := 42) rfl ?_); refine goesL_ (some 7) rfl rfl Try.func42 (by kernel_rfl) rfl #[.slice A0 l0.length c0, .slice A1 l1.length c1] rfl (by (try simp only [List.map_toArray, List.map_cons, List.map_nil]); first | done | rfl | (simp only [List.length_drop, List.length_take]; rfl)) ?_; (with_reducible refine (tenetref24_less.calls k _ _ l0 _ _ l1 true _ ?side1 ?side2 ?side3 ?side4 A3.out).mono ?_); (case side1 => repeat (first | exact HR0.out | (with_reducible refine Kd.C_alloc ?_ _) | (with_reducible refine Kd.C_drewN ?_ _) | (with_reducible refine Kd.C_drew ?_))); (case side2 => exact HC0.out); (case side3 => repeat (first | exact HR1.out | (with_reducible refine Kd.C_alloc ?_ _) | (with_reducible refine Kd.C_drewN ?_ _) | (with_reducible refine Kd.C_drew ?_))); (case side4 => exact HC1.out); rintro e w' ⟨rfl, ⟨nd, rfl⟩⟩; refine ⟨_, rfl, ?_⟩))
  go_ret
  exact ⟨by first | rfl | (simp; done) | (simp [*]; done), by repeat (first | exact Drawn0.refl _ | apply Drawn0.step)⟩
 ·
  replace c4 := Bool.eq_false_iff.mpr c4
  subst c4
  have H1 : ((tenetref24_less.f k l1 l0).bind fun t197 => (some (!t197))) = some r := by rw [if_neg (show ¬ (false = true) by decide)] at H; exact H
  clear H
  have H := H1
  clear H1
  replace H := Option.bind_eq_some_iff.mp H
  obtain ⟨t197, A50, H⟩ := H
  replace H : (some (!t197)) = some r := H
  have A5 := Am A50
  clear A50
  obtain rfl := Option.some.inj H
  go_enter Try.func43, Try.ntmps43
  go_wp2_with (first | ((with_reducible refine gate_callee (f := 42) rfl ?_); refine goesL_ (some 7) rfl rfl Try.func42 (by kernel_rfl) rfl #[.slice A0 l0.length c0, .slice A1 l1.length c1] rfl (by (try simp only [List.map_toArray, List.map_cons, List.map_nil]); first | done | rfl | (simp only [List.length_drop, List.length_take]; rfl)) ?_; (with_reducible refine (tenetref24_less.calls k _ _ l0 _ _ l1 false _ ?side1 ?side2 ?side3 ?side4 A3.out).mono ?_); (case side1 => repeat (first | exact HR0.out | (with_reducible refine Kd.C_alloc ?_ _) | (with_reducible refine Kd.C_drewN ?_ _) | (with_reducible refine Kd.C_drew ?_))); (case side2 => exact HC0.out); (case side3 => repeat (first | exact HR1.out | (with_reducible refine Kd.C_alloc ?_ _) | (with_reducible refine Kd.C_drewN ?_ _) | (with_reducible refine Kd.C_drew ?_))); (case side4 => exact HC1.out); rintro e w' ⟨rfl, ⟨nd, rfl⟩⟩; refine ⟨_, rfl, ?_⟩) | (go_at_call 42; (with_reducible refine (tenetref24_less.calls k _ _ l1 _ _ l0 t197 _ ?side1 ?side2 ?side3 ?side4 A5.out).mono ?_); (case side1 => repeat (first | exact HR1.out | (with_reducible refine Kd.C_alloc ?_ _) | (with_reducible refine Kd.C_drewN ?_ _) | (with_reducible refine Kd.C_drew ?_))); (case side2 => exact HC1.out); (case side3 => repeat (first | exact HR0.out | (with_reducible refine Kd.C_alloc ?_ _) | (with_reducible refine Kd.C_drewN ?_ _) | (with_reducible refine Kd.C_drew ?_))); (case side4 => exact HC0.out); rintro e w' ⟨rfl, ⟨nd, rfl⟩⟩))
  go_ret
  exact ⟨by first | rfl | (simp; done) | (simp [*]; done), by repeat (first | exact Drawn0.refl _ | apply Drawn0.step)⟩

end Go.Proofs.Ytjnplfbggklkfaa.Rg
