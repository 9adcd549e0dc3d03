-- Written by a program of this claim's session: print.py's form, some functions told by hand.
import Derived.Test.YtjnplfbggklkfaaRg0
namespace Go.Proofs.Ytjnplfbggklkfaa.Rg
open Go.RowKit Go.Proofs.YtjnplfbggklkfaaW.PrintWords Go.Proofs.YtjnplfbggklkfaaW.PrintLast Go.Proofs.YtjnplfbggklkfaaW.PrintMore
attribute [local go_sem] max2_int min2_int max_two min_two max_three min_three max_four min_four   -- for this text's walks alone
set_option linter.unusedVariables false
set_option linter.unusedSimpArgs false

/-! ### ring_formed: function 32 -/
mutual
def ring_formed.j0 : Nat → Bool → Int → Int → List (S24) → Option (Bool)
  | 0, _, _, _, _ => none
  | k + 1, x32, x114000, x114001, x114002 => if x32 = true then (if (x114002.length : Int) = 2 then (if x114001 = 0 then (if 0 < (x114002.length : Int) then ((ring_formed.f k ((rd_T24 x114002 0).f0) ((rd_T24 x114002 0).f1) ((rd_T24 x114002 0).f2)).bind fun t115 => (if t115 = true then (if 1 < (x114002.length : Int) then ((ring_formed.f k ((rd_T24 x114002 1).f0) ((rd_T24 x114002 1).f1) ((rd_T24 x114002 1).f2)).bind fun t117 => (some t117)) else (none)) else (some false))) else (none)) else (some false)) else (some false)) else (some false)
def ring_formed.f : Nat → Int → Int → List (S24) → Option (Bool)
  | 0, _, _, _ => none
  | k + 1, a0_0, a0_1, l0_2 => if a0_0 = 1 then (if (l0_2.length : Int) = 0 then (some (decide (a0_1 ≥ 0))) else (some false)) else (if a0_0 = 2 then (if (l0_2.length : Int) = 0 then (if a0_1 ≥ 0 then (some (decide (a0_1 < 8))) else (some false)) else (some false)) else (if a0_0 = 3 then (ring_formed.j0 k (a0_0 == 3) a0_0 a0_1 l0_2) else (ring_formed.j0 k (a0_0 == 4) a0_0 a0_1 l0_2)))
end
theorem ring_formed.mono_l : ∀ k, (∀ y0 y1 y2, LeO (ring_formed.f k y0 y1 y2) (ring_formed.f (k + 1) y0 y1 y2)) ∧ (∀ y0 y1 y2 y3, LeO (ring_formed.j0 k y0 y1 y2 y3) (ring_formed.j0 (k + 1) y0 y1 y2 y3))
  | 0 => ⟨fun _ _ _ r h => by simp [ring_formed.f] at h, fun _ _ _ _ r h => by simp [ring_formed.j0] at h⟩
  | k + 1 => by
    obtain ⟨ih0, ih1⟩ := ring_formed.mono_l k
    refine ⟨?_, ?_⟩
    · intro y0 y1 y2
      unfold ring_formed.f
      repeat' first
      | (with_reducible exact ih0 _ _ _)
      | (with_reducible exact ih1 _ _ _ _)
      | (with_reducible exact LeO.refl _)
      | (with_reducible exact LeO.none _)
      | (with_reducible refine LeO.ite ?_ ?_)
      | (with_reducible refine LeO.bind ?_ (fun _ => ?_))
      | exact ih0 _ _ _
      | exact ih1 _ _ _ _
      | exact LeO.none _
      | refine LeO.ite ?_ ?_
      | refine LeO.bind ?_ (fun _ => ?_)
    · intro y0 y1 y2 y3
      unfold ring_formed.j0
      repeat' first
      | (with_reducible exact ih0 _ _ _)
      | (with_reducible exact ih1 _ _ _ _)
      | (with_reducible exact LeO.refl _)
      | (with_reducible exact LeO.none _)
      | (with_reducible refine LeO.ite ?_ ?_)
      | (with_reducible refine LeO.bind ?_ (fun _ => ?_))
      | exact ih0 _ _ _
      | exact ih1 _ _ _ _
      | exact LeO.none _
      | refine LeO.ite ?_ ?_
      | refine LeO.bind ?_ (fun _ => ?_)
theorem ring_formed.mono : ∀ a0 a1 a2 k, LeO (ring_formed.f k a0 a1 a2) (ring_formed.f (k + 1) a0 a1 a2) := by
  intro a0 a1 a2 k
  obtain ⟨ih0, ih1⟩ := ring_formed.mono_l k
  exact ih0 a0 a1 a2
set_option maxHeartbeats 8000000 in
set_option maxRecDepth 100000 in
theorem ring_formed.calls (k : Nat) : ∀ (a0_0 : Int) (a0_1 : Int) (A0_2 : Option Addr) (c0_2 : Nat) (l0_2 : List (S24)) (r : Bool) (w : World) (hr0_2 : Kd.C k24 w A0_2 l0_2.length l0_2) (hc0_2 : l0_2.length ≤ c0_2) (h : ring_formed.f k a0_0 a0_1 l0_2 = some r),
    Calls Try.prog 32 #[.agg #[.int .i64 a0_0, .int .i64 a0_1, .slice A0_2 l0_2.length c0_2]] w fun e w' => e = .returned (.bool r) ∧ Below w.heap.size w w' := by
  induction k using Nat.strongRecOn with
  | _ k ih =>
  intro a0_0 a0_1 A0_2 c0_2 l0_2 r w hr0_2 hc0_2 h
  cases k with
  | zero => exact absurd h (by simp [ring_formed.f])
  | succ k =>
  simp only [ring_formed.f] at h
  have hu24 := Try.underlying24
  have HR0_2 := Aside0.mk hr0_2
  have HC0_2 := Aside0.mk hc0_2
  clear hr0_2 hc0_2
  have HB := Aside0.mk (Below.refl w.heap.size w)
  have H : (if a0_0 = 1 then (if (l0_2.length : Int) = 0 then (some (decide (a0_1 ≥ 0))) else (some false)) else (if a0_0 = 2 then (if (l0_2.length : Int) = 0 then (if a0_1 ≥ 0 then (some (decide (a0_1 < 8))) else (some false)) else (some false)) else (if a0_0 = 3 then (ring_formed.j0 k (a0_0 == 3) a0_0 a0_1 l0_2) else (ring_formed.j0 k (a0_0 == 4) a0_0 a0_1 l0_2)))) = some r := h
  clear h
  by_cases c2 : a0_0 = 1
  · rw [if_pos c2] at H
    have c2b0 : (a0_0 == 1) = true := beq_iff_eq.mpr c2
    have c2b1 : (a0_0 != 1) = false := bne_eq_false_iff_eq.mpr c2
    clear c2
    by_cases c3 : (l0_2.length : Int) = 0
    · rw [if_pos c3] at H
      have c3b0 : ((l0_2.length : Int) == 0) = true := beq_iff_eq.mpr c3
      have c3b1 : ((l0_2.length : Int) != 0) = false := bne_eq_false_iff_eq.mpr c3
      clear c3
      obtain rfl := Option.some.inj H
      go_enter Try.func32, Try.ntmps32
      go_wp2_with (first | ((with_reducible refine gate_dst (N := 1) rfl ?_); refine box_event ?hg (N := 1) ?hd (cs := #[.int .i64 a0_0, .int .i64 a0_1, .slice A0_2 l0_2.length c0_2]) (t := 24) ?hr ?_; (case hd => rfl); (case hg => rfl); (case hr => first | (go_simp; done) | (go_simp; rfl)); intro gb113 hg w4 hbox hb; have n0_ := Aside0.mk (below_step (by repeat (first | (with_reducible first | exact HB.out | apply below_alloc | apply pw_below_drewN | apply below_drew1) | exact HB.out)) hb); have n1_ := Aside0.mk (hbox); have n2_ := Aside0.mk ((by rw [hg]; exact (below_size (by repeat (first | (with_reducible first | exact HB.out | apply below_alloc | apply pw_below_drewN | apply below_drew1) | exact HB.out))) : w.heap.size ≤ gb113)); have n3_ := Aside0.mk ((by rw [hg]; exact (below_size (by repeat (first | (with_reducible first | exact HB.out | apply below_alloc | apply pw_below_drewN | apply below_drew1) | exact HB.out))) : w.heap.size ≤ gb113)); clear HB; have HB := n0_; have BK113 := n1_; have GW113 := n2_; have GE113 := n3_; clear n0_ n1_ n2_ n3_; clear hb hbox hg; have hcz5_0 : w4.cell? ⟨gb113, 0, none⟩ = some (.int .i64 a0_0) := (blk_cell BK113.out 0).trans rfl; have hcz5_1 : w4.cell? ⟨gb113, 1, none⟩ = some (.int .i64 a0_1) := (blk_cell BK113.out 1).trans rfl; have hcz5_2 : w4.cell? ⟨gb113, 2, none⟩ = some (.slice A0_2 l0_2.length c0_2) := (blk_cell BK113.out 2).trans rfl; have hfz5_0 := blk_frozen BK113.out 0; have hfz5_1 := blk_frozen BK113.out 1; have hfz5_2 := blk_frozen BK113.out 2))
      go_ret
      exact ⟨by first | rfl | (simp [errW_none, errW_some] <;> rfl) | (simp [*, errW_none, errW_some] <;> rfl), by repeat (first | (with_reducible first | exact HB.out | apply below_alloc | apply pw_below_drewN | apply below_drew1 | refine below_set ?_ GE113.out) | exact HB.out)⟩
    · rw [if_neg c3] at H
      have c3b0 : ((l0_2.length : Int) == 0) = false := beq_eq_false_iff_ne.mpr c3
      have c3b1 : ((l0_2.length : Int) != 0) = true := bne_iff_ne.mpr c3
      have c3b2 : ¬ (l0_2 = []) := fun h_ => c3 (by rw [h_]; rfl)
      obtain rfl := Option.some.inj H
      go_enter Try.func32, Try.ntmps32
      go_wp2_with (first | ((with_reducible refine gate_dst (N := 1) rfl ?_); refine box_event ?hg (N := 1) ?hd (cs := #[.int .i64 a0_0, .int .i64 a0_1, .slice A0_2 l0_2.length c0_2]) (t := 24) ?hr ?_; (case hd => rfl); (case hg => rfl); (case hr => first | (go_simp; done) | (go_simp; rfl)); intro gb113 hg w6 hbox hb; have n0_ := Aside0.mk (below_step (by repeat (first | (with_reducible first | exact HB.out | apply below_alloc | apply pw_below_drewN | apply below_drew1) | exact HB.out)) hb); have n1_ := Aside0.mk (hbox); have n2_ := Aside0.mk ((by rw [hg]; exact (below_size (by repeat (first | (with_reducible first | exact HB.out | apply below_alloc | apply pw_below_drewN | apply below_drew1) | exact HB.out))) : w.heap.size ≤ gb113)); have n3_ := Aside0.mk ((by rw [hg]; exact (below_size (by repeat (first | (with_reducible first | exact HB.out | apply below_alloc | apply pw_below_drewN | apply below_drew1) | exact HB.out))) : w.heap.size ≤ gb113)); clear HB; have HB := n0_; have BK113 := n1_; have GW113 := n2_; have GE113 := n3_; clear n0_ n1_ n2_ n3_; clear hb hbox hg; have hcz7_0 : w6.cell? ⟨gb113, 0, none⟩ = some (.int .i64 a0_0) := (blk_cell BK113.out 0).trans rfl; have hcz7_1 : w6.cell? ⟨gb113, 1, none⟩ = some (.int .i64 a0_1) := (blk_cell BK113.out 1).trans rfl; have hcz7_2 : w6.cell? ⟨gb113, 2, none⟩ = some (.slice A0_2 l0_2.length c0_2) := (blk_cell BK113.out 2).trans rfl; have hfz7_0 := blk_frozen BK113.out 0; have hfz7_1 := blk_frozen BK113.out 1; have hfz7_2 := blk_frozen BK113.out 2))
      go_ret
      exact ⟨by first | rfl | (simp [errW_none, errW_some] <;> rfl) | (simp [*, errW_none, errW_some] <;> rfl), by repeat (first | (with_reducible first | exact HB.out | apply below_alloc | apply pw_below_drewN | apply below_drew1 | refine below_set ?_ GE113.out) | exact HB.out)⟩
  · rw [if_neg c2] at H
    have c2b0 : (a0_0 == 1) = false := beq_eq_false_iff_ne.mpr c2
    have c2b1 : (a0_0 != 1) = true := bne_iff_ne.mpr c2
    by_cases c8 : a0_0 = 2
    · rw [if_pos c8] at H
      have c8b0 : (a0_0 == 2) = true := beq_iff_eq.mpr c8
      have c8b1 : (a0_0 != 2) = false := bne_eq_false_iff_eq.mpr c8
      clear c8
      by_cases c9 : (l0_2.length : Int) = 0
      · rw [if_pos c9] at H
        have c9b0 : ((l0_2.length : Int) == 0) = true := beq_iff_eq.mpr c9
        have c9b1 : ((l0_2.length : Int) != 0) = false := bne_eq_false_iff_eq.mpr c9
        clear c9
        by_cases c10 : a0_1 ≥ 0
        · rw [if_pos c10] at H
          have c10b0 : decide (0 ≤ a0_1) = true := decide_eq_true c10
          clear c10
          obtain rfl := Option.some.inj H
          go_enter Try.func32, Try.ntmps32
          go_wp2_with (first | ((with_reducible refine gate_dst (N := 1) rfl ?_); refine box_event ?hg (N := 1) ?hd (cs := #[.int .i64 a0_0, .int .i64 a0_1, .slice A0_2 l0_2.length c0_2]) (t := 24) ?hr ?_; (case hd => rfl); (case hg => rfl); (case hr => first | (go_simp; done) | (go_simp; rfl)); intro gb113 hg w11 hbox hb; have n0_ := Aside0.mk (below_step (by repeat (first | (with_reducible first | exact HB.out | apply below_alloc | apply pw_below_drewN | apply below_drew1) | exact HB.out)) hb); have n1_ := Aside0.mk (hbox); have n2_ := Aside0.mk ((by rw [hg]; exact (below_size (by repeat (first | (with_reducible first | exact HB.out | apply below_alloc | apply pw_below_drewN | apply below_drew1) | exact HB.out))) : w.heap.size ≤ gb113)); have n3_ := Aside0.mk ((by rw [hg]; exact (below_size (by repeat (first | (with_reducible first | exact HB.out | apply below_alloc | apply pw_below_drewN | apply below_drew1) | exact HB.out))) : w.heap.size ≤ gb113)); clear HB; have HB := n0_; have BK113 := n1_; have GW113 := n2_; have GE113 := n3_; clear n0_ n1_ n2_ n3_; clear hb hbox hg; have hcz12_0 : w11.cell? ⟨gb113, 0, none⟩ = some (.int .i64 a0_0) := (blk_cell BK113.out 0).trans rfl; have hcz12_1 : w11.cell? ⟨gb113, 1, none⟩ = some (.int .i64 a0_1) := (blk_cell BK113.out 1).trans rfl; have hcz12_2 : w11.cell? ⟨gb113, 2, none⟩ = some (.slice A0_2 l0_2.length c0_2) := (blk_cell BK113.out 2).trans rfl; have hfz12_0 := blk_frozen BK113.out 0; have hfz12_1 := blk_frozen BK113.out 1; have hfz12_2 := blk_frozen BK113.out 2))
          go_ret
          exact ⟨by first | rfl | (simp [errW_none, errW_some] <;> rfl) | (simp [*, errW_none, errW_some] <;> rfl), by repeat (first | (with_reducible first | exact HB.out | apply below_alloc | apply pw_below_drewN | apply below_drew1 | refine below_set ?_ GE113.out) | exact HB.out)⟩
        · rw [if_neg c10] at H
          have c10b0 : decide (0 ≤ a0_1) = false := decide_eq_false c10
          clear c10
          obtain rfl := Option.some.inj H
          go_enter Try.func32, Try.ntmps32
          go_wp2_with (first | ((with_reducible refine gate_dst (N := 1) rfl ?_); refine box_event ?hg (N := 1) ?hd (cs := #[.int .i64 a0_0, .int .i64 a0_1, .slice A0_2 l0_2.length c0_2]) (t := 24) ?hr ?_; (case hd => rfl); (case hg => rfl); (case hr => first | (go_simp; done) | (go_simp; rfl)); intro gb113 hg w13 hbox hb; have n0_ := Aside0.mk (below_step (by repeat (first | (with_reducible first | exact HB.out | apply below_alloc | apply pw_below_drewN | apply below_drew1) | exact HB.out)) hb); have n1_ := Aside0.mk (hbox); have n2_ := Aside0.mk ((by rw [hg]; exact (below_size (by repeat (first | (with_reducible first | exact HB.out | apply below_alloc | apply pw_below_drewN | apply below_drew1) | exact HB.out))) : w.heap.size ≤ gb113)); have n3_ := Aside0.mk ((by rw [hg]; exact (below_size (by repeat (first | (with_reducible first | exact HB.out | apply below_alloc | apply pw_below_drewN | apply below_drew1) | exact HB.out))) : w.heap.size ≤ gb113)); clear HB; have HB := n0_; have BK113 := n1_; have GW113 := n2_; have GE113 := n3_; clear n0_ n1_ n2_ n3_; clear hb hbox hg; have hcz14_0 : w13.cell? ⟨gb113, 0, none⟩ = some (.int .i64 a0_0) := (blk_cell BK113.out 0).trans rfl; have hcz14_1 : w13.cell? ⟨gb113, 1, none⟩ = some (.int .i64 a0_1) := (blk_cell BK113.out 1).trans rfl; have hcz14_2 : w13.cell? ⟨gb113, 2, none⟩ = some (.slice A0_2 l0_2.length c0_2) := (blk_cell BK113.out 2).trans rfl; have hfz14_0 := blk_frozen BK113.out 0; have hfz14_1 := blk_frozen BK113.out 1; have hfz14_2 := blk_frozen BK113.out 2))
          go_ret
          exact ⟨by first | rfl | (simp [errW_none, errW_some] <;> rfl) | (simp [*, errW_none, errW_some] <;> rfl), by repeat (first | (with_reducible first | exact HB.out | apply below_alloc | apply pw_below_drewN | apply below_drew1 | refine below_set ?_ GE113.out) | exact HB.out)⟩
      · rw [if_neg c9] at H
        have c9b0 : ((l0_2.length : Int) == 0) = false := beq_eq_false_iff_ne.mpr c9
        have c9b1 : ((l0_2.length : Int) != 0) = true := bne_iff_ne.mpr c9
        have c9b2 : ¬ (l0_2 = []) := fun h_ => c9 (by rw [h_]; rfl)
        obtain rfl := Option.some.inj H
        go_enter Try.func32, Try.ntmps32
        go_wp2_with (first | ((with_reducible refine gate_dst (N := 1) rfl ?_); refine box_event ?hg (N := 1) ?hd (cs := #[.int .i64 a0_0, .int .i64 a0_1, .slice A0_2 l0_2.length c0_2]) (t := 24) ?hr ?_; (case hd => rfl); (case hg => rfl); (case hr => first | (go_simp; done) | (go_simp; rfl)); intro gb113 hg w15 hbox hb; have n0_ := Aside0.mk (below_step (by repeat (first | (with_reducible first | exact HB.out | apply below_alloc | apply pw_below_drewN | apply below_drew1) | exact HB.out)) hb); have n1_ := Aside0.mk (hbox); have n2_ := Aside0.mk ((by rw [hg]; exact (below_size (by repeat (first | (with_reducible first | exact HB.out | apply below_alloc | apply pw_below_drewN | apply below_drew1) | exact HB.out))) : w.heap.size ≤ gb113)); have n3_ := Aside0.mk ((by rw [hg]; exact (below_size (by repeat (first | (with_reducible first | exact HB.out | apply below_alloc | apply pw_below_drewN | apply below_drew1) | exact HB.out))) : w.heap.size ≤ gb113)); clear HB; have HB := n0_; have BK113 := n1_; have GW113 := n2_; have GE113 := n3_; clear n0_ n1_ n2_ n3_; clear hb hbox hg; have hcz16_0 : w15.cell? ⟨gb113, 0, none⟩ = some (.int .i64 a0_0) := (blk_cell BK113.out 0).trans rfl; have hcz16_1 : w15.cell? ⟨gb113, 1, none⟩ = some (.int .i64 a0_1) := (blk_cell BK113.out 1).trans rfl; have hcz16_2 : w15.cell? ⟨gb113, 2, none⟩ = some (.slice A0_2 l0_2.length c0_2) := (blk_cell BK113.out 2).trans rfl; have hfz16_0 := blk_frozen BK113.out 0; have hfz16_1 := blk_frozen BK113.out 1; have hfz16_2 := blk_frozen BK113.out 2))
        go_ret
        exact ⟨by first | rfl | (simp [errW_none, errW_some] <;> rfl) | (simp [*, errW_none, errW_some] <;> rfl), by repeat (first | (with_reducible first | exact HB.out | apply below_alloc | apply pw_below_drewN | apply below_drew1 | refine below_set ?_ GE113.out) | exact HB.out)⟩
    · rw [if_neg c8] at H
      have c8b0 : (a0_0 == 2) = false := beq_eq_false_iff_ne.mpr c8
      have c8b1 : (a0_0 != 2) = true := bne_iff_ne.mpr c8
      have HC17 := Aside0.mk H
      clear H
      go_enter Try.func32, Try.ntmps32
      go_upto_if 32 with (first | ((with_reducible refine gate_dst (N := 1) rfl ?_); refine box_event ?hg (N := 1) ?hd (cs := #[.int .i64 a0_0, .int .i64 a0_1, .slice A0_2 l0_2.length c0_2]) (t := 24) ?hr ?_; (case hd => rfl); (case hg => rfl); (case hr => first | (go_simp; done) | (go_simp; rfl)); intro gb113 hg w18 hbox hb; have n0_ := Aside0.mk (below_step (by repeat (first | (with_reducible first | exact HB.out | apply below_alloc | apply pw_below_drewN | apply below_drew1) | exact HB.out)) hb); have n1_ := Aside0.mk (hbox); have n2_ := Aside0.mk ((by rw [hg]; exact (below_size (by repeat (first | (with_reducible first | exact HB.out | apply below_alloc | apply pw_below_drewN | apply below_drew1) | exact HB.out))) : w.heap.size ≤ gb113)); have n3_ := Aside0.mk ((by rw [hg]; exact (below_size (by repeat (first | (with_reducible first | exact HB.out | apply below_alloc | apply pw_below_drewN | apply below_drew1) | exact HB.out))) : w.heap.size ≤ gb113)); clear HB; have HB := n0_; have BK113 := n1_; have GW113 := n2_; have GE113 := n3_; clear n0_ n1_ n2_ n3_; clear hb hbox hg; have hcz19_0 : w18.cell? ⟨gb113, 0, none⟩ = some (.int .i64 a0_0) := (blk_cell BK113.out 0).trans rfl; have hcz19_1 : w18.cell? ⟨gb113, 1, none⟩ = some (.int .i64 a0_1) := (blk_cell BK113.out 1).trans rfl; have hcz19_2 : w18.cell? ⟨gb113, 2, none⟩ = some (.slice A0_2 l0_2.length c0_2) := (blk_cell BK113.out 2).trans rfl; have hfz19_0 := blk_frozen BK113.out 0; have hfz19_1 := blk_frozen BK113.out 1; have hfz19_2 := blk_frozen BK113.out 2))
      (try simp only [Act.put, List.setIfInBounds_toArray, List.set_cons_zero, List.set_cons_succ])
      go_cut [32] (fun v32 wc => ∃ (kq : Nat) (x32_16 : Bool), v32 = .bool x32_16 ∧ Aside0 (ring_formed.j0 kq x32_16 a0_0 a0_1 l0_2 = some r) ∧ Aside0 (kq ≤ k) ∧ Aside0 (wc.heap[gb113]? = some (.cells #[.int .i64 a0_0, .int .i64 a0_1, (.slice A0_2 l0_2.length c0_2)] 24 (0, 0))) ∧ Aside0 (Below w.heap.size w wc))
      case first =>
        have H := HC17.out
        clear HC17
        by_cases c20 : a0_0 = 3
        · rw [if_pos c20] at H
          have c20b0 : (a0_0 == 3) = true := beq_iff_eq.mpr c20
          have c20b1 : (a0_0 != 3) = false := bne_eq_false_iff_eq.mpr c20
          clear c20
          (first | rw [c20b0] | (simp only [i64_w, i32_w]; rw [c20b0]) | skip)
          have H' := Aside0.mk H
          clear H
          go_wp2
          go_meet
          case rel => exact ⟨_, ((a0_0 == 3)), (by first | rfl | (simp; done) | (simp [*]; done)), H', ⟨by first | omega | exact Nat.le_refl _⟩, ⟨by (with_reducible repeat (first | refine blk_drewN ?_ _ | refine blk_drew ?_ | refine blk_alloc ?_ _)); exact BK113.out⟩, ⟨by repeat (first | (with_reducible first | exact HB.out | apply below_alloc | apply pw_below_drewN | apply below_drew1 | refine below_set ?_ GE113.out) | exact HB.out)⟩⟩
        · rw [if_neg c20] at H
          have c20b0 : (a0_0 == 3) = false := beq_eq_false_iff_ne.mpr c20
          have c20b1 : (a0_0 != 3) = true := bne_iff_ne.mpr c20
          (first | rw [c20b0] | (simp only [i64_w, i32_w]; rw [c20b0]) | skip)
          have H' := Aside0.mk H
          clear H
          go_wp2
          go_meet
          case rel => exact ⟨_, ((a0_0 == 4)), (by first | rfl | (simp; done) | (simp [*]; done)), H', ⟨by first | omega | exact Nat.le_refl _⟩, ⟨by (with_reducible repeat (first | refine blk_drewN ?_ _ | refine blk_drew ?_ | refine blk_alloc ?_ _)); exact BK113.out⟩, ⟨by repeat (first | (with_reducible first | exact HB.out | apply below_alloc | apply pw_below_drewN | apply below_drew1 | refine below_set ?_ GE113.out) | exact HB.out)⟩⟩
      case rest =>
        clear HC17
        try clear c1
        try clear c2
        try clear c2b0
        try clear c2b1
        try clear p2
        try clear c3
        try clear c3b0
        try clear c3b1
        try clear c3b2
        try clear c8
        try clear c8b0
        try clear c8b1
        try clear c9
        try clear c9b0
        try clear c9b1
        try clear c9b2
        try clear c10
        try clear c10b0
        try clear c20
        try clear c20b0
        try clear c20b1
        try clear hcz12_0
        try clear hcz12_1
        try clear hcz12_2
        try clear hcz14_0
        try clear hcz14_1
        try clear hcz14_2
        try clear hcz16_0
        try clear hcz16_1
        try clear hcz16_2
        try clear hcz19_0
        try clear hcz19_1
        try clear hcz19_2
        try clear hcz5_0
        try clear hcz5_1
        try clear hcz5_2
        try clear hcz7_0
        try clear hcz7_1
        try clear hcz7_2
        try clear hfz12_0
        try clear hfz12_1
        try clear hfz12_2
        try clear hfz14_0
        try clear hfz14_1
        try clear hfz14_2
        try clear hfz16_0
        try clear hfz16_1
        try clear hfz16_2
        try clear hfz19_0
        try clear hfz19_1
        try clear hfz19_2
        try clear hfz5_0
        try clear hfz5_1
        try clear hfz5_2
        try clear hfz7_0
        try clear hfz7_1
        try clear hfz7_2
        obtain ⟨kq, x32_16, rfl, HA, HJ16, BK113, HB⟩ := hcut
        cases kq with
        | zero => exact absurd HA.out (by simp [ring_formed.j0])
        | succ kj16 =>
          have H := HA.out
          clear HA
          simp only [ring_formed.j0] at H
          by_cases c21 : x32_16 = true
          · subst c21
            have H1 : (if (l0_2.length : Int) = 2 then (if a0_1 = 0 then (if 0 < (l0_2.length : Int) then ((ring_formed.f kj16 ((rd_T24 l0_2 0).f0) ((rd_T24 l0_2 0).f1) ((rd_T24 l0_2 0).f2)).bind fun t115 => (if t115 = true then (if 1 < (l0_2.length : Int) then ((ring_formed.f kj16 ((rd_T24 l0_2 1).f0) ((rd_T24 l0_2 1).f1) ((rd_T24 l0_2 1).f2)).bind fun t117 => (some t117)) else (none)) else (some false))) else (none)) else (some false)) else (some false)) = some r := by rw [if_pos rfl] at H; exact H
            clear H
            have H := H1
            clear H1
            by_cases c22 : (l0_2.length : Int) = 2
            · rw [if_pos c22] at H
              have c22b0 : ((l0_2.length : Int) == 2) = true := beq_iff_eq.mpr c22
              have c22b1 : ((l0_2.length : Int) != 2) = false := bne_eq_false_iff_eq.mpr c22
              clear c22
              by_cases c23 : a0_1 = 0
              · rw [if_pos c23] at H
                have c23b0 : (a0_1 == 0) = true := beq_iff_eq.mpr c23
                have c23b1 : (a0_1 != 0) = false := bne_eq_false_iff_eq.mpr c23
                clear c23
                by_cases c24 : 0 < (l0_2.length : Int)
                · rw [if_pos c24] at H
                  have c24b0 : decide (0 < (l0_2.length : Int)) = true := decide_eq_true c24
                  have c24b1 : decide (0 < l0_2.length) = true := decide_eq_true (by omega)
                  clear c24
                  replace H := Option.bind_eq_some_iff.mp H
                  obtain ⟨t115, A250, H⟩ := H
                  replace H : (if t115 = true then (if 1 < (l0_2.length : Int) then ((ring_formed.f kj16 ((rd_T24 l0_2 1).f0) ((rd_T24 l0_2 1).f1) ((rd_T24 l0_2 1).f2)).bind fun t117 => (some t117)) else (none)) else (some false)) = some r := H
                  have A25 := Aside0.mk A250
                  clear A250
                  by_cases c26 : t115 = true
                  · subst c26
                    have H1 : (if 1 < (l0_2.length : Int) then ((ring_formed.f kj16 ((rd_T24 l0_2 1).f0) ((rd_T24 l0_2 1).f1) ((rd_T24 l0_2 1).f2)).bind fun t117 => (some t117)) else (none)) = some r := by rw [if_pos rfl] at H; exact H
                    clear H
                    have H := H1
                    clear H1
                    by_cases c27 : 1 < (l0_2.length : Int)
                    · rw [if_pos c27] at H
                      have c27b0 : decide (1 < (l0_2.length : Int)) = true := decide_eq_true c27
                      have c27b1 : decide (1 < l0_2.length) = true := decide_eq_true (by omega)
                      clear c27
                      replace H := Option.bind_eq_some_iff.mp H
                      obtain ⟨t117, A280, H⟩ := H
                      replace H : (some t117) = some r := H
                      have A28 := Aside0.mk A280
                      clear A280
                      obtain rfl := Option.some.inj H
                      have hcz29_0 : wc.cell? ⟨gb113, 0, none⟩ = some (.int .i64 a0_0) := (blk_cell BK113.out 0).trans rfl
                      have hcz29_1 : wc.cell? ⟨gb113, 1, none⟩ = some (.int .i64 a0_1) := (blk_cell BK113.out 1).trans rfl
                      have hcz29_2 : wc.cell? ⟨gb113, 2, none⟩ = some (.slice A0_2 l0_2.length c0_2) := (blk_cell BK113.out 2).trans rfl
                      have hfz29_0 := blk_frozen BK113.out 0
                      have hfz29_1 := blk_frozen BK113.out 1
                      have hfz29_2 := blk_frozen BK113.out 2
                      have p114 : 0 ≤ (0 : Int) := (by omega)
                      have q114 : 0 < (l0_2.length : Int) := of_decide_eq_true (by first | (with_reducible assumption) | assumption)
                      obtain ⟨ad114, A114_2, c114_2, e114, hx114_0, hx114_1, hx114_2, hl114_2, hi114_2⟩ := at_T24 HR0_2.out 0 p114 q114
                      cases e114
                      have qi114 : (0 < l0_2.length) = True := eq_true (by omega)
                      (try rw [show ((0 : Int)).toNat = 0 from rfl] at hx114_0)
                      (try rw [show 0 * 3 = 0 from rfl] at hx114_0)
                      (try rw [Addr.add_zero'] at hx114_0)
                      (try rw [show ((0 : Int)).toNat = 0 from rfl] at hx114_1)
                      (try rw [show 0 * 3 = 0 from rfl] at hx114_1)
                      (try rw [Addr.add_zero'] at hx114_1)
                      (try rw [show ((0 : Int)).toNat = 0 from rfl] at hx114_2)
                      (try rw [show 0 * 3 = 0 from rfl] at hx114_2)
                      (try rw [Addr.add_zero'] at hx114_2)
                      replace hx114_0 := (HB.out.cell (World.block_lt_of_cell? w _ hx114_0)).trans hx114_0
                      replace hx114_1 := (HB.out.cell (World.block_lt_of_cell? w _ hx114_1)).trans hx114_1
                      replace hx114_2 := (HB.out.cell (World.block_lt_of_cell? w _ hx114_2)).trans hx114_2
                      have HR114_2 := Aside0.mk hi114_2
                      have HC114_2 := Aside0.mk hl114_2
                      clear hi114_2 hl114_2
                      replace p114 := eq_true p114
                      replace q114 := eq_true q114
                      go_wp2_with (first | (go_at_call 32; (with_reducible refine (ih kj16 (by have := HJ16.out; omega) ((rd_T24 l0_2 0).f0) ((rd_T24 l0_2 0).f1) _ _ ((rd_T24 l0_2 0).f2) true _ ?side1 ?side2 A25.out).mono ?_); (case side1 => repeat (first | exact (Kd.C_below HR114_2.out HB.out) | (with_reducible refine Kd.C_alloc ?_ _) | (with_reducible refine Kd.C_drewN ?_ _) | (with_reducible refine Kd.C_drew ?_))); (case side2 => exact HC114_2.out); rintro e w30 ⟨rfl, hb⟩; have n0_ := Aside0.mk (blk_below (g := gb113) (o := .cells #[.int .i64 a0_0, .int .i64 a0_1, .slice (some ad114) l0_2.length c0_2] 24 (0, 0)) (by (with_reducible repeat (first | refine blk_drewN ?_ _ | refine blk_drew ?_ | refine blk_alloc ?_ _)); exact BK113.out) hb); have n1_ := Aside0.mk (below_step (by repeat (first | (with_reducible first | exact HB.out | apply below_alloc | apply pw_below_drewN | apply below_drew1 | refine below_set ?_ GE113.out) | exact HB.out)) hb); clear BK113; clear HB; have BK113 := n0_; have HB := n1_; clear n0_ n1_; (try clear hb); (try clear hb2); (try clear hk); (try clear hi); have hcz31_0 : w30.cell? ⟨gb113, 0, none⟩ = some (.int .i64 a0_0) := (blk_cell BK113.out 0).trans rfl; have hcz31_1 : w30.cell? ⟨gb113, 1, none⟩ = some (.int .i64 a0_1) := (blk_cell BK113.out 1).trans rfl; have hcz31_2 : w30.cell? ⟨gb113, 2, none⟩ = some (.slice (some ad114) l0_2.length c0_2) := (blk_cell BK113.out 2).trans rfl; have hfz31_0 := blk_frozen BK113.out 0; have hfz31_1 := blk_frozen BK113.out 1; have hfz31_2 := blk_frozen BK113.out 2; have p116 : 0 ≤ (1 : Int) := (by omega); have q116 : 1 < (l0_2.length : Int) := of_decide_eq_true (by first | (with_reducible assumption) | assumption); obtain ⟨ad116, A116_2, c116_2, e116, hx116_0, hx116_1, hx116_2, hl116_2, hi116_2⟩ := at_T24 HR0_2.out 1 p116 q116; obtain rfl : ad114 = ad116 := (by injection e116); (try simp only [show (1 : Int).toNat = 1 from rfl, Nat.reduceMul, Nat.reduceEqDiff, Go.Addr.add, ↓reduceIte] at hx116_0); (try simp only [show (1 : Int).toNat = 1 from rfl, Nat.reduceMul, Nat.reduceEqDiff, Go.Addr.add, ↓reduceIte] at hx116_1); (try simp only [show (1 : Int).toNat = 1 from rfl, Nat.reduceMul, Nat.reduceEqDiff, Go.Addr.add, ↓reduceIte] at hx116_2); have qi116 : (1 < l0_2.length) = True := eq_true (by omega); (try rw [show ((1 : Int)).toNat = 1 from rfl] at hx116_0); (try rw [show 1 * 3 = 3 from rfl] at hx116_0); (try rw [show ((1 : Int)).toNat = 1 from rfl] at hx116_1); (try rw [show 1 * 3 = 3 from rfl] at hx116_1); (try rw [show ((1 : Int)).toNat = 1 from rfl] at hx116_2); (try rw [show 1 * 3 = 3 from rfl] at hx116_2); replace hx116_0 := (HB.out.cell (World.block_lt_of_cell? w _ hx116_0)).trans hx116_0; replace hx116_1 := (HB.out.cell (World.block_lt_of_cell? w _ hx116_1)).trans hx116_1; replace hx116_2 := (HB.out.cell (World.block_lt_of_cell? w _ hx116_2)).trans hx116_2; have HR116_2 := Aside0.mk hi116_2; have HC116_2 := Aside0.mk hl116_2; clear hi116_2 hl116_2; replace p116 := eq_true p116; replace q116 := eq_true q116) | (go_at_call 32; (with_reducible refine (ih kj16 (by have := HJ16.out; omega) ((rd_T24 l0_2 1).f0) ((rd_T24 l0_2 1).f1) _ _ ((rd_T24 l0_2 1).f2) t117 _ ?side1 ?side2 A28.out).mono ?_); (case side1 => repeat (first | exact (Kd.C_below HR116_2.out HB.out) | (with_reducible refine Kd.C_alloc ?_ _) | (with_reducible refine Kd.C_drewN ?_ _) | (with_reducible refine Kd.C_drew ?_))); (case side2 => exact HC116_2.out); rintro e w32 ⟨rfl, hb⟩; have n0_ := Aside0.mk (blk_below (g := gb113) (o := .cells #[.int .i64 a0_0, .int .i64 a0_1, .slice (some ad114) l0_2.length c0_2] 24 (0, 0)) (by (with_reducible repeat (first | refine blk_drewN ?_ _ | refine blk_drew ?_ | refine blk_alloc ?_ _)); exact BK113.out) hb); have n1_ := Aside0.mk (below_step (by repeat (first | (with_reducible first | exact HB.out | apply below_alloc | apply pw_below_drewN | apply below_drew1 | refine below_set ?_ GE113.out) | exact HB.out)) hb); clear BK113; clear HB; have BK113 := n0_; have HB := n1_; clear n0_ n1_; (try clear hb); (try clear hb2); (try clear hk); (try clear hi)))
                      go_ret
                      exact ⟨by first | rfl | (simp [errW_none, errW_some] <;> rfl) | (simp [*, errW_none, errW_some] <;> rfl), by repeat (first | (with_reducible first | exact HB.out | apply below_alloc | apply pw_below_drewN | apply below_drew1 | refine below_set ?_ GE113.out) | exact HB.out)⟩
                    · rw [if_neg c27] at H
                      exact absurd H (by simp)
                  · replace c26 := Bool.eq_false_iff.mpr c26
                    subst c26
                    have H1 : (some false) = some r := by rw [if_neg (show ¬ (false = true) by decide)] at H; exact H
                    clear H
                    have H := H1
                    clear H1
                    obtain rfl := Option.some.inj H
                    have hcz33_0 : wc.cell? ⟨gb113, 0, none⟩ = some (.int .i64 a0_0) := (blk_cell BK113.out 0).trans rfl
                    have hcz33_1 : wc.cell? ⟨gb113, 1, none⟩ = some (.int .i64 a0_1) := (blk_cell BK113.out 1).trans rfl
                    have hcz33_2 : wc.cell? ⟨gb113, 2, none⟩ = some (.slice A0_2 l0_2.length c0_2) := (blk_cell BK113.out 2).trans rfl
                    have hfz33_0 := blk_frozen BK113.out 0
                    have hfz33_1 := blk_frozen BK113.out 1
                    have hfz33_2 := blk_frozen BK113.out 2
                    have p114 : 0 ≤ (0 : Int) := (by omega)
                    have q114 : 0 < (l0_2.length : Int) := of_decide_eq_true (by first | (with_reducible assumption) | assumption)
                    obtain ⟨ad114, A114_2, c114_2, e114, hx114_0, hx114_1, hx114_2, hl114_2, hi114_2⟩ := at_T24 HR0_2.out 0 p114 q114
                    cases e114
                    have qi114 : (0 < l0_2.length) = True := eq_true (by omega)
                    (try rw [show ((0 : Int)).toNat = 0 from rfl] at hx114_0)
                    (try rw [show 0 * 3 = 0 from rfl] at hx114_0)
                    (try rw [Addr.add_zero'] at hx114_0)
                    (try rw [show ((0 : Int)).toNat = 0 from rfl] at hx114_1)
                    (try rw [show 0 * 3 = 0 from rfl] at hx114_1)
                    (try rw [Addr.add_zero'] at hx114_1)
                    (try rw [show ((0 : Int)).toNat = 0 from rfl] at hx114_2)
                    (try rw [show 0 * 3 = 0 from rfl] at hx114_2)
                    (try rw [Addr.add_zero'] at hx114_2)
                    replace hx114_0 := (HB.out.cell (World.block_lt_of_cell? w _ hx114_0)).trans hx114_0
                    replace hx114_1 := (HB.out.cell (World.block_lt_of_cell? w _ hx114_1)).trans hx114_1
                    replace hx114_2 := (HB.out.cell (World.block_lt_of_cell? w _ hx114_2)).trans hx114_2
                    have HR114_2 := Aside0.mk hi114_2
                    have HC114_2 := Aside0.mk hl114_2
                    clear hi114_2 hl114_2
                    replace p114 := eq_true p114
                    replace q114 := eq_true q114
                    go_wp2_with (first | (go_at_call 32; (with_reducible refine (ih kj16 (by have := HJ16.out; omega) ((rd_T24 l0_2 0).f0) ((rd_T24 l0_2 0).f1) _ _ ((rd_T24 l0_2 0).f2) false _ ?side1 ?side2 A25.out).mono ?_); (case side1 => repeat (first | exact (Kd.C_below HR114_2.out HB.out) | (with_reducible refine Kd.C_alloc ?_ _) | (with_reducible refine Kd.C_drewN ?_ _) | (with_reducible refine Kd.C_drew ?_))); (case side2 => exact HC114_2.out); rintro e w34 ⟨rfl, hb⟩; have n0_ := Aside0.mk (blk_below (g := gb113) (o := .cells #[.int .i64 a0_0, .int .i64 a0_1, .slice (some ad114) l0_2.length c0_2] 24 (0, 0)) (by (with_reducible repeat (first | refine blk_drewN ?_ _ | refine blk_drew ?_ | refine blk_alloc ?_ _)); exact BK113.out) hb); have n1_ := Aside0.mk (below_step (by repeat (first | (with_reducible first | exact HB.out | apply below_alloc | apply pw_below_drewN | apply below_drew1 | refine below_set ?_ GE113.out) | exact HB.out)) hb); clear BK113; clear HB; have BK113 := n0_; have HB := n1_; clear n0_ n1_; (try clear hb); (try clear hb2); (try clear hk); (try clear hi)))
                    go_ret
                    exact ⟨by first | rfl | (simp [errW_none, errW_some] <;> rfl) | (simp [*, errW_none, errW_some] <;> rfl), by repeat (first | (with_reducible first | exact HB.out | apply below_alloc | apply pw_below_drewN | apply below_drew1 | refine below_set ?_ GE113.out) | exact HB.out)⟩
                · rw [if_neg c24] at H
                  exact absurd H (by simp)
              · rw [if_neg c23] at H
                have c23b0 : (a0_1 == 0) = false := beq_eq_false_iff_ne.mpr c23
                have c23b1 : (a0_1 != 0) = true := bne_iff_ne.mpr c23
                obtain rfl := Option.some.inj H
                have hcz35_0 : wc.cell? ⟨gb113, 0, none⟩ = some (.int .i64 a0_0) := (blk_cell BK113.out 0).trans rfl
                have hcz35_1 : wc.cell? ⟨gb113, 1, none⟩ = some (.int .i64 a0_1) := (blk_cell BK113.out 1).trans rfl
                have hcz35_2 : wc.cell? ⟨gb113, 2, none⟩ = some (.slice A0_2 l0_2.length c0_2) := (blk_cell BK113.out 2).trans rfl
                have hfz35_0 := blk_frozen BK113.out 0
                have hfz35_1 := blk_frozen BK113.out 1
                have hfz35_2 := blk_frozen BK113.out 2
                go_wp2
                go_ret
                exact ⟨by first | rfl | (simp [errW_none, errW_some] <;> rfl) | (simp [*, errW_none, errW_some] <;> rfl), by repeat (first | (with_reducible first | exact HB.out | apply below_alloc | apply pw_below_drewN | apply below_drew1 | refine below_set ?_ GE113.out) | exact HB.out)⟩
            · rw [if_neg c22] at H
              have c22b0 : ((l0_2.length : Int) == 2) = false := beq_eq_false_iff_ne.mpr c22
              have c22b1 : ((l0_2.length : Int) != 2) = true := bne_iff_ne.mpr c22
              obtain rfl := Option.some.inj H
              have hcz36_0 : wc.cell? ⟨gb113, 0, none⟩ = some (.int .i64 a0_0) := (blk_cell BK113.out 0).trans rfl
              have hcz36_1 : wc.cell? ⟨gb113, 1, none⟩ = some (.int .i64 a0_1) := (blk_cell BK113.out 1).trans rfl
              have hcz36_2 : wc.cell? ⟨gb113, 2, none⟩ = some (.slice A0_2 l0_2.length c0_2) := (blk_cell BK113.out 2).trans rfl
              have hfz36_0 := blk_frozen BK113.out 0
              have hfz36_1 := blk_frozen BK113.out 1
              have hfz36_2 := blk_frozen BK113.out 2
              go_wp2
              go_ret
              exact ⟨by first | rfl | (simp [errW_none, errW_some] <;> rfl) | (simp [*, errW_none, errW_some] <;> rfl), by repeat (first | (with_reducible first | exact HB.out | apply below_alloc | apply pw_below_drewN | apply below_drew1 | refine below_set ?_ GE113.out) | exact HB.out)⟩
          · replace c21 := Bool.eq_false_iff.mpr c21
            subst c21
            have H1 : (some false) = some r := by rw [if_neg (show ¬ (false = true) by decide)] at H; exact H
            clear H
            have H := H1
            clear H1
            obtain rfl := Option.some.inj H
            go_wp2
            go_ret
            exact ⟨by first | rfl | (simp [errW_none, errW_some] <;> rfl) | (simp [*, errW_none, errW_some] <;> rfl), by repeat (first | (with_reducible first | exact HB.out | apply below_alloc | apply pw_below_drewN | apply below_drew1 | refine below_set ?_ GE113.out) | exact HB.out)⟩

end Go.Proofs.Ytjnplfbggklkfaa.Rg
