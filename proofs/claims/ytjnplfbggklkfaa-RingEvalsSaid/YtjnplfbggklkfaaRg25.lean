-- Written by a program of this claim's session: print.py's form, some functions told by hand.
import Derived.Test.YtjnplfbggklkfaaRg0
namespace Go.Proofs.Ytjnplfbggklkfaa.Rg
open Go.RowKit Go.Proofs.YtjnplfbggklkfaaW.PrintWords Go.Proofs.YtjnplfbggklkfaaW.PrintLast Go.Proofs.YtjnplfbggklkfaaW.PrintMore
attribute [local go_sem] max2_int min2_int max_two min_two max_three min_three max_four min_four   -- for this text's walks alone
set_option linter.unusedVariables false
set_option linter.unusedSimpArgs false

/-! ### ring_eval: function 24 -/
def ring_eval.f : Nat → Int → Int → List (S24) → List Int → Option (Int)
  | 0, _, _, _, _ => none
  | k + 1, a0_0, a0_1, l0_2, l1 => if a0_0 = 1 then (some (Int.tmod a0_1 1000000007)) else (if a0_0 = 2 then (if a0_1 ≥ (l1.length : Int) then (some 0) else (if 0 ≤ a0_1 then (if a0_1 < (l1.length : Int) then (some (Int.tmod (wrap64 ((Int.tmod (rd l1 a0_1) 1000000007) + 1000000007)) 1000000007)) else (none)) else (none))) else (if 0 < (l0_2.length : Int) then ((ring_eval.f k ((rd_T24 l0_2 0).f0) ((rd_T24 l0_2 0).f1) ((rd_T24 l0_2 0).f2) l1).bind fun t156 => (if 1 < (l0_2.length : Int) then ((ring_eval.f k ((rd_T24 l0_2 1).f0) ((rd_T24 l0_2 1).f1) ((rd_T24 l0_2 1).f2) l1).bind fun t158 => (if a0_0 = 3 then (some (Int.tmod (wrap64 (t156 + t158)) 1000000007)) else (some (Int.tmod (wrap64 (t156 * t158)) 1000000007)))) else (none))) else (none)))
theorem ring_eval.mono_l : ∀ k, (∀ y0 y1 y2 y3, LeO (ring_eval.f k y0 y1 y2 y3) (ring_eval.f (k + 1) y0 y1 y2 y3))
  | 0 => fun _ _ _ _ r h => by simp [ring_eval.f] at h
  | k + 1 => by
    have ih0 := ring_eval.mono_l k
    · intro y0 y1 y2 y3
      unfold ring_eval.f
      repeat' first
      | (with_reducible exact ih0 _ _ _ _)
      | (with_reducible exact LeO.refl _)
      | (with_reducible exact LeO.none _)
      | (with_reducible refine LeO.ite ?_ ?_)
      | (with_reducible refine LeO.bind ?_ (fun _ => ?_))
      | exact ih0 _ _ _ _
      | exact LeO.none _
      | refine LeO.ite ?_ ?_
      | refine LeO.bind ?_ (fun _ => ?_)
theorem ring_eval.mono : ∀ a0 a1 a2 a3 k, LeO (ring_eval.f k a0 a1 a2 a3) (ring_eval.f (k + 1) a0 a1 a2 a3) := by
  intro a0 a1 a2 a3 k
  have ih0 := ring_eval.mono_l k
  exact ih0 a0 a1 a2 a3
def ring_eval.T8 : Bool × List (List Nat × List Nat) := (true, [([], []), ([0], [0]), ([1], [1]), ([2], [2]), ([], []), ([3, 4], [3, 4]), ([], []), ([6], [6]), ([7], [7]), ([8], [8]), ([], []), ([9, 10, 5], [9, 10]), ([5, 11, 0, 1, 2, 3, 4, 5], [5]), ([11, 12, 0, 1, 2, 3, 4, 5, 6, 7, 8, 9, 10, 11, 12], [11])])
def ring_eval.B8 : List Nat := [0, 1, 3, 7, 0, 31, 0, 64, 192, 448, 0, 2047, 4095, 8191]
theorem ring_eval.tab8 : rtab .any (opsOf Try.f24 8) = ring_eval.T8 := by kernel_rfl
theorem ring_eval.bits8 : waitsOk ring_eval.T8.2 ring_eval.B8 = true := by kernel_rfl
set_option maxHeartbeats 8000000 in
set_option maxRecDepth 100000 in
theorem ring_eval.calls (k : Nat) : ∀ (a0_0 : Int) (a0_1 : Int) (A0_2 : Option Addr) (c0_2 : Nat) (l0_2 : List (S24)) (A1 : Option Addr) (c1 : Nat) (l1 : List Int) (r : Int) (w : World) (hr0_2 : Kd.C k24 w A0_2 l0_2.length l0_2) (hc0_2 : l0_2.length ≤ c0_2) (hr1 : Kd.C (Kd.int .i64) w A1 l1.length l1) (hc1 : l1.length ≤ c1) (h : ring_eval.f k a0_0 a0_1 l0_2 l1 = some r),
    Calls Try.prog 24 #[.agg #[.int .i64 a0_0, .int .i64 a0_1, .slice A0_2 l0_2.length c0_2], .slice A1 l1.length c1] w fun e w' => e = .returned (.int .i64 r) ∧ Below w.heap.size w w' := by
  induction k using Nat.strongRecOn with
  | _ k ih =>
  intro a0_0 a0_1 A0_2 c0_2 l0_2 A1 c1 l1 r w hr0_2 hc0_2 hr1 hc1 h
  cases k with
  | zero => exact absurd h (by simp [ring_eval.f])
  | succ k =>
  simp only [ring_eval.f] at h
  have hu24 := Try.underlying24
  have HR0_2 := Aside0.mk hr0_2
  have HC0_2 := Aside0.mk hc0_2
  clear hr0_2 hc0_2
  have HR1 := Aside0.mk hr1
  have HC1 := Aside0.mk hc1
  clear hr1 hc1
  have HB := Aside0.mk (Below.refl w.heap.size w)
  have H : (if a0_0 = 1 then (some (Int.tmod a0_1 1000000007)) else (if a0_0 = 2 then (if a0_1 ≥ (l1.length : Int) then (some 0) else (if 0 ≤ a0_1 then (if a0_1 < (l1.length : Int) then (some (Int.tmod (wrap64 ((Int.tmod (rd l1 a0_1) 1000000007) + 1000000007)) 1000000007)) else (none)) else (none))) else (if 0 < (l0_2.length : Int) then ((ring_eval.f k ((rd_T24 l0_2 0).f0) ((rd_T24 l0_2 0).f1) ((rd_T24 l0_2 0).f2) l1).bind fun t156 => (if 1 < (l0_2.length : Int) then ((ring_eval.f k ((rd_T24 l0_2 1).f0) ((rd_T24 l0_2 1).f1) ((rd_T24 l0_2 1).f2) l1).bind fun t158 => (if a0_0 = 3 then (some (Int.tmod (wrap64 (t156 + t158)) 1000000007)) else (some (Int.tmod (wrap64 (t156 * t158)) 1000000007)))) else (none))) else (none)))) = some r := h
  clear h
  by_cases c3 : a0_0 = 1
  · rw [if_pos c3] at H
    have c3b0 : (a0_0 == 1) = true := beq_iff_eq.mpr c3
    have c3b1 : (a0_0 != 1) = false := bne_eq_false_iff_eq.mpr c3
    clear c3
    obtain rfl := Option.some.inj H
    go_enter Try.func24, Try.ntmps24
    go_wp2_with (first | ((with_reducible refine gate_dst (N := 2) rfl ?_); refine box_event ?hg (N := 2) ?hd (cs := #[.int .i64 a0_0, .int .i64 a0_1, .slice A0_2 l0_2.length c0_2]) (t := 24) ?hr ?_; (case hd => rfl); (case hg => rfl); (case hr => first | (go_simp; done) | (go_simp; rfl)); intro gb153 hg w4 hbox hb; have n0_ := Aside0.mk (below_step (by repeat (first | (with_reducible first | exact HB.out | apply below_alloc | apply pw_below_drewN | apply below_drew1) | exact HB.out)) hb); have n1_ := Aside0.mk (hbox); have n2_ := Aside0.mk ((by rw [hg]; exact (below_size (by repeat (first | (with_reducible first | exact HB.out | apply below_alloc | apply pw_below_drewN | apply below_drew1) | exact HB.out))) : w.heap.size ≤ gb153)); have n3_ := Aside0.mk ((by rw [hg]; exact (below_size (by repeat (first | (with_reducible first | exact HB.out | apply below_alloc | apply pw_below_drewN | apply below_drew1) | exact HB.out))) : w.heap.size ≤ gb153)); clear HB; have HB := n0_; have BK153 := n1_; have GW153 := n2_; have GE153 := n3_; clear n0_ n1_ n2_ n3_; clear hb hbox hg; have hcz5_0 : w4.cell? ⟨gb153, 0, none⟩ = some (.int .i64 a0_0) := (blk_cell BK153.out 0).trans rfl; have hcz5_1 : w4.cell? ⟨gb153, 1, none⟩ = some (.int .i64 a0_1) := (blk_cell BK153.out 1).trans rfl; have hcz5_2 : w4.cell? ⟨gb153, 2, none⟩ = some (.slice A0_2 l0_2.length c0_2) := (blk_cell BK153.out 2).trans rfl; have hfz5_0 := blk_frozen BK153.out 0; have hfz5_1 := blk_frozen BK153.out 1; have hfz5_2 := blk_frozen BK153.out 2))
    go_ret
    exact ⟨by first | rfl | (simp [errW_none, errW_some] <;> rfl) | (simp [*, errW_none, errW_some] <;> rfl), by repeat (first | (with_reducible first | exact HB.out | apply below_alloc | apply pw_below_drewN | apply below_drew1 | refine below_set ?_ GE153.out) | exact HB.out)⟩
  · rw [if_neg c3] at H
    have c3b0 : (a0_0 == 1) = false := beq_eq_false_iff_ne.mpr c3
    have c3b1 : (a0_0 != 1) = true := bne_iff_ne.mpr c3
    by_cases c6 : a0_0 = 2
    · rw [if_pos c6] at H
      have c6b0 : (a0_0 == 2) = true := beq_iff_eq.mpr c6
      have c6b1 : (a0_0 != 2) = false := bne_eq_false_iff_eq.mpr c6
      clear c6
      by_cases c7 : a0_1 ≥ (l1.length : Int)
      · rw [if_pos c7] at H
        have c7b0 : decide ((l1.length : Int) ≤ a0_1) = true := decide_eq_true c7
        clear c7
        obtain rfl := Option.some.inj H
        go_enter Try.func24, Try.ntmps24
        go_wp2_with (first | ((with_reducible refine gate_dst (N := 2) rfl ?_); refine box_event ?hg (N := 2) ?hd (cs := #[.int .i64 a0_0, .int .i64 a0_1, .slice A0_2 l0_2.length c0_2]) (t := 24) ?hr ?_; (case hd => rfl); (case hg => rfl); (case hr => first | (go_simp; done) | (go_simp; rfl)); intro gb153 hg w8 hbox hb; have n0_ := Aside0.mk (below_step (by repeat (first | (with_reducible first | exact HB.out | apply below_alloc | apply pw_below_drewN | apply below_drew1) | exact HB.out)) hb); have n1_ := Aside0.mk (hbox); have n2_ := Aside0.mk ((by rw [hg]; exact (below_size (by repeat (first | (with_reducible first | exact HB.out | apply below_alloc | apply pw_below_drewN | apply below_drew1) | exact HB.out))) : w.heap.size ≤ gb153)); have n3_ := Aside0.mk ((by rw [hg]; exact (below_size (by repeat (first | (with_reducible first | exact HB.out | apply below_alloc | apply pw_below_drewN | apply below_drew1) | exact HB.out))) : w.heap.size ≤ gb153)); clear HB; have HB := n0_; have BK153 := n1_; have GW153 := n2_; have GE153 := n3_; clear n0_ n1_ n2_ n3_; clear hb hbox hg; have hcz9_0 : w8.cell? ⟨gb153, 0, none⟩ = some (.int .i64 a0_0) := (blk_cell BK153.out 0).trans rfl; have hcz9_1 : w8.cell? ⟨gb153, 1, none⟩ = some (.int .i64 a0_1) := (blk_cell BK153.out 1).trans rfl; have hcz9_2 : w8.cell? ⟨gb153, 2, none⟩ = some (.slice A0_2 l0_2.length c0_2) := (blk_cell BK153.out 2).trans rfl; have hfz9_0 := blk_frozen BK153.out 0; have hfz9_1 := blk_frozen BK153.out 1; have hfz9_2 := blk_frozen BK153.out 2))
        go_ret
        exact ⟨by first | rfl | (simp [errW_none, errW_some] <;> rfl) | (simp [*, errW_none, errW_some] <;> rfl), by repeat (first | (with_reducible first | exact HB.out | apply below_alloc | apply pw_below_drewN | apply below_drew1 | refine below_set ?_ GE153.out) | exact HB.out)⟩
      · rw [if_neg c7] at H
        have c7b0 : decide ((l1.length : Int) ≤ a0_1) = false := decide_eq_false c7
        clear c7
        by_cases c10 : 0 ≤ a0_1
        · rw [if_pos c10] at H
          have c10b0 : decide (0 ≤ a0_1) = true := decide_eq_true c10
          clear c10
          by_cases c11 : a0_1 < (l1.length : Int)
          · rw [if_pos c11] at H
            have c11b0 : decide (a0_1 < (l1.length : Int)) = true := decide_eq_true c11
            clear c11
            obtain rfl := Option.some.inj H
            go_enter Try.func24, Try.ntmps24
            go_wp2_with (first | ((with_reducible refine gate_dst (N := 2) rfl ?_); refine box_event ?hg (N := 2) ?hd (cs := #[.int .i64 a0_0, .int .i64 a0_1, .slice A0_2 l0_2.length c0_2]) (t := 24) ?hr ?_; (case hd => rfl); (case hg => rfl); (case hr => first | (go_simp; done) | (go_simp; rfl)); intro gb153 hg w12 hbox hb; have n0_ := Aside0.mk (below_step (by repeat (first | (with_reducible first | exact HB.out | apply below_alloc | apply pw_below_drewN | apply below_drew1) | exact HB.out)) hb); have n1_ := Aside0.mk (hbox); have n2_ := Aside0.mk ((by rw [hg]; exact (below_size (by repeat (first | (with_reducible first | exact HB.out | apply below_alloc | apply pw_below_drewN | apply below_drew1) | exact HB.out))) : w.heap.size ≤ gb153)); have n3_ := Aside0.mk ((by rw [hg]; exact (below_size (by repeat (first | (with_reducible first | exact HB.out | apply below_alloc | apply pw_below_drewN | apply below_drew1) | exact HB.out))) : w.heap.size ≤ gb153)); clear HB; have HB := n0_; have BK153 := n1_; have GW153 := n2_; have GE153 := n3_; clear n0_ n1_ n2_ n3_; clear hb hbox hg; have hcz13_0 : w12.cell? ⟨gb153, 0, none⟩ = some (.int .i64 a0_0) := (blk_cell BK153.out 0).trans rfl; have hcz13_1 : w12.cell? ⟨gb153, 1, none⟩ = some (.int .i64 a0_1) := (blk_cell BK153.out 1).trans rfl; have hcz13_2 : w12.cell? ⟨gb153, 2, none⟩ = some (.slice A0_2 l0_2.length c0_2) := (blk_cell BK153.out 2).trans rfl; have hfz13_0 := blk_frozen BK153.out 0; have hfz13_1 := blk_frozen BK153.out 1; have hfz13_2 := blk_frozen BK153.out 2; have p154 : 0 ≤ (a0_1 : Int) := of_decide_eq_true (by first | (with_reducible assumption) | assumption); have q154 : a0_1 < (l1.length : Int) := of_decide_eq_true (by first | (with_reducible assumption) | assumption); obtain ⟨ad154, e154, hx154_0⟩ := Kd.at_int HR1.out a0_1 p154 q154; cases e154; replace hx154_0 := (HB.out.cell (World.block_lt_of_cell? w _ hx154_0)).trans hx154_0; replace p154 := eq_true p154; replace q154 := eq_true q154))
            go_ret
            exact ⟨by first | rfl | (simp [errW_none, errW_some] <;> rfl) | (simp [*, errW_none, errW_some] <;> rfl), by repeat (first | (with_reducible first | exact HB.out | apply below_alloc | apply pw_below_drewN | apply below_drew1 | refine below_set ?_ GE153.out) | exact HB.out)⟩
          · rw [if_neg c11] at H
            exact absurd H (by simp)
        · rw [if_neg c10] at H
          exact absurd H (by simp)
    · rw [if_neg c6] at H
      have c6b0 : (a0_0 == 2) = false := beq_eq_false_iff_ne.mpr c6
      have c6b1 : (a0_0 != 2) = true := bne_iff_ne.mpr c6
      by_cases c14 : 0 < (l0_2.length : Int)
      · rw [if_pos c14] at H
        have c14b0 : decide (0 < (l0_2.length : Int)) = true := decide_eq_true c14
        have c14b1 : decide (0 < l0_2.length) = true := decide_eq_true (by omega)
        clear c14
        replace H := Option.bind_eq_some_iff.mp H
        obtain ⟨t156, A150, H⟩ := H
        replace H : (if 1 < (l0_2.length : Int) then ((ring_eval.f k ((rd_T24 l0_2 1).f0) ((rd_T24 l0_2 1).f1) ((rd_T24 l0_2 1).f2) l1).bind fun t158 => (if a0_0 = 3 then (some (Int.tmod (wrap64 (t156 + t158)) 1000000007)) else (some (Int.tmod (wrap64 (t156 * t158)) 1000000007)))) else (none)) = some r := H
        have A15 := Aside0.mk A150
        clear A150
        by_cases c16 : 1 < (l0_2.length : Int)
        · rw [if_pos c16] at H
          have c16b0 : decide (1 < (l0_2.length : Int)) = true := decide_eq_true c16
          have c16b1 : decide (1 < l0_2.length) = true := decide_eq_true (by omega)
          clear c16
          replace H := Option.bind_eq_some_iff.mp H
          obtain ⟨t158, A170, H⟩ := H
          replace H : (if a0_0 = 3 then (some (Int.tmod (wrap64 (t156 + t158)) 1000000007)) else (some (Int.tmod (wrap64 (t156 * t158)) 1000000007))) = some r := H
          have A17 := Aside0.mk A170
          clear A170
          by_cases c18 : a0_0 = 3
          · rw [if_pos c18] at H
            have c18b0 : (a0_0 == 3) = true := beq_iff_eq.mpr c18
            have c18b1 : (a0_0 != 3) = false := bne_eq_false_iff_eq.mpr c18
            clear c18
            obtain rfl := Option.some.inj H
            go_enter Try.func24, Try.ntmps24
            try go_wp2_with (first | ((with_reducible refine gate_dst (N := 2) rfl ?_); refine box_event ?hg (N := 2) ?hd (cs := #[.int .i64 a0_0, .int .i64 a0_1, .slice A0_2 l0_2.length c0_2]) (t := 24) ?hr ?_; (case hd => rfl); (case hg => rfl); (case hr => first | (go_simp; done) | (go_simp; rfl)); intro gb153 hg w19 hbox hb; have n0_ := Aside0.mk (below_step (by repeat (first | (with_reducible first | exact HB.out | apply below_alloc | apply pw_below_drewN | apply below_drew1) | exact HB.out)) hb); have n1_ := Aside0.mk (hbox); have n2_ := Aside0.mk ((by rw [hg]; exact (below_size (by repeat (first | (with_reducible first | exact HB.out | apply below_alloc | apply pw_below_drewN | apply below_drew1) | exact HB.out))) : w.heap.size ≤ gb153)); have n3_ := Aside0.mk ((by rw [hg]; exact (below_size (by repeat (first | (with_reducible first | exact HB.out | apply below_alloc | apply pw_below_drewN | apply below_drew1) | exact HB.out))) : w.heap.size ≤ gb153)); clear HB; have HB := n0_; have BK153 := n1_; have GW153 := n2_; have GE153 := n3_; clear n0_ n1_ n2_ n3_; clear hb hbox hg; have hcz20_0 : w19.cell? ⟨gb153, 0, none⟩ = some (.int .i64 a0_0) := (blk_cell BK153.out 0).trans rfl; have hcz20_1 : w19.cell? ⟨gb153, 1, none⟩ = some (.int .i64 a0_1) := (blk_cell BK153.out 1).trans rfl; have hcz20_2 : w19.cell? ⟨gb153, 2, none⟩ = some (.slice A0_2 l0_2.length c0_2) := (blk_cell BK153.out 2).trans rfl; have hfz20_0 := blk_frozen BK153.out 0; have hfz20_1 := blk_frozen BK153.out 1; have hfz20_2 := blk_frozen BK153.out 2))
            have n0_ := Aside0.mk (blk_drew BK153.out)
            have n1_ := Aside0.mk (below_drew1 HB.out)
            clear BK153
            clear HB
            have BK153 := n0_
            have HB := n1_
            clear n0_ n1_
            have p155 : 0 ≤ (0 : Int) := (by omega)
            have q155 : 0 < (l0_2.length : Int) := of_decide_eq_true (by first | (with_reducible assumption) | assumption)
            obtain ⟨ad155, A155_2, c155_2, e155, hx155_0, hx155_1, hx155_2, hl155_2, hi155_2⟩ := at_T24 HR0_2.out 0 p155 q155
            have hw155_2 := hx155_2
            (try rw [show ((0 : Int)).toNat = 0 from rfl] at hw155_2)
            (try rw [show 0 * 3 = 0 from rfl] at hw155_2)
            (try rw [Addr.add_zero'] at hw155_2)
            have hw155_1 := hx155_1
            (try rw [show ((0 : Int)).toNat = 0 from rfl] at hw155_1)
            (try rw [show 0 * 3 = 0 from rfl] at hw155_1)
            (try rw [Addr.add_zero'] at hw155_1)
            have hw155_0 := hx155_0
            (try rw [show ((0 : Int)).toNat = 0 from rfl] at hw155_0)
            (try rw [show 0 * 3 = 0 from rfl] at hw155_0)
            (try rw [Addr.add_zero'] at hw155_0)
            cases e155
            have qi155 : (0 < l0_2.length) = True := eq_true (by omega)
            (try rw [show ((0 : Int)).toNat = 0 from rfl] at hx155_0)
            (try rw [show 0 * 3 = 0 from rfl] at hx155_0)
            (try rw [Addr.add_zero'] at hx155_0)
            (try rw [show ((0 : Int)).toNat = 0 from rfl] at hx155_1)
            (try rw [show 0 * 3 = 0 from rfl] at hx155_1)
            (try rw [Addr.add_zero'] at hx155_1)
            (try rw [show ((0 : Int)).toNat = 0 from rfl] at hx155_2)
            (try rw [show 0 * 3 = 0 from rfl] at hx155_2)
            (try rw [Addr.add_zero'] at hx155_2)
            replace hx155_0 := (HB.out.cell (World.block_lt_of_cell? w _ hx155_0)).trans hx155_0
            replace hx155_1 := (HB.out.cell (World.block_lt_of_cell? w _ hx155_1)).trans hx155_1
            replace hx155_2 := (HB.out.cell (World.block_lt_of_cell? w _ hx155_2)).trans hx155_2
            have HR155_2 := Aside0.mk hi155_2
            have HC155_2 := Aside0.mk hl155_2
            clear hi155_2 hl155_2
            replace p155 := eq_true p155
            replace q155 := eq_true q155
            have p157 : 0 ≤ (1 : Int) := (by omega)
            have q157 : 1 < (l0_2.length : Int) := of_decide_eq_true (by first | (with_reducible assumption) | assumption)
            obtain ⟨ad157, A157_2, c157_2, e157, hx157_0, hx157_1, hx157_2, hl157_2, hi157_2⟩ := at_T24 HR0_2.out 1 p157 q157
            have hw157_2 := hx157_2
            (try rw [show ((1 : Int)).toNat = 1 from rfl] at hw157_2)
            (try rw [show 1 * 3 = 3 from rfl] at hw157_2)
            (try simp only [Nat.reduceMul, Nat.reduceEqDiff, Go.Addr.add, ↓reduceIte] at hw157_2)
            have hw157_1 := hx157_1
            (try rw [show ((1 : Int)).toNat = 1 from rfl] at hw157_1)
            (try rw [show 1 * 3 = 3 from rfl] at hw157_1)
            (try simp only [Nat.reduceMul, Nat.reduceEqDiff, Go.Addr.add, ↓reduceIte] at hw157_1)
            have hw157_0 := hx157_0
            (try rw [show ((1 : Int)).toNat = 1 from rfl] at hw157_0)
            (try rw [show 1 * 3 = 3 from rfl] at hw157_0)
            (try simp only [Nat.reduceMul, Nat.reduceEqDiff, Go.Addr.add, ↓reduceIte] at hw157_0)
            obtain rfl : ad155 = ad157 := (by injection e157)
            (try simp only [show (1 : Int).toNat = 1 from rfl, Nat.reduceMul, Nat.reduceEqDiff, Go.Addr.add, ↓reduceIte] at hx157_0)
            (try simp only [show (1 : Int).toNat = 1 from rfl, Nat.reduceMul, Nat.reduceEqDiff, Go.Addr.add, ↓reduceIte] at hx157_1)
            (try simp only [show (1 : Int).toNat = 1 from rfl, Nat.reduceMul, Nat.reduceEqDiff, Go.Addr.add, ↓reduceIte] at hx157_2)
            have qi157 : (1 < l0_2.length) = True := eq_true (by omega)
            (try rw [show ((1 : Int)).toNat = 1 from rfl] at hx157_0)
            (try rw [show 1 * 3 = 3 from rfl] at hx157_0)
            (try rw [show ((1 : Int)).toNat = 1 from rfl] at hx157_1)
            (try rw [show 1 * 3 = 3 from rfl] at hx157_1)
            (try rw [show ((1 : Int)).toNat = 1 from rfl] at hx157_2)
            (try rw [show 1 * 3 = 3 from rfl] at hx157_2)
            replace hx157_0 := (HB.out.cell (World.block_lt_of_cell? w _ hx157_0)).trans hx157_0
            replace hx157_1 := (HB.out.cell (World.block_lt_of_cell? w _ hx157_1)).trans hx157_1
            replace hx157_2 := (HB.out.cell (World.block_lt_of_cell? w _ hx157_2)).trans hx157_2
            have HR157_2 := Aside0.mk hi157_2
            have HC157_2 := Aside0.mk hl157_2
            clear hi157_2 hl157_2
            replace p157 := eq_true p157
            replace q157 := eq_true q157
            refine start_ (n := 14) (S := fun w' => w'.cell? ⟨gb153, 0, none⟩ = some (.int .i64 a0_0) ∧ w'.cell? ⟨gb153, 1, none⟩ = some (.int .i64 a0_1) ∧ w'.cell? ⟨gb153, 2, none⟩ = some (.slice (some ad155) l0_2.length c0_2) ∧ w'.cell? ad155 = some (.int .i64 ((rd_T24 l0_2 0).f0)) ∧ w'.cell? ⟨ad155.block, ad155.off + 1, none⟩ = some (.int .i64 ((rd_T24 l0_2 0).f1)) ∧ w'.cell? ⟨ad155.block, ad155.off + 2, none⟩ = some (.slice A155_2 ((rd_T24 l0_2 0).f2).length c155_2) ∧ w'.cell? ⟨ad155.block, ad155.off + 3, none⟩ = some (.int .i64 ((rd_T24 l0_2 1).f0)) ∧ w'.cell? ⟨ad155.block, ad155.off + 3 + 1, none⟩ = some (.int .i64 ((rd_T24 l0_2 1).f1)) ∧ w'.cell? ⟨ad155.block, ad155.off + 3 + 2, none⟩ = some (.slice A157_2 ((rd_T24 l0_2 1).f2).length c157_2)) (ds := []) #[false, false, false, false, false, false, false, false, false, false, false, false, false, false] (by kernel_rfl) rfl rfl ⟨(blk_cell BK153.out 0).trans rfl, (blk_cell BK153.out 1).trans rfl, (blk_cell BK153.out 2).trans rfl, ((HB.out.cell (World.block_lt_of_cell? w _ hw155_0)).trans hw155_0), ((HB.out.cell (World.block_lt_of_cell? w _ hw155_1)).trans hw155_1), ((HB.out.cell (World.block_lt_of_cell? w _ hw155_2)).trans hw155_2), ((HB.out.cell (World.block_lt_of_cell? w _ hw157_0)).trans hw157_0), ((HB.out.cell (World.block_lt_of_cell? w _ hw157_1)).trans hw157_1), ((HB.out.cell (World.block_lt_of_cell? w _ hw157_2)).trans hw157_2)⟩ (fun hHeld => ?_); refine with_tabW ring_eval.tab8 ring_eval.bits8 (fun HT_ HW_ => ?_)
            generalize w19.drew = w21 at BK153 HB HR155_2 HR157_2 hx155_0 hx155_1 hx155_2 hx157_0 hx157_1 hx157_2 hHeld ⊢
            refine pure_ (i := 0) (N := some 29) (v := ?_) (a' := ?_) #[true, false, false, false, false, false, false, false, false, false, false, false, false, false] rfl rfl (any_of HT_.out (by kernel_rfl)) (fun _ _ _ h => h) (Or.inl ⟨by rfl, ?_⟩) ?_ ?_
            rotate_left
            · intro w'
              go_simp
              with_reducible rfl
            rotate_left
            · simp only [Act.put, List.setIfInBounds_toArray, List.set_cons_zero, List.set_cons_succ, i64_w, i32_w]
              rfl
            refine pure_ (i := 4) (N := some 33) (v := ?_) (a' := ?_) #[true, false, false, false, true, false, false, false, false, false, false, false, false, false] rfl rfl (any_of HT_.out (by kernel_rfl)) (fun _ _ _ h => h) (Or.inl ⟨by rfl, ?_⟩) ?_ ?_
            rotate_left
            · intro w'
              go_simp
              with_reducible rfl
            rotate_left
            · simp only [Act.put, List.setIfInBounds_toArray, List.set_cons_zero, List.set_cons_succ, i64_w, i32_w]
              rfl
            refine pure_ (i := 6) (N := some 35) (v := ?_) (a' := ?_) #[true, false, false, false, true, false, true, false, false, false, false, false, false, false] rfl rfl (any_of HT_.out (by kernel_rfl)) (fun _ _ _ h => h) (Or.inl ⟨by rfl, ?_⟩) ?_ ?_
            rotate_left
            · intro w'
              go_simp
              with_reducible rfl
            rotate_left
            · simp only [Act.put, List.setIfInBounds_toArray, List.set_cons_zero, List.set_cons_succ, i64_w, i32_w]
              rfl
            refine pure_ (i := 10) (N := some 39) (v := ?_) (a' := ?_) #[true, false, false, false, true, false, true, false, false, false, true, false, false, false] rfl rfl (any_of HT_.out (by kernel_rfl)) (fun _ _ _ h => h) (Or.inl ⟨by rfl, ?_⟩) ?_ ?_
            rotate_left
            · intro w'
              go_simp
              with_reducible rfl
            rotate_left
            · simp only [Act.put, List.setIfInBounds_toArray, List.set_cons_zero, List.set_cons_succ, i64_w, i32_w]
              rfl
            refine take_ (i := 1) (N := some 30) (v := ?_) (a' := ?_) #[true, true, false, false, true, false, true, false, false, false, true, false, false, false] rfl rfl (take_ofW HT_.out HW_.out (by kernel_rfl)) (fun _ _ _ h => h) (Or.inl ⟨by rfl, ?_⟩) hHeld ?_ ?_
            rotate_left
            · rintro w' ⟨s0, s1, s2, s3, s4, s5, s6, s7, s8⟩
              go_simp
              with_reducible rfl
            rotate_left
            · simp only [Act.put, List.setIfInBounds_toArray, List.set_cons_zero, List.set_cons_succ, i64_w, i32_w]
              rfl
            refine pure_ (i := 2) (N := some 31) (v := ?_) (a' := ?_) #[true, true, true, false, true, false, true, false, false, false, true, false, false, false] rfl rfl (any_of HT_.out (by kernel_rfl)) (fun _ _ _ h => h) (Or.inl ⟨by rfl, ?_⟩) ?_ ?_
            rotate_left
            · intro w'
              go_simp
              with_reducible rfl
            rotate_left
            · simp only [Act.put, List.setIfInBounds_toArray, List.set_cons_zero, List.set_cons_succ, i64_w, i32_w]
              rfl
            refine take_ (i := 3) (N := some 32) (v := ?_) (a' := ?_) #[true, true, true, true, true, false, true, false, false, false, true, false, false, false] rfl rfl (take_ofW HT_.out HW_.out (by kernel_rfl)) (fun _ _ _ h => h) (Or.inl ⟨by rfl, ?_⟩) hHeld ?_ ?_
            rotate_left
            · rintro w' ⟨s0, s1, s2, s3, s4, s5, s6, s7, s8⟩
              go_simp
              with_reducible rfl
            rotate_left
            · simp only [Act.put, List.setIfInBounds_toArray, List.set_cons_zero, List.set_cons_succ, i64_w, i32_w]
              rfl
            refine take_ (i := 7) (N := some 36) (v := ?_) (a' := ?_) #[true, true, true, true, true, false, true, true, false, false, true, false, false, false] rfl rfl (take_ofW HT_.out HW_.out (by kernel_rfl)) (fun _ _ _ h => h) (Or.inl ⟨by rfl, ?_⟩) hHeld ?_ ?_
            rotate_left
            · rintro w' ⟨s0, s1, s2, s3, s4, s5, s6, s7, s8⟩
              go_simp
              with_reducible rfl
            rotate_left
            · simp only [Act.put, List.setIfInBounds_toArray, List.set_cons_zero, List.set_cons_succ, i64_w, i32_w]
              rfl
            refine pure_ (i := 8) (N := some 37) (v := ?_) (a' := ?_) #[true, true, true, true, true, false, true, true, true, false, true, false, false, false] rfl rfl (any_of HT_.out (by kernel_rfl)) (fun _ _ _ h => h) (Or.inl ⟨by rfl, ?_⟩) ?_ ?_
            rotate_left
            · intro w'
              go_simp
              with_reducible rfl
            rotate_left
            · simp only [Act.put, List.setIfInBounds_toArray, List.set_cons_zero, List.set_cons_succ, i64_w, i32_w]
              rfl
            refine take_ (i := 9) (N := some 38) (v := ?_) (a' := ?_) #[true, true, true, true, true, false, true, true, true, true, true, false, false, false] rfl rfl (take_ofW HT_.out HW_.out (by kernel_rfl)) (fun _ _ _ h => h) (Or.inl ⟨by rfl, ?_⟩) hHeld ?_ ?_
            rotate_left
            · rintro w' ⟨s0, s1, s2, s3, s4, s5, s6, s7, s8⟩
              go_simp
              with_reducible rfl
            rotate_left
            · simp only [Act.put, List.setIfInBounds_toArray, List.set_cons_zero, List.set_cons_succ, i64_w, i32_w]
              rfl
            refine one_ (i := 5) (N := some 34) #[true, true, true, true, true, true, true, true, true, true, true, false, false, false] rfl rfl (one_of HT_.out (by kernel_rfl)) (by decide) (fun K hK => ?_)
            refine goes_ Try.func24 (by kernel_rfl) rfl #[.agg #[.int .i64 ((rd_T24 l0_2 0).f0), .int .i64 ((rd_T24 l0_2 0).f1), .slice A155_2 ((rd_T24 l0_2 0).f2).length c155_2], .slice A1 l1.length c1] (by rfl) rfl rfl (by (try simp only [List.map_toArray, List.map_cons, List.map_nil]); first | done | rfl | (simp only [List.length_drop, List.length_take]; rfl)) ?_
            with_reducible refine (ih k (by omega) ((rd_T24 l0_2 0).f0) ((rd_T24 l0_2 0).f1) _ _ ((rd_T24 l0_2 0).f2) _ _ l1 t156 _ ?side1 ?side2 ?side3 ?side4 A15.out).mono ?_
            (case side1 => repeat (first | exact (Kd.C_below HR155_2.out HB.out) | (with_reducible refine Kd.C_alloc ?_ _) | (with_reducible refine Kd.C_drewN ?_ _) | (with_reducible refine Kd.C_drew ?_)))
            (case side2 => exact HC155_2.out)
            (case side3 => repeat (first | exact (Kd.C_below HR1.out HB.out) | (with_reducible refine Kd.C_alloc ?_ _) | (with_reducible refine Kd.C_drewN ?_ _) | (with_reducible refine Kd.C_drew ?_)))
            (case side4 => exact HC1.out)
            rintro e w22 ⟨rfl, hb⟩
            refine ⟨_, rfl, ?_⟩
            have n0_ := Aside0.mk (blk_below (g := gb153) (o := .cells #[.int .i64 a0_0, .int .i64 a0_1, .slice (some ad155) l0_2.length c0_2] 24 (0, 0)) (by (with_reducible repeat (first | refine blk_drewN ?_ _ | refine blk_drew ?_ | refine blk_alloc ?_ _)); exact BK153.out) hb)
            have n1_ := Aside0.mk (below_step (by repeat (first | (with_reducible first | exact HB.out | apply below_alloc | apply pw_below_drewN | apply below_drew1 | refine below_set ?_ GE153.out) | exact HB.out)) hb)
            clear BK153
            clear HB
            have BK153 := n0_
            have HB := n1_
            clear n0_ n1_
            (try clear hb)
            (try clear hb2)
            (try clear hk)
            (try clear hi)
            refine hK.out _ _ ⟨(blk_cell BK153.out 0).trans rfl, (blk_cell BK153.out 1).trans rfl, (blk_cell BK153.out 2).trans rfl, ((HB.out.cell (World.block_lt_of_cell? w _ hw155_0)).trans hw155_0), ((HB.out.cell (World.block_lt_of_cell? w _ hw155_1)).trans hw155_1), ((HB.out.cell (World.block_lt_of_cell? w _ hw155_2)).trans hw155_2), ((HB.out.cell (World.block_lt_of_cell? w _ hw157_0)).trans hw157_0), ((HB.out.cell (World.block_lt_of_cell? w _ hw157_1)).trans hw157_1), ((HB.out.cell (World.block_lt_of_cell? w _ hw157_2)).trans hw157_2)⟩ (fun hHeld => ?_)
            clear hK K
            refine norm_ (a' := ?_) ?_ ?_
            rotate_left
            · show Act.put _ (some 34) _ = _
              simp only [Act.put, List.setIfInBounds_toArray, List.set_cons_zero, List.set_cons_succ, i64_w, i32_w]
              rfl
            refine one_ (i := 11) (N := some 40) #[true, true, true, true, true, true, true, true, true, true, true, true, false, false] rfl rfl (one_of HT_.out (by kernel_rfl)) (by decide) (fun K hK => ?_)
            refine goes_ Try.func24 (by kernel_rfl) rfl #[.agg #[.int .i64 ((rd_T24 l0_2 1).f0), .int .i64 ((rd_T24 l0_2 1).f1), .slice A157_2 ((rd_T24 l0_2 1).f2).length c157_2], .slice A1 l1.length c1] (by rfl) rfl rfl (by (try simp only [List.map_toArray, List.map_cons, List.map_nil]); first | done | rfl | (simp only [List.length_drop, List.length_take]; rfl)) ?_
            with_reducible refine (ih k (by omega) ((rd_T24 l0_2 1).f0) ((rd_T24 l0_2 1).f1) _ _ ((rd_T24 l0_2 1).f2) _ _ l1 t158 _ ?side1 ?side2 ?side3 ?side4 A17.out).mono ?_
            (case side1 => repeat (first | exact (Kd.C_below HR157_2.out HB.out) | (with_reducible refine Kd.C_alloc ?_ _) | (with_reducible refine Kd.C_drewN ?_ _) | (with_reducible refine Kd.C_drew ?_)))
            (case side2 => exact HC157_2.out)
            (case side3 => repeat (first | exact (Kd.C_below HR1.out HB.out) | (with_reducible refine Kd.C_alloc ?_ _) | (with_reducible refine Kd.C_drewN ?_ _) | (with_reducible refine Kd.C_drew ?_)))
            (case side4 => exact HC1.out)
            rintro e w23 ⟨rfl, hb⟩
            refine ⟨_, rfl, ?_⟩
            have n0_ := Aside0.mk (blk_below (g := gb153) (o := .cells #[.int .i64 a0_0, .int .i64 a0_1, .slice (some ad155) l0_2.length c0_2] 24 (0, 0)) (by (with_reducible repeat (first | refine blk_drewN ?_ _ | refine blk_drew ?_ | refine blk_alloc ?_ _)); exact BK153.out) hb)
            have n1_ := Aside0.mk (below_step (by repeat (first | (with_reducible first | exact HB.out | apply below_alloc | apply pw_below_drewN | apply below_drew1 | refine below_set ?_ GE153.out) | exact HB.out)) hb)
            clear BK153
            clear HB
            have BK153 := n0_
            have HB := n1_
            clear n0_ n1_
            (try clear hb)
            (try clear hb2)
            (try clear hk)
            (try clear hi)
            refine hK.out _ _ ⟨(blk_cell BK153.out 0).trans rfl, (blk_cell BK153.out 1).trans rfl, (blk_cell BK153.out 2).trans rfl, ((HB.out.cell (World.block_lt_of_cell? w _ hw155_0)).trans hw155_0), ((HB.out.cell (World.block_lt_of_cell? w _ hw155_1)).trans hw155_1), ((HB.out.cell (World.block_lt_of_cell? w _ hw155_2)).trans hw155_2), ((HB.out.cell (World.block_lt_of_cell? w _ hw157_0)).trans hw157_0), ((HB.out.cell (World.block_lt_of_cell? w _ hw157_1)).trans hw157_1), ((HB.out.cell (World.block_lt_of_cell? w _ hw157_2)).trans hw157_2)⟩ (fun hHeld => ?_)
            clear hK K
            refine norm_ (a' := ?_) ?_ ?_
            rotate_left
            · show Act.put _ (some 40) _ = _
              simp only [Act.put, List.setIfInBounds_toArray, List.set_cons_zero, List.set_cons_succ, i64_w, i32_w]
              rfl
            refine pure_ (i := 12) (N := some 5) (v := ?_) (a' := ?_) #[true, true, true, true, true, true, true, true, true, true, true, true, true, false] rfl rfl (any_of HT_.out (by kernel_rfl)) (fun _ _ _ h => h) (Or.inl ⟨by rfl, ?_⟩) ?_ ?_
            rotate_left
            · intro w'
              go_simp
              with_reducible rfl
            rotate_left
            · simp only [Act.put, List.setIfInBounds_toArray, List.set_cons_zero, List.set_cons_succ, i64_w, i32_w]
              rfl
            refine pure_ (i := 13) (N := some 6) (v := ?_) (a' := ?_) #[true, true, true, true, true, true, true, true, true, true, true, true, true, true] rfl rfl (any_of HT_.out (by kernel_rfl)) (fun _ _ _ h => h) (Or.inl ⟨by rfl, ?_⟩) ?_ ?_
            rotate_left
            · intro w'
              go_simp
              with_reducible rfl
            rotate_left
            · simp only [Act.put, List.setIfInBounds_toArray, List.set_cons_zero, List.set_cons_succ, i64_w, i32_w]
              rfl
            refine done_ (done_of HT_.out (by kernel_rfl)) ?_
            have hcz24_0 : w23.cell? ⟨gb153, 0, none⟩ = some (.int .i64 a0_0) := (blk_cell BK153.out 0).trans rfl
            have hcz24_1 : w23.cell? ⟨gb153, 1, none⟩ = some (.int .i64 a0_1) := (blk_cell BK153.out 1).trans rfl
            have hcz24_2 : w23.cell? ⟨gb153, 2, none⟩ = some (.slice (some ad155) l0_2.length c0_2) := (blk_cell BK153.out 2).trans rfl
            have hfz24_0 := blk_frozen BK153.out 0
            have hfz24_1 := blk_frozen BK153.out 1
            have hfz24_2 := blk_frozen BK153.out 2
            try go_wp2
            go_ret
            exact ⟨by first | rfl | (simp [errW_none, errW_some] <;> rfl) | (simp [*, errW_none, errW_some] <;> rfl), by repeat (first | (with_reducible first | exact HB.out | apply below_alloc | apply pw_below_drewN | apply below_drew1 | refine below_set ?_ GE153.out) | exact HB.out)⟩
          · rw [if_neg c18] at H
            have c18b0 : (a0_0 == 3) = false := beq_eq_false_iff_ne.mpr c18
            have c18b1 : (a0_0 != 3) = true := bne_iff_ne.mpr c18
            obtain rfl := Option.some.inj H
            go_enter Try.func24, Try.ntmps24
            try go_wp2_with (first | ((with_reducible refine gate_dst (N := 2) rfl ?_); refine box_event ?hg (N := 2) ?hd (cs := #[.int .i64 a0_0, .int .i64 a0_1, .slice A0_2 l0_2.length c0_2]) (t := 24) ?hr ?_; (case hd => rfl); (case hg => rfl); (case hr => first | (go_simp; done) | (go_simp; rfl)); intro gb153 hg w25 hbox hb; have n0_ := Aside0.mk (below_step (by repeat (first | (with_reducible first | exact HB.out | apply below_alloc | apply pw_below_drewN | apply below_drew1) | exact HB.out)) hb); have n1_ := Aside0.mk (hbox); have n2_ := Aside0.mk ((by rw [hg]; exact (below_size (by repeat (first | (with_reducible first | exact HB.out | apply below_alloc | apply pw_below_drewN | apply below_drew1) | exact HB.out))) : w.heap.size ≤ gb153)); have n3_ := Aside0.mk ((by rw [hg]; exact (below_size (by repeat (first | (with_reducible first | exact HB.out | apply below_alloc | apply pw_below_drewN | apply below_drew1) | exact HB.out))) : w.heap.size ≤ gb153)); clear HB; have HB := n0_; have BK153 := n1_; have GW153 := n2_; have GE153 := n3_; clear n0_ n1_ n2_ n3_; clear hb hbox hg; have hcz26_0 : w25.cell? ⟨gb153, 0, none⟩ = some (.int .i64 a0_0) := (blk_cell BK153.out 0).trans rfl; have hcz26_1 : w25.cell? ⟨gb153, 1, none⟩ = some (.int .i64 a0_1) := (blk_cell BK153.out 1).trans rfl; have hcz26_2 : w25.cell? ⟨gb153, 2, none⟩ = some (.slice A0_2 l0_2.length c0_2) := (blk_cell BK153.out 2).trans rfl; have hfz26_0 := blk_frozen BK153.out 0; have hfz26_1 := blk_frozen BK153.out 1; have hfz26_2 := blk_frozen BK153.out 2))
            have n0_ := Aside0.mk (blk_drew BK153.out)
            have n1_ := Aside0.mk (below_drew1 HB.out)
            clear BK153
            clear HB
            have BK153 := n0_
            have HB := n1_
            clear n0_ n1_
            have p155 : 0 ≤ (0 : Int) := (by omega)
            have q155 : 0 < (l0_2.length : Int) := of_decide_eq_true (by first | (with_reducible assumption) | assumption)
            obtain ⟨ad155, A155_2, c155_2, e155, hx155_0, hx155_1, hx155_2, hl155_2, hi155_2⟩ := at_T24 HR0_2.out 0 p155 q155
            have hw155_2 := hx155_2
            (try rw [show ((0 : Int)).toNat = 0 from rfl] at hw155_2)
            (try rw [show 0 * 3 = 0 from rfl] at hw155_2)
            (try rw [Addr.add_zero'] at hw155_2)
            have hw155_1 := hx155_1
            (try rw [show ((0 : Int)).toNat = 0 from rfl] at hw155_1)
            (try rw [show 0 * 3 = 0 from rfl] at hw155_1)
            (try rw [Addr.add_zero'] at hw155_1)
            have hw155_0 := hx155_0
            (try rw [show ((0 : Int)).toNat = 0 from rfl] at hw155_0)
            (try rw [show 0 * 3 = 0 from rfl] at hw155_0)
            (try rw [Addr.add_zero'] at hw155_0)
            cases e155
            have qi155 : (0 < l0_2.length) = True := eq_true (by omega)
            (try rw [show ((0 : Int)).toNat = 0 from rfl] at hx155_0)
            (try rw [show 0 * 3 = 0 from rfl] at hx155_0)
            (try rw [Addr.add_zero'] at hx155_0)
            (try rw [show ((0 : Int)).toNat = 0 from rfl] at hx155_1)
            (try rw [show 0 * 3 = 0 from rfl] at hx155_1)
            (try rw [Addr.add_zero'] at hx155_1)
            (try rw [show ((0 : Int)).toNat = 0 from rfl] at hx155_2)
            (try rw [show 0 * 3 = 0 from rfl] at hx155_2)
            (try rw [Addr.add_zero'] at hx155_2)
            replace hx155_0 := (HB.out.cell (World.block_lt_of_cell? w _ hx155_0)).trans hx155_0
            replace hx155_1 := (HB.out.cell (World.block_lt_of_cell? w _ hx155_1)).trans hx155_1
            replace hx155_2 := (HB.out.cell (World.block_lt_of_cell? w _ hx155_2)).trans hx155_2
            have HR155_2 := Aside0.mk hi155_2
            have HC155_2 := Aside0.mk hl155_2
            clear hi155_2 hl155_2
            replace p155 := eq_true p155
            replace q155 := eq_true q155
            have p157 : 0 ≤ (1 : Int) := (by omega)
            have q157 : 1 < (l0_2.length : Int) := of_decide_eq_true (by first | (with_reducible assumption) | assumption)
            obtain ⟨ad157, A157_2, c157_2, e157, hx157_0, hx157_1, hx157_2, hl157_2, hi157_2⟩ := at_T24 HR0_2.out 1 p157 q157
            have hw157_2 := hx157_2
            (try rw [show ((1 : Int)).toNat = 1 from rfl] at hw157_2)
            (try rw [show 1 * 3 = 3 from rfl] at hw157_2)
            (try simp only [Nat.reduceMul, Nat.reduceEqDiff, Go.Addr.add, ↓reduceIte] at hw157_2)
            have hw157_1 := hx157_1
            (try rw [show ((1 : Int)).toNat = 1 from rfl] at hw157_1)
            (try rw [show 1 * 3 = 3 from rfl] at hw157_1)
            (try simp only [Nat.reduceMul, Nat.reduceEqDiff, Go.Addr.add, ↓reduceIte] at hw157_1)
            have hw157_0 := hx157_0
            (try rw [show ((1 : Int)).toNat = 1 from rfl] at hw157_0)
            (try rw [show 1 * 3 = 3 from rfl] at hw157_0)
            (try simp only [Nat.reduceMul, Nat.reduceEqDiff, Go.Addr.add, ↓reduceIte] at hw157_0)
            obtain rfl : ad155 = ad157 := (by injection e157)
            (try simp only [show (1 : Int).toNat = 1 from rfl, Nat.reduceMul, Nat.reduceEqDiff, Go.Addr.add, ↓reduceIte] at hx157_0)
            (try simp only [show (1 : Int).toNat = 1 from rfl, Nat.reduceMul, Nat.reduceEqDiff, Go.Addr.add, ↓reduceIte] at hx157_1)
            (try simp only [show (1 : Int).toNat = 1 from rfl, Nat.reduceMul, Nat.reduceEqDiff, Go.Addr.add, ↓reduceIte] at hx157_2)
            have qi157 : (1 < l0_2.length) = True := eq_true (by omega)
            (try rw [show ((1 : Int)).toNat = 1 from rfl] at hx157_0)
            (try rw [show 1 * 3 = 3 from rfl] at hx157_0)
            (try rw [show ((1 : Int)).toNat = 1 from rfl] at hx157_1)
            (try rw [show 1 * 3 = 3 from rfl] at hx157_1)
            (try rw [show ((1 : Int)).toNat = 1 from rfl] at hx157_2)
            (try rw [show 1 * 3 = 3 from rfl] at hx157_2)
            replace hx157_0 := (HB.out.cell (World.block_lt_of_cell? w _ hx157_0)).trans hx157_0
            replace hx157_1 := (HB.out.cell (World.block_lt_of_cell? w _ hx157_1)).trans hx157_1
            replace hx157_2 := (HB.out.cell (World.block_lt_of_cell? w _ hx157_2)).trans hx157_2
            have HR157_2 := Aside0.mk hi157_2
            have HC157_2 := Aside0.mk hl157_2
            clear hi157_2 hl157_2
            replace p157 := eq_true p157
            replace q157 := eq_true q157
            refine start_ (n := 14) (S := fun w' => w'.cell? ⟨gb153, 0, none⟩ = some (.int .i64 a0_0) ∧ w'.cell? ⟨gb153, 1, none⟩ = some (.int .i64 a0_1) ∧ w'.cell? ⟨gb153, 2, none⟩ = some (.slice (some ad155) l0_2.length c0_2) ∧ w'.cell? ad155 = some (.int .i64 ((rd_T24 l0_2 0).f0)) ∧ w'.cell? ⟨ad155.block, ad155.off + 1, none⟩ = some (.int .i64 ((rd_T24 l0_2 0).f1)) ∧ w'.cell? ⟨ad155.block, ad155.off + 2, none⟩ = some (.slice A155_2 ((rd_T24 l0_2 0).f2).length c155_2) ∧ w'.cell? ⟨ad155.block, ad155.off + 3, none⟩ = some (.int .i64 ((rd_T24 l0_2 1).f0)) ∧ w'.cell? ⟨ad155.block, ad155.off + 3 + 1, none⟩ = some (.int .i64 ((rd_T24 l0_2 1).f1)) ∧ w'.cell? ⟨ad155.block, ad155.off + 3 + 2, none⟩ = some (.slice A157_2 ((rd_T24 l0_2 1).f2).length c157_2)) (ds := []) #[false, false, false, false, false, false, false, false, false, false, false, false, false, false] (by kernel_rfl) rfl rfl ⟨(blk_cell BK153.out 0).trans rfl, (blk_cell BK153.out 1).trans rfl, (blk_cell BK153.out 2).trans rfl, ((HB.out.cell (World.block_lt_of_cell? w _ hw155_0)).trans hw155_0), ((HB.out.cell (World.block_lt_of_cell? w _ hw155_1)).trans hw155_1), ((HB.out.cell (World.block_lt_of_cell? w _ hw155_2)).trans hw155_2), ((HB.out.cell (World.block_lt_of_cell? w _ hw157_0)).trans hw157_0), ((HB.out.cell (World.block_lt_of_cell? w _ hw157_1)).trans hw157_1), ((HB.out.cell (World.block_lt_of_cell? w _ hw157_2)).trans hw157_2)⟩ (fun hHeld => ?_); refine with_tabW ring_eval.tab8 ring_eval.bits8 (fun HT_ HW_ => ?_)
            generalize w25.drew = w27 at BK153 HB HR155_2 HR157_2 hx155_0 hx155_1 hx155_2 hx157_0 hx157_1 hx157_2 hHeld ⊢
            refine pure_ (i := 0) (N := some 29) (v := ?_) (a' := ?_) #[true, false, false, false, false, false, false, false, false, false, false, false, false, false] rfl rfl (any_of HT_.out (by kernel_rfl)) (fun _ _ _ h => h) (Or.inl ⟨by rfl, ?_⟩) ?_ ?_
            rotate_left
            · intro w'
              go_simp
              with_reducible rfl
            rotate_left
            · simp only [Act.put, List.setIfInBounds_toArray, List.set_cons_zero, List.set_cons_succ, i64_w, i32_w]
              rfl
            refine pure_ (i := 4) (N := some 33) (v := ?_) (a' := ?_) #[true, false, false, false, true, false, false, false, false, false, false, false, false, false] rfl rfl (any_of HT_.out (by kernel_rfl)) (fun _ _ _ h => h) (Or.inl ⟨by rfl, ?_⟩) ?_ ?_
            rotate_left
            · intro w'
              go_simp
              with_reducible rfl
            rotate_left
            · simp only [Act.put, List.setIfInBounds_toArray, List.set_cons_zero, List.set_cons_succ, i64_w, i32_w]
              rfl
            refine pure_ (i := 6) (N := some 35) (v := ?_) (a' := ?_) #[true, false, false, false, true, false, true, false, false, false, false, false, false, false] rfl rfl (any_of HT_.out (by kernel_rfl)) (fun _ _ _ h => h) (Or.inl ⟨by rfl, ?_⟩) ?_ ?_
            rotate_left
            · intro w'
              go_simp
              with_reducible rfl
            rotate_left
            · simp only [Act.put, List.setIfInBounds_toArray, List.set_cons_zero, List.set_cons_succ, i64_w, i32_w]
              rfl
            refine pure_ (i := 10) (N := some 39) (v := ?_) (a' := ?_) #[true, false, false, false, true, false, true, false, false, false, true, false, false, false] rfl rfl (any_of HT_.out (by kernel_rfl)) (fun _ _ _ h => h) (Or.inl ⟨by rfl, ?_⟩) ?_ ?_
            rotate_left
            · intro w'
              go_simp
              with_reducible rfl
            rotate_left
            · simp only [Act.put, List.setIfInBounds_toArray, List.set_cons_zero, List.set_cons_succ, i64_w, i32_w]
              rfl
            refine take_ (i := 1) (N := some 30) (v := ?_) (a' := ?_) #[true, true, false, false, true, false, true, false, false, false, true, false, false, false] rfl rfl (take_ofW HT_.out HW_.out (by kernel_rfl)) (fun _ _ _ h => h) (Or.inl ⟨by rfl, ?_⟩) hHeld ?_ ?_
            rotate_left
            · rintro w' ⟨s0, s1, s2, s3, s4, s5, s6, s7, s8⟩
              go_simp
              with_reducible rfl
            rotate_left
            · simp only [Act.put, List.setIfInBounds_toArray, List.set_cons_zero, List.set_cons_succ, i64_w, i32_w]
              rfl
            refine pure_ (i := 2) (N := some 31) (v := ?_) (a' := ?_) #[true, true, true, false, true, false, true, false, false, false, true, false, false, false] rfl rfl (any_of HT_.out (by kernel_rfl)) (fun _ _ _ h => h) (Or.inl ⟨by rfl, ?_⟩) ?_ ?_
            rotate_left
            · intro w'
              go_simp
              with_reducible rfl
            rotate_left
            · simp only [Act.put, List.setIfInBounds_toArray, List.set_cons_zero, List.set_cons_succ, i64_w, i32_w]
              rfl
            refine take_ (i := 3) (N := some 32) (v := ?_) (a' := ?_) #[true, true, true, true, true, false, true, false, false, false, true, false, false, false] rfl rfl (take_ofW HT_.out HW_.out (by kernel_rfl)) (fun _ _ _ h => h) (Or.inl ⟨by rfl, ?_⟩) hHeld ?_ ?_
            rotate_left
            · rintro w' ⟨s0, s1, s2, s3, s4, s5, s6, s7, s8⟩
              go_simp
              with_reducible rfl
            rotate_left
            · simp only [Act.put, List.setIfInBounds_toArray, List.set_cons_zero, List.set_cons_succ, i64_w, i32_w]
              rfl
            refine take_ (i := 7) (N := some 36) (v := ?_) (a' := ?_) #[true, true, true, true, true, false, true, true, false, false, true, false, false, false] rfl rfl (take_ofW HT_.out HW_.out (by kernel_rfl)) (fun _ _ _ h => h) (Or.inl ⟨by rfl, ?_⟩) hHeld ?_ ?_
            rotate_left
            · rintro w' ⟨s0, s1, s2, s3, s4, s5, s6, s7, s8⟩
              go_simp
              with_reducible rfl
            rotate_left
            · simp only [Act.put, List.setIfInBounds_toArray, List.set_cons_zero, List.set_cons_succ, i64_w, i32_w]
              rfl
            refine pure_ (i := 8) (N := some 37) (v := ?_) (a' := ?_) #[true, true, true, true, true, false, true, true, true, false, true, false, false, false] rfl rfl (any_of HT_.out (by kernel_rfl)) (fun _ _ _ h => h) (Or.inl ⟨by rfl, ?_⟩) ?_ ?_
            rotate_left
            · intro w'
              go_simp
              with_reducible rfl
            rotate_left
            · simp only [Act.put, List.setIfInBounds_toArray, List.set_cons_zero, List.set_cons_succ, i64_w, i32_w]
              rfl
            refine take_ (i := 9) (N := some 38) (v := ?_) (a' := ?_) #[true, true, true, true, true, false, true, true, true, true, true, false, false, false] rfl rfl (take_ofW HT_.out HW_.out (by kernel_rfl)) (fun _ _ _ h => h) (Or.inl ⟨by rfl, ?_⟩) hHeld ?_ ?_
            rotate_left
            · rintro w' ⟨s0, s1, s2, s3, s4, s5, s6, s7, s8⟩
              go_simp
              with_reducible rfl
            rotate_left
            · simp only [Act.put, List.setIfInBounds_toArray, List.set_cons_zero, List.set_cons_succ, i64_w, i32_w]
              rfl
            refine one_ (i := 5) (N := some 34) #[true, true, true, true, true, true, true, true, true, true, true, false, false, false] rfl rfl (one_of HT_.out (by kernel_rfl)) (by decide) (fun K hK => ?_)
            refine goes_ Try.func24 (by kernel_rfl) rfl #[.agg #[.int .i64 ((rd_T24 l0_2 0).f0), .int .i64 ((rd_T24 l0_2 0).f1), .slice A155_2 ((rd_T24 l0_2 0).f2).length c155_2], .slice A1 l1.length c1] (by rfl) rfl rfl (by (try simp only [List.map_toArray, List.map_cons, List.map_nil]); first | done | rfl | (simp only [List.length_drop, List.length_take]; rfl)) ?_
            with_reducible refine (ih k (by omega) ((rd_T24 l0_2 0).f0) ((rd_T24 l0_2 0).f1) _ _ ((rd_T24 l0_2 0).f2) _ _ l1 t156 _ ?side1 ?side2 ?side3 ?side4 A15.out).mono ?_
            (case side1 => repeat (first | exact (Kd.C_below HR155_2.out HB.out) | (with_reducible refine Kd.C_alloc ?_ _) | (with_reducible refine Kd.C_drewN ?_ _) | (with_reducible refine Kd.C_drew ?_)))
            (case side2 => exact HC155_2.out)
            (case side3 => repeat (first | exact (Kd.C_below HR1.out HB.out) | (with_reducible refine Kd.C_alloc ?_ _) | (with_reducible refine Kd.C_drewN ?_ _) | (with_reducible refine Kd.C_drew ?_)))
            (case side4 => exact HC1.out)
            rintro e w28 ⟨rfl, hb⟩
            refine ⟨_, rfl, ?_⟩
            have n0_ := Aside0.mk (blk_below (g := gb153) (o := .cells #[.int .i64 a0_0, .int .i64 a0_1, .slice (some ad155) l0_2.length c0_2] 24 (0, 0)) (by (with_reducible repeat (first | refine blk_drewN ?_ _ | refine blk_drew ?_ | refine blk_alloc ?_ _)); exact BK153.out) hb)
            have n1_ := Aside0.mk (below_step (by repeat (first | (with_reducible first | exact HB.out | apply below_alloc | apply pw_below_drewN | apply below_drew1 | refine below_set ?_ GE153.out) | exact HB.out)) hb)
            clear BK153
            clear HB
            have BK153 := n0_
            have HB := n1_
            clear n0_ n1_
            (try clear hb)
            (try clear hb2)
            (try clear hk)
            (try clear hi)
            refine hK.out _ _ ⟨(blk_cell BK153.out 0).trans rfl, (blk_cell BK153.out 1).trans rfl, (blk_cell BK153.out 2).trans rfl, ((HB.out.cell (World.block_lt_of_cell? w _ hw155_0)).trans hw155_0), ((HB.out.cell (World.block_lt_of_cell? w _ hw155_1)).trans hw155_1), ((HB.out.cell (World.block_lt_of_cell? w _ hw155_2)).trans hw155_2), ((HB.out.cell (World.block_lt_of_cell? w _ hw157_0)).trans hw157_0), ((HB.out.cell (World.block_lt_of_cell? w _ hw157_1)).trans hw157_1), ((HB.out.cell (World.block_lt_of_cell? w _ hw157_2)).trans hw157_2)⟩ (fun hHeld => ?_)
            clear hK K
            refine norm_ (a' := ?_) ?_ ?_
            rotate_left
            · show Act.put _ (some 34) _ = _
              simp only [Act.put, List.setIfInBounds_toArray, List.set_cons_zero, List.set_cons_succ, i64_w, i32_w]
              rfl
            refine one_ (i := 11) (N := some 40) #[true, true, true, true, true, true, true, true, true, true, true, true, false, false] rfl rfl (one_of HT_.out (by kernel_rfl)) (by decide) (fun K hK => ?_)
            refine goes_ Try.func24 (by kernel_rfl) rfl #[.agg #[.int .i64 ((rd_T24 l0_2 1).f0), .int .i64 ((rd_T24 l0_2 1).f1), .slice A157_2 ((rd_T24 l0_2 1).f2).length c157_2], .slice A1 l1.length c1] (by rfl) rfl rfl (by (try simp only [List.map_toArray, List.map_cons, List.map_nil]); first | done | rfl | (simp only [List.length_drop, List.length_take]; rfl)) ?_
            with_reducible refine (ih k (by omega) ((rd_T24 l0_2 1).f0) ((rd_T24 l0_2 1).f1) _ _ ((rd_T24 l0_2 1).f2) _ _ l1 t158 _ ?side1 ?side2 ?side3 ?side4 A17.out).mono ?_
            (case side1 => repeat (first | exact (Kd.C_below HR157_2.out HB.out) | (with_reducible refine Kd.C_alloc ?_ _) | (with_reducible refine Kd.C_drewN ?_ _) | (with_reducible refine Kd.C_drew ?_)))
            (case side2 => exact HC157_2.out)
            (case side3 => repeat (first | exact (Kd.C_below HR1.out HB.out) | (with_reducible refine Kd.C_alloc ?_ _) | (with_reducible refine Kd.C_drewN ?_ _) | (with_reducible refine Kd.C_drew ?_)))
            (case side4 => exact HC1.out)
            rintro e w29 ⟨rfl, hb⟩
            refine ⟨_, rfl, ?_⟩
            have n0_ := Aside0.mk (blk_below (g := gb153) (o := .cells #[.int .i64 a0_0, .int .i64 a0_1, .slice (some ad155) l0_2.length c0_2] 24 (0, 0)) (by (with_reducible repeat (first | refine blk_drewN ?_ _ | refine blk_drew ?_ | refine blk_alloc ?_ _)); exact BK153.out) hb)
            have n1_ := Aside0.mk (below_step (by repeat (first | (with_reducible first | exact HB.out | apply below_alloc | apply pw_below_drewN | apply below_drew1 | refine below_set ?_ GE153.out) | exact HB.out)) hb)
            clear BK153
            clear HB
            have BK153 := n0_
            have HB := n1_
            clear n0_ n1_
            (try clear hb)
            (try clear hb2)
            (try clear hk)
            (try clear hi)
            refine hK.out _ _ ⟨(blk_cell BK153.out 0).trans rfl, (blk_cell BK153.out 1).trans rfl, (blk_cell BK153.out 2).trans rfl, ((HB.out.cell (World.block_lt_of_cell? w _ hw155_0)).trans hw155_0), ((HB.out.cell (World.block_lt_of_cell? w _ hw155_1)).trans hw155_1), ((HB.out.cell (World.block_lt_of_cell? w _ hw155_2)).trans hw155_2), ((HB.out.cell (World.block_lt_of_cell? w _ hw157_0)).trans hw157_0), ((HB.out.cell (World.block_lt_of_cell? w _ hw157_1)).trans hw157_1), ((HB.out.cell (World.block_lt_of_cell? w _ hw157_2)).trans hw157_2)⟩ (fun hHeld => ?_)
            clear hK K
            refine norm_ (a' := ?_) ?_ ?_
            rotate_left
            · show Act.put _ (some 40) _ = _
              simp only [Act.put, List.setIfInBounds_toArray, List.set_cons_zero, List.set_cons_succ, i64_w, i32_w]
              rfl
            refine pure_ (i := 12) (N := some 5) (v := ?_) (a' := ?_) #[true, true, true, true, true, true, true, true, true, true, true, true, true, false] rfl rfl (any_of HT_.out (by kernel_rfl)) (fun _ _ _ h => h) (Or.inl ⟨by rfl, ?_⟩) ?_ ?_
            rotate_left
            · intro w'
              go_simp
              with_reducible rfl
            rotate_left
            · simp only [Act.put, List.setIfInBounds_toArray, List.set_cons_zero, List.set_cons_succ, i64_w, i32_w]
              rfl
            refine pure_ (i := 13) (N := some 6) (v := ?_) (a' := ?_) #[true, true, true, true, true, true, true, true, true, true, true, true, true, true] rfl rfl (any_of HT_.out (by kernel_rfl)) (fun _ _ _ h => h) (Or.inl ⟨by rfl, ?_⟩) ?_ ?_
            rotate_left
            · intro w'
              go_simp
              with_reducible rfl
            rotate_left
            · simp only [Act.put, List.setIfInBounds_toArray, List.set_cons_zero, List.set_cons_succ, i64_w, i32_w]
              rfl
            refine done_ (done_of HT_.out (by kernel_rfl)) ?_
            have hcz30_0 : w29.cell? ⟨gb153, 0, none⟩ = some (.int .i64 a0_0) := (blk_cell BK153.out 0).trans rfl
            have hcz30_1 : w29.cell? ⟨gb153, 1, none⟩ = some (.int .i64 a0_1) := (blk_cell BK153.out 1).trans rfl
            have hcz30_2 : w29.cell? ⟨gb153, 2, none⟩ = some (.slice (some ad155) l0_2.length c0_2) := (blk_cell BK153.out 2).trans rfl
            have hfz30_0 := blk_frozen BK153.out 0
            have hfz30_1 := blk_frozen BK153.out 1
            have hfz30_2 := blk_frozen BK153.out 2
            try go_wp2
            go_ret
            exact ⟨by first | rfl | (simp [errW_none, errW_some] <;> rfl) | (simp [*, errW_none, errW_some] <;> rfl), by repeat (first | (with_reducible first | exact HB.out | apply below_alloc | apply pw_below_drewN | apply below_drew1 | refine below_set ?_ GE153.out) | exact HB.out)⟩
        · rw [if_neg c16] at H
          exact absurd H (by simp)
      · rw [if_neg c14] at H
        exact absurd H (by simp)

end Go.Proofs.Ytjnplfbggklkfaa.Rg
