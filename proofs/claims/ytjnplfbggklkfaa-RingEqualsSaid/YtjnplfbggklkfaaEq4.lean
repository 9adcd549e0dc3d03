/- Texts of this claim, one behind the other: Rg34. -/
import Derived.Test.YtjnplfbggklkfaaEq1
import Derived.Test.YtjnplfbggklkfaaEq3

-- Written by a program of this claim's session: print.py's form, some functions told by hand.
namespace Go.Proofs.Ytjnplfbggklkfaa.Rg
open Go.RowKit Go.Proofs.YtjnplfbggklkfaaW.PrintWords Go.Proofs.YtjnplfbggklkfaaW.PrintLast Go.Proofs.YtjnplfbggklkfaaW.PrintMore
attribute [local go_sem] max2_int min2_int max_two min_two max_three min_three max_four min_four   -- for this text's walks alone
set_option linter.unusedVariables false
set_option linter.unusedSimpArgs false

/-! ### tenetref24_into: function 36 -/
mutual
def tenetref24_into.j1 : Nat → List (S57) → Int → Int → List Int → Option ((List (S57)) × Bool)
 | 0, _, _, _, _ => none
 | k + 1, x0, x6, x199000, x199001 => if 0 ≤ x6 then (if x6 ≤ (x0.length : Int) then ((some (x0.take (x6 : Int).toNat : List (S57))).bind fun y201 => (if ([] : List (S57)).length + y201.length < 4398046511104 then ((some (([] : List (S57)) ++ y201 : List (S57))).bind fun y206 => (if x6 < (x0.length : Int) then ((tenetref24_same.f k ((rd_T57 x0 x6).f1) x199001).bind fun t210 => (tenetref24_into.j2 k x0 x6 y206 t210 x199000 x199001)) else (tenetref24_into.j2 k x0 x6 y206 false x199000 x199001))) else (none))) else (none)) else (none)
def tenetref24_into.j2 : Nat → List (S57) → Int → List (S57) → Bool → Int → List Int → Option ((List (S57)) × Bool)
 | 0, _, _, _, _, _, _ => none
 | k + 1, x0, x6, x7, x42, x199000, x199001 => if x42 = true then (if 0 ≤ x6 then (if x6 < (x0.length : Int) then (if ((rd_T57 x0 x6).f0) > (wrap64 (1000000000000000 - x199000)) then (some (([] : List (S57)), false)) else (if x7.length < 4398046511104 then ((some (x7 ++ [(⟨wrap64 (((rd_T57 x0 x6).f0) + x199000), (rd_T57 x0 x6).f1⟩ : S57)] : List (S57))).bind fun y214 => (if 0 ≤ (wrap64 (x6 + 1)) then (if (wrap64 (x6 + 1)) ≤ (x0.length : Int) then ((some (x0.drop ((wrap64 (x6 + 1)) : Int).toNat : List (S57))).bind fun y217 => (if y214.length + y217.length < 4398046511104 then (some ((y214 ++ y217), true)) else (none))) else (none)) else (none))) else (none))) else (none)) else (none)) else (if x7.length < 4398046511104 then ((some (x7 ++ [(⟨x199000, x199001⟩ : S57)] : List (S57))).bind fun y225 => (if 0 ≤ x6 then (if x6 ≤ (x0.length : Int) then ((some (x0.drop (x6 : Int).toNat : List (S57))).bind fun y228 => (if y225.length + y228.length < 4398046511104 then (some ((y225 ++ y228), true)) else (none))) else (none)) else (none))) else (none))
def tenetref24_into.l0 : Nat → List (S57) → Int → Int → List Int → Option ((List (S57)) × Bool)
 | 0, _, _, _, _ => none
 | k + 1, x0, x6, x199000, x199001 => if x6 < (x0.length : Int) then (if 0 ≤ x6 then ((tenetref24_less.f k ((rd_T57 x0 x6).f1) x199001).bind fun t200 => (if t200 = true then (tenetref24_into.l0 k x0 (wrap64 (x6 + 1)) x199000 x199001) else (tenetref24_into.j1 k x0 x6 x199000 x199001))) else (none)) else (tenetref24_into.j1 k x0 x6 x199000 x199001)
end
def tenetref24_into.f (k : Nat) (l0 : List (S57)) (a1_0 : Int) (l1_1 : List Int) : Option ((List (S57)) × Bool) := tenetref24_into.l0 k l0 0 a1_0 l1_1
theorem tenetref24_into.mono_l : ∀ k, (∀ y0 y1 y2 y3, LeO (tenetref24_into.j1 k y0 y1 y2 y3) (tenetref24_into.j1 (k + 1) y0 y1 y2 y3)) ∧ (∀ y0 y1 y2 y3 y4 y5, LeO (tenetref24_into.j2 k y0 y1 y2 y3 y4 y5) (tenetref24_into.j2 (k + 1) y0 y1 y2 y3 y4 y5)) ∧ (∀ y0 y1 y2 y3, LeO (tenetref24_into.l0 k y0 y1 y2 y3) (tenetref24_into.l0 (k + 1) y0 y1 y2 y3))
 | 0 => ⟨fun _ _ _ _ r h => by simp [tenetref24_into.j1] at h, fun _ _ _ _ _ _ r h => by simp [tenetref24_into.j2] at h, fun _ _ _ _ r h => by simp [tenetref24_into.l0] at h⟩
 | k + 1 => by
  obtain ⟨ih0, ih1, ih2⟩ := tenetref24_into.mono_l k
  refine ⟨?_, ?_, ?_⟩
  ·
   intro y0 y1 y2 y3
   unfold tenetref24_into.j1
   repeat' first
   | (with_reducible exact ih0 _ _ _ _)
   | (with_reducible exact ih1 _ _ _ _ _ _)
   | (with_reducible exact ih2 _ _ _ _)
   | (with_reducible exact tenetref24_less.mono _ _ _)
   | (with_reducible exact tenetref24_same.mono _ _ _)
   | (with_reducible exact LeO.refl _)
   | (with_reducible exact LeO.none _)
   | (with_reducible refine LeO.ite ?_ ?_)
   | (with_reducible refine LeO.bind ?_ (fun _ => ?_))
   | exact ih0 _ _ _ _
   | exact ih1 _ _ _ _ _ _
   | exact ih2 _ _ _ _
   | exact tenetref24_less.mono _ _ _
   | exact tenetref24_same.mono _ _ _
   | exact LeO.none _
   | refine LeO.ite ?_ ?_
   | refine LeO.bind ?_ (fun _ => ?_)
  ·
   intro y0 y1 y2 y3 y4 y5
   unfold tenetref24_into.j2
   repeat' first
   | (with_reducible exact ih0 _ _ _ _)
   | (with_reducible exact ih1 _ _ _ _ _ _)
   | (with_reducible exact ih2 _ _ _ _)
   | (with_reducible exact tenetref24_less.mono _ _ _)
   | (with_reducible exact tenetref24_same.mono _ _ _)
   | (with_reducible exact LeO.refl _)
   | (with_reducible exact LeO.none _)
   | (with_reducible refine LeO.ite ?_ ?_)
   | (with_reducible refine LeO.bind ?_ (fun _ => ?_))
   | exact ih0 _ _ _ _
   | exact ih1 _ _ _ _ _ _
   | exact ih2 _ _ _ _
   | exact tenetref24_less.mono _ _ _
   | exact tenetref24_same.mono _ _ _
   | exact LeO.none _
   | refine LeO.ite ?_ ?_
   | refine LeO.bind ?_ (fun _ => ?_)
  ·
   intro y0 y1 y2 y3
   unfold tenetref24_into.l0
   repeat' first
   | (with_reducible exact ih0 _ _ _ _)
   | (with_reducible exact ih1 _ _ _ _ _ _)
   | (with_reducible exact ih2 _ _ _ _)
   | (with_reducible exact tenetref24_less.mono _ _ _)
   | (with_reducible exact tenetref24_same.mono _ _ _)
   | (with_reducible exact LeO.refl _)
   | (with_reducible exact LeO.none _)
   | (with_reducible refine LeO.ite ?_ ?_)
   | (with_reducible refine LeO.bind ?_ (fun _ => ?_))
   | exact ih0 _ _ _ _
   | exact ih1 _ _ _ _ _ _
   | exact ih2 _ _ _ _
   | exact tenetref24_less.mono _ _ _
   | exact tenetref24_same.mono _ _ _
   | exact LeO.none _
   | refine LeO.ite ?_ ?_
   | refine LeO.bind ?_ (fun _ => ?_)
theorem tenetref24_into.mono : ∀ a0 a1 a2 k, LeO (tenetref24_into.f k a0 a1 a2) (tenetref24_into.f (k + 1) a0 a1 a2) := by
 intro a0 a1 a2 k
 obtain ⟨ih0, ih1, ih2⟩ := tenetref24_into.mono_l k
 unfold tenetref24_into.f
 repeat' first
   | (with_reducible exact ih0 _ _ _ _)
   | (with_reducible exact ih1 _ _ _ _ _ _)
   | (with_reducible exact ih2 _ _ _ _)
   | (with_reducible exact tenetref24_less.mono _ _ _)
   | (with_reducible exact tenetref24_same.mono _ _ _)
   | (with_reducible exact LeO.refl _)
   | (with_reducible exact LeO.none _)
   | (with_reducible refine LeO.ite ?_ ?_)
   | (with_reducible refine LeO.bind ?_ (fun _ => ?_))
   | exact ih0 _ _ _ _
   | exact ih1 _ _ _ _ _ _
   | exact ih2 _ _ _ _
   | exact tenetref24_less.mono _ _ _
   | exact tenetref24_same.mono _ _ _
   | exact LeO.none _
   | refine LeO.ite ?_ ?_
   | refine LeO.bind ?_ (fun _ => ?_)
def tenetref24_into.T2 : Bool × List (List Nat × List Nat) := (true, [([], []), ([], []), ([1], [1]), ([0, 2], [0, 2]), ([3], [3]), ([4], [4]), ([4], [4]), ([5, 6, 4], [4, 5, 6]), ([7, 4], [4, 7]), ([8, 4], [4, 8]), ([4], [4]), ([10, 4], [4, 10]), ([9, 11, 4, 4], [4, 9, 11]), ([4, 12], [4, 12])])
def tenetref24_into.B2 : List Nat := [0, 0, 2, 7, 15, 31, 31, 127, 255, 511, 31, 1055, 4095, 8191]
theorem tenetref24_into.tab2 : rtab .any (opsOf Try.f36 2) = tenetref24_into.T2 := by kernel_rfl
theorem tenetref24_into.bits2 : waitsOk tenetref24_into.T2.2 tenetref24_into.B2 = true := by kernel_rfl
def tenetref24_into.T6 : Bool × List (List Nat × List Nat) := (true, [([], []), ([], []), ([1], [1]), ([0, 2], [0, 2]), ([3], [3]), ([4], [4]), ([4], [4]), ([5, 6, 4], [4, 5, 6]), ([7, 4], [4, 7]), ([8, 4], [4, 8]), ([4], [4]), ([10, 4], [4, 10]), ([9, 11, 4, 4], [4, 9, 11]), ([4, 12], [4, 12])])
def tenetref24_into.B6 : List Nat := [0, 0, 2, 7, 15, 31, 31, 127, 255, 511, 31, 1055, 4095, 8191]
theorem tenetref24_into.tab6 : rtab .any (opsOf Try.f36 6) = tenetref24_into.T6 := by kernel_rfl
theorem tenetref24_into.bits6 : waitsOk tenetref24_into.T6.2 tenetref24_into.B6 = true := by kernel_rfl
def tenetref24_into.T7 : Bool × List (List Nat × List Nat) := (true, [([], []), ([], []), ([0, 1], [0, 1]), ([2], [2]), ([3], [3]), ([], []), ([5], [5]), ([6], [6]), ([4, 7], [4, 7])])
def tenetref24_into.B7 : List Nat := [0, 0, 3, 7, 15, 0, 32, 96, 255]
theorem tenetref24_into.tab7 : rtab .any (opsOf Try.f36 7) = tenetref24_into.T7 := by kernel_rfl
theorem tenetref24_into.bits7 : waitsOk tenetref24_into.T7.2 tenetref24_into.B7 = true := by kernel_rfl
def tenetref24_into.T9 : Bool × List (List Nat × List Nat) := (true, [([], []), ([], []), ([], []), ([1, 2], [1, 2]), ([3], [3]), ([4], [4]), ([], []), ([6], [6]), ([5, 7], [5, 7]), ([], []), ([], []), ([9, 10], [9, 10]), ([11], [11]), ([12], [12]), ([8, 13], [8, 13]), ([14], [14]), ([0, 15], [0, 15]), ([16, 16, 0, 1, 2, 3, 4, 5, 6, 7, 8, 9, 10, 11, 12, 13, 14, 15, 16], [0, 16])])
def tenetref24_into.B9 : List Nat := [0, 0, 0, 6, 14, 30, 0, 64, 254, 0, 0, 1536, 3584, 7680, 16382, 32766, 65535, 131071]
theorem tenetref24_into.tab9 : rtab .any (opsOf Try.f36 9) = tenetref24_into.T9 := by kernel_rfl
theorem tenetref24_into.bits9 : waitsOk tenetref24_into.T9.2 tenetref24_into.B9 = true := by kernel_rfl
set_option maxHeartbeats 8000000 in
set_option maxRecDepth 100000 in
theorem tenetref24_into.calls (k : Nat) (P0_ : Nat → Prop) (A0 : Option Addr) (c0 : Nat) (l0 : List (S57)) (a1_0 : Int) (P1_1_ : Nat → Prop) (A1_1 : Option Addr) (c1_1 : Nat) (l1_1 : List Int) (r1 : List (S57)) (r2 : Bool) (w : World) (hs0 : Kd.V k57 57 w w.heap.size (fun k_ => P0_ k_) (.slice A0 l0.length c0) l0) (hs1_1 : Kd.V (Kd.int .i64) 3 w w.heap.size (fun k_ => P1_1_ k_) (.slice A1_1 l1_1.length c1_1) l1_1) (h : tenetref24_into.f k l0 a1_0 l1_1 = some (r1, r2)) :
  Calls Try.prog 36 #[.slice A0 l0.length c0, .agg #[.int .i64 a1_0, .slice A1_1 l1_1.length c1_1]] w fun e w' => ∃ v0_ : Value, e = .returned (.tuple #[v0_, .bool r2]) ∧ Kd.N k57 57 w' w.heap.size (fun k_ => ((P0_ k_ ∨ P1_1_ k_) ∨ w.heap.size ≤ k_)) v0_ r1 ∧ Below w.heap.size w w' := by
 have hu57 := Try.underlying57
 have HO0 := Am (show Kd.V k57 57 w w.heap.size (fun k_ => ((P0_ k_ ∨ P1_1_ k_) ∨ w.heap.size ≤ k_)) (.slice A0 l0.length c0) l0 from Kd.V_mono hs0 (fun k_ hk => .inl (.inl hk)))
 have HO1_1 := Am (show Kd.V (Kd.int .i64) 3 w w.heap.size (fun k_ => ((P0_ k_ ∨ P1_1_ k_) ∨ w.heap.size ≤ k_)) (.slice A1_1 l1_1.length c1_1) l1_1 from Kd.V_mono hs1_1 (fun k_ hk => .inl (.inr hk)))
 have HB := Am (Below.refl w.heap.size w)
 have H : (tenetref24_into.l0 k l0 0 a1_0 l1_1) = some (r1, r2) := h
 clear h
 have HC3 := Am H
 clear H
 go_enter Try.func36, Try.ntmps36
 go_upto_block 0 with (first | ((with_reducible refine gate_dst (N := 3) rfl ?_); refine box_event ?hg (N := 3) ?hd (cs := #[.int .i64 a1_0, .slice A1_1 l1_1.length c1_1]) (t := 57) ?hr ?_; (case hd => rfl); (case hg => rfl); (case hr => first | (go_simp; done) | (go_simp; rfl)); intro gb198 hg w4 hbox hb; have n0_ := Am (Kd.V_below (Kd.V_elderB (by (with_reducible repeat (first | apply Kd.V_alloc | apply Kd.V_drewN | apply Kd.V_drew)); exact HO0.out) gb198 (Nat.le_of_eq hg.symm)) hb); have n1_ := Am (Kd.V_below (Kd.V_elderB (by (with_reducible repeat (first | apply Kd.V_alloc | apply Kd.V_drewN | apply Kd.V_drew)); exact HO1_1.out) gb198 (Nat.le_of_eq hg.symm)) hb); have n2_ := Am (below_step (by repeat (first | (with_reducible first | exact HB.out | apply pA | apply pN | apply pD) | exact HB.out)) hb); have n3_ := Am (hbox); have n4_ := Am ((by rw [hg]; exact (below_size (by repeat (first | (with_reducible first | exact HB.out | apply pA | apply pN | apply pD) | exact HB.out))) : w.heap.size ≤ gb198)); have n5_ := Am ((by rw [hg]; exact (below_size (by repeat (first | (with_reducible first | exact HB.out | apply pA | apply pN | apply pD) | exact HB.out))) : w.heap.size ≤ gb198)); clear HO0; clear HO1_1; clear HB; have HO0 := n0_; have HO1_1 := n1_; have HB := n2_; have BK198 := n3_; have GW198 := n4_; have GE198 := n5_; clear n0_ n1_ n2_ n3_ n4_ n5_; clear hb hbox hg))
 (try simp only [Act.put, List.setIfInBounds_toArray, List.set_cons_zero, List.set_cons_succ])
 go_cut [6] (fun v6 wc => ∃ (kq : Nat) (x6_2 : Int), v6 = .int .i64 x6_2 ∧ Aside0 (tenetref24_into.j1 kq l0 x6_2 a1_0 l1_1 = some (r1, r2)) ∧ Aside0 (kq ≤ k) ∧ Aside0 (Kd.V k57 57 wc w.heap.size (fun k_ => ((P0_ k_ ∨ P1_1_ k_) ∨ w.heap.size ≤ k_) ∧ k_ ≠ gb198) (.slice A0 l0.length c0) l0) ∧ Aside0 (Kd.V (Kd.int .i64) 3 wc w.heap.size (fun k_ => ((P0_ k_ ∨ P1_1_ k_) ∨ w.heap.size ≤ k_) ∧ k_ ≠ gb198) (.slice A1_1 l1_1.length c1_1) l1_1) ∧ Aside0 (wc.heap[gb198]? = some (.cells #[.int .i64 a1_0, (.slice A1_1 l1_1.length c1_1)] 57 (0, 0))) ∧ Aside0 (Below w.heap.size w wc))
 case first =>
  have H := HC3.out
  clear HC3
  have H' := Am H
  clear H
  go_wp2
  go_loopg [6] k (fun kq v6 w' => ∃ (x6_1 : Int), v6 = .int .i64 x6_1 ∧ Aside0 (tenetref24_into.l0 kq l0 x6_1 a1_0 l1_1 = some (r1, r2)) ∧ Aside0 (kq ≤ k) ∧ Aside0 (Kd.V k57 57 w' w.heap.size (fun k_ => ((P0_ k_ ∨ P1_1_ k_) ∨ w.heap.size ≤ k_) ∧ k_ ≠ gb198) (.slice A0 l0.length c0) l0) ∧ Aside0 (Kd.V (Kd.int .i64) 3 w' w.heap.size (fun k_ => ((P0_ k_ ∨ P1_1_ k_) ∨ w.heap.size ≤ k_) ∧ k_ ≠ gb198) (.slice A1_1 l1_1.length c1_1) l1_1) ∧ Aside0 (w'.heap[gb198]? = some (.cells #[.int .i64 a1_0, (.slice A1_1 l1_1.length c1_1)] 57 (0, 0))) ∧ Aside0 (Below w.heap.size w w'))
  case atStart => exact ⟨(0), (by first | rfl | (simp; done) | (simp [*]; done)), H', ⟨Nat.le_refl _⟩, ⟨by (with_reducible repeat (first | apply Kd.V_alloc | apply Kd.V_drewN | apply Kd.V_drew)); exact HO0.out⟩, ⟨by (with_reducible repeat (first | apply Kd.V_alloc | apply Kd.V_drewN | apply Kd.V_drew)); exact HO1_1.out⟩, ⟨by (with_reducible repeat (first | refine bN ?_ _ | refine bD ?_ | refine bA ?_ _)); exact BK198.out⟩, ⟨by repeat (first | (with_reducible first | exact HB.out | apply pA | apply pN | apply pD | refine pS ?_ GE198.out) | exact HB.out)⟩⟩
  case round =>
   clear H'
   try clear c1
   try clear p2
   try clear c3
   obtain ⟨x6_1, rfl, HA, HK1, HO_0, HO_199001, BK198, HB⟩ := hrel
   cases gk with
   | zero => exact absurd HA.out (by simp [tenetref24_into.l0])
   | succ k1 =>
    have H := HA.out
    clear HA
    simp only [tenetref24_into.l0] at H
    by_cases c5 : x6_1 < (l0.length : Int)
    ·
     rw [if_pos c5] at H
     have c5b0 : decide (x6_1 < (l0.length : Int)) = true := decide_eq_true c5
     clear c5
     (first | rw [c5b0] | (simp only [i64_w, i32_w]; rw [c5b0]) | skip)
     by_cases c6 : 0 ≤ x6_1
     ·
      rw [if_pos c6] at H
      have c6b0 : decide (0 ≤ x6_1) = true := decide_eq_true c6
      clear c6
      replace H := Option.bind_eq_some_iff.mp H
      obtain ⟨t200, A70, H⟩ := H
      replace H : (if t200 = true then (tenetref24_into.l0 k1 l0 (wrap64 (x6_1 + 1)) a1_0 l1_1) else (tenetref24_into.j1 k1 l0 x6_1 a1_0 l1_1)) = some (r1, r2) := H
      have A7 := Am A70
      clear A70
      by_cases c8 : t200 = true
      ·
       subst c8
       have H1 : (tenetref24_into.l0 k1 l0 (wrap64 (x6_1 + 1)) a1_0 l1_1) = some (r1, r2) := by rw [if_pos rfl] at H; exact H
       clear H
       have H := H1
       clear H1
       have H' := Am H
       clear H
       try go_wp2
       have n0_ := Am (Kd.V_drew HO_0.out)
       have n1_ := Am (Kd.V_drew HO_199001.out)
       have n2_ := Am (bD BK198.out)
       have n3_ := Am (pD HB.out)
       clear HO_0
       clear HO_199001
       clear BK198
       clear HB
       have HO_0 := n0_
       have HO_199001 := n1_
       have BK198 := n2_
       have HB := n3_
       clear n0_ n1_ n2_ n3_
       have p199 : 0 ≤ (x6_1 : Int) := of_decide_eq_true (by first | (with_reducible assumption) | assumption)
       have q199 : x6_1 < (l0.length : Int) := of_decide_eq_true (by first | (with_reducible assumption) | assumption)
       obtain ⟨ad199, A199_1, c199_1, e199, hx199_0, hx199_1, hl199_1, hi199_1⟩ := at_T57 (Kd.V_reads' HO_0.out).2.2 x6_1 p199 q199
       cases e199
       obtain ⟨ce199, hce199, hMe199, hcc199⟩ := Kd.V_get HO_0.out z57 x6_1 p199 (by first | exact q199 | exact of_decide_eq_true (by first | (with_reducible assumption) | assumption) | (have e_ := (Kd.V_reads' HO_0.out).1; omega))
       obtain ⟨ua199_1, uc199_1, rfl, ul199_1, ge199_1⟩ := k57_openF hMe199
       have hv199_1 := hcc199 1 _ rfl
       rw [add_field _ _ 1 (by omega)] at hv199_1
       replace hv199_1 := Option.some.inj (hv199_1.symm.trans hx199_1)
       injection hv199_1 with hva_ hvn_ hvc_
       rw [hva_] at ge199_1
       rw [hvc_] at ul199_1
       have HL199_1 := Am (show Kd.V (Kd.int .i64) 3 _ w.heap.size _ _ ((rd_T57 l0 x6_1).f1) from Kd.V_mk ul199_1 ge199_1)
       clear hva_ hvn_ hvc_ ge199_1 ul199_1
       clear hcc199 hce199
       have HR199_1 := Am hi199_1
       have HC199_1 := Am hl199_1
       clear hi199_1 hl199_1
       replace p199 := eq_true p199
       replace q199 := eq_true q199
       refine start_ (n := 14) (S := fun w' => w'.cell? ⟨gb198, 0, none⟩ = some (.int .i64 a1_0) ∧ w'.cell? ⟨gb198, 1, none⟩ = some (.slice A1_1 l1_1.length c1_1) ∧ w'.cell? (ad199.add ((x6_1).toNat * 2)) = some (.int .i64 ((rd_T57 l0 x6_1).f0)) ∧ w'.cell? ⟨(ad199.add ((x6_1).toNat * 2)).block, (ad199.add ((x6_1).toNat * 2)).off + 1, none⟩ = some (.slice A199_1 ((rd_T57 l0 x6_1).f1).length c199_1)) (ds := []) #[false, false, false, false, false, false, false, false, false, false, false, false, false, false] (by kernel_rfl) rfl rfl ⟨(blk_cell BK198.out 0).trans rfl, (blk_cell BK198.out 1).trans rfl, hx199_0, hx199_1⟩ (fun hHeld => ?_); refine with_tabW tenetref24_into.tab2 tenetref24_into.bits2 (fun HT_ HW_ => ?_)
       generalize wr.drew = w9 at HO_0 HO_199001 BK198 HB HL199_1 HR199_1 hx199_0 hx199_1 hHeld ⊢
       refine pure_ (i := 0) (N := some 8) (v := ?_) (a' := ?_) #[true, false, false, false, false, false, false, false, false, false, false, false, false, false] rfl rfl (any_of HT_.out (by kernel_rfl)) (fun _ _ _ h => h) (Or.inl ⟨by rfl, ?_⟩) ?_ ?_
       rotate_left
       ·
        intro w'
        go_simp
        with_reducible rfl
       rotate_left
       ·
        simp only [Act.put, List.setIfInBounds_toArray, List.set_cons_zero, List.set_cons_succ, i64_w, i32_w]
        rfl
       refine pure_ (i := 1) (N := some 9) (v := ?_) (a' := ?_) #[true, true, false, false, false, false, false, false, false, false, false, false, false, false] rfl rfl (any_of HT_.out (by kernel_rfl)) (fun _ _ _ h => h) (Or.inl ⟨by rfl, ?_⟩) ?_ ?_
       rotate_left
       ·
        intro w'
        go_simp
        with_reducible rfl
       rotate_left
       ·
        simp only [Act.put, List.setIfInBounds_toArray, List.set_cons_zero, List.set_cons_succ, i64_w, i32_w]
        rfl
       refine pure_ (i := 2) (N := some 10) (v := ?_) (a' := ?_) #[true, true, true, false, false, false, false, false, false, false, false, false, false, false] rfl rfl (any_of HT_.out (by kernel_rfl)) (fun _ _ _ h => h) (Or.inl ⟨by rfl, ?_⟩) ?_ ?_
       rotate_left
       ·
        intro w'
        go_simp
        with_reducible rfl
       rotate_left
       ·
        simp only [Act.put, List.setIfInBounds_toArray, List.set_cons_zero, List.set_cons_succ, i64_w, i32_w]
        rfl
       refine pure_ (i := 3) (N := some 11) (v := ?_) (a' := ?_) #[true, true, true, true, false, false, false, false, false, false, false, false, false, false] rfl rfl (any_of HT_.out (by kernel_rfl)) (fun _ _ _ h => h) (Or.inl ⟨by rfl, ?_⟩) ?_ ?_
       rotate_left
       ·
        intro w'
        go_simp
        with_reducible rfl
       rotate_left
       ·
        simp only [Act.put, List.setIfInBounds_toArray, List.set_cons_zero, List.set_cons_succ, i64_w, i32_w]
        rfl
       refine pure_ (i := 4) (N := some 12) (v := ?_) (a' := ?_) #[true, true, true, true, true, false, false, false, false, false, false, false, false, false] rfl rfl (any_of HT_.out (by kernel_rfl)) (fun _ _ _ h => h) (Or.inl ⟨by rfl, ?_⟩) ?_ ?_
       rotate_left
       ·
        intro w'
        go_simp
        with_reducible rfl
       rotate_left
       ·
        simp only [Act.put, List.setIfInBounds_toArray, List.set_cons_zero, List.set_cons_succ, i64_w, i32_w]
        rfl
       refine pure_ (i := 5) (N := some 13) (v := ?_) (a' := ?_) #[true, true, true, true, true, true, false, false, false, false, false, false, false, false] rfl rfl (any_of HT_.out (by kernel_rfl)) (fun _ _ _ h => h) (Or.inl ⟨by rfl, ?_⟩) ?_ ?_
       rotate_left
       ·
        intro w'
        go_simp
        with_reducible rfl
       rotate_left
       ·
        simp only [Act.put, List.setIfInBounds_toArray, List.set_cons_zero, List.set_cons_succ, i64_w, i32_w]
        rfl
       refine pure_ (i := 6) (N := some 14) (v := ?_) (a' := ?_) #[true, true, true, true, true, true, true, false, false, false, false, false, false, false] rfl rfl (any_of HT_.out (by kernel_rfl)) (fun _ _ _ h => h) (Or.inl ⟨by rfl, ?_⟩) ?_ ?_
       rotate_left
       ·
        intro w'
        go_simp
        with_reducible rfl
       rotate_left
       ·
        simp only [Act.put, List.setIfInBounds_toArray, List.set_cons_zero, List.set_cons_succ, i64_w, i32_w]
        rfl
       refine pure_ (i := 7) (N := some 15) (v := ?_) (a' := ?_) #[true, true, true, true, true, true, true, true, false, false, false, false, false, false] rfl rfl (any_of HT_.out (by kernel_rfl)) (fun _ _ _ h => h) (Or.inl ⟨by rfl, ?_⟩) ?_ ?_
       rotate_left
       ·
        intro w'
        go_simp
        with_reducible rfl
       rotate_left
       ·
        simp only [Act.put, List.setIfInBounds_toArray, List.set_cons_zero, List.set_cons_succ, i64_w, i32_w]
        rfl
       refine pure_ (i := 8) (N := some 16) (v := ?_) (a' := ?_) #[true, true, true, true, true, true, true, true, true, false, false, false, false, false] rfl rfl (any_of HT_.out (by kernel_rfl)) (fun _ _ _ h => h) (Or.inl ⟨by rfl, ?_⟩) ?_ ?_
       rotate_left
       ·
        intro w'
        go_simp
        with_reducible rfl
       rotate_left
       ·
        simp only [Act.put, List.setIfInBounds_toArray, List.set_cons_zero, List.set_cons_succ, i64_w, i32_w]
        rfl
       refine pure_ (i := 10) (N := some 18) (v := ?_) (a' := ?_) #[true, true, true, true, true, true, true, true, true, false, true, false, false, false] rfl rfl (any_of HT_.out (by kernel_rfl)) (fun _ _ _ h => h) (Or.inl ⟨by rfl, ?_⟩) ?_ ?_
       rotate_left
       ·
        intro w'
        go_simp
        with_reducible rfl
       rotate_left
       ·
        simp only [Act.put, List.setIfInBounds_toArray, List.set_cons_zero, List.set_cons_succ, i64_w, i32_w]
        rfl
       refine take_ (i := 9) (N := some 17) (v := ?_) (a' := ?_) #[true, true, true, true, true, true, true, true, true, true, true, false, false, false] rfl rfl (take_ofW HT_.out HW_.out (by kernel_rfl)) (fun _ _ _ h => h) (Or.inl ⟨by rfl, ?_⟩) hHeld ?_ ?_
       rotate_left
       ·
        rintro w' ⟨s0, s1, s2, s3⟩
        go_simp
        with_reducible rfl
       rotate_left
       ·
        simp only [Act.put, List.setIfInBounds_toArray, List.set_cons_zero, List.set_cons_succ, i64_w, i32_w]
        rfl
       refine take_ (i := 11) (N := some 19) (v := ?_) (a' := ?_) #[true, true, true, true, true, true, true, true, true, true, true, true, false, false] rfl rfl (take_ofW HT_.out HW_.out (by kernel_rfl)) (fun _ _ _ h => h) (Or.inl ⟨by rfl, ?_⟩) hHeld ?_ ?_
       rotate_left
       ·
        rintro w' ⟨s0, s1, s2, s3⟩
        go_simp
        with_reducible rfl
       rotate_left
       ·
        simp only [Act.put, List.setIfInBounds_toArray, List.set_cons_zero, List.set_cons_succ, i64_w, i32_w]
        rfl
       refine one_ (i := 12) (N := some 20) #[true, true, true, true, true, true, true, true, true, true, true, true, true, false] rfl rfl (one_of HT_.out (by kernel_rfl)) (by decide) (fun K hK => ?_)
       refine goes_ Try.func42 (by kernel_rfl) rfl #[.slice A199_1 ((rd_T57 l0 x6_1).f1).length c199_1, .slice A1_1 l1_1.length c1_1] (by rfl) rfl rfl (by (try simp only [List.map_toArray, List.map_cons, List.map_nil]); first | done | rfl | (simp only [List.length_drop, List.length_take]; rfl)) ?_
       with_reducible refine (tenetref24_less.calls k1 _ _ ((rd_T57 l0 x6_1).f1) _ _ l1_1 true _ ?side1 ?side2 ?side3 ?side4 A7.out).mono ?_
       (case side1 => repeat (first | exact (by repeat (first | (with_reducible exact HR199_1.out) | (with_reducible refine Kd.C_alloc ?_ _) | (with_reducible refine Kd.C_drewN ?_ _) | (with_reducible refine Kd.C_drew ?_) | exact HR199_1.out)) | (with_reducible refine Kd.C_alloc ?_ _) | (with_reducible refine Kd.C_drewN ?_ _) | (with_reducible refine Kd.C_drew ?_)))
       (case side2 => exact HC199_1.out)
       (case side3 => repeat (first | exact (Kd.V_reads' HO_199001.out).2.2 | (with_reducible refine Kd.C_alloc ?_ _) | (with_reducible refine Kd.C_drewN ?_ _) | (with_reducible refine Kd.C_drew ?_)))
       (case side4 => exact (Kd.V_reads' HO_199001.out).2.1)
       rintro e w' ⟨rfl, ⟨nd, rfl⟩⟩
       refine ⟨_, rfl, ?_⟩
       refine hK.out _ _ ⟨(blk_cell BK198.out 0).trans rfl, (blk_cell BK198.out 1).trans rfl, hHeld.2.2.1, hHeld.2.2.2⟩ (fun hHeld => ?_)
       clear hK K
       refine norm_ (a' := ?_) ?_ ?_
       rotate_left
       ·
        show Act.put _ (some 20) _ = _
        simp only [Act.put, List.setIfInBounds_toArray, List.set_cons_zero, List.set_cons_succ, i64_w, i32_w]
        rfl
       refine pure_ (i := 13) (N := some 21) (v := ?_) (a' := ?_) #[true, true, true, true, true, true, true, true, true, true, true, true, true, true] rfl rfl (any_of HT_.out (by kernel_rfl)) (fun _ _ _ h => h) (Or.inl ⟨by rfl, ?_⟩) ?_ ?_
       rotate_left
       ·
        intro w'
        go_simp
        with_reducible rfl
       rotate_left
       ·
        simp only [Act.put, List.setIfInBounds_toArray, List.set_cons_zero, List.set_cons_succ, i64_w, i32_w]
        rfl
       refine done_ (done_of HT_.out (by kernel_rfl)) ?_
       try go_wp2
       go_roundg k1
       case measure => have := HK1.out; omega
       case rel => exact ⟨(wrap64 (x6_1 + 1)), (by first | rfl | (simp; done) | (simp [*]; done)), H', ⟨by have := HK1.out; omega⟩, ⟨by (with_reducible repeat (first | apply Kd.V_alloc | apply Kd.V_drewN | apply Kd.V_drew)); exact HO_0.out⟩, ⟨by (with_reducible repeat (first | apply Kd.V_alloc | apply Kd.V_drewN | apply Kd.V_drew)); exact HO_199001.out⟩, ⟨by (with_reducible repeat (first | refine bN ?_ _ | refine bD ?_ | refine bA ?_ _)); exact BK198.out⟩, ⟨by repeat (first | (with_reducible first | exact HB.out | apply pA | apply pN | apply pD | refine pS ?_ GE198.out) | exact HB.out)⟩⟩
      ·
       replace c8 := Bool.eq_false_iff.mpr c8
       subst c8
       have H1 : (tenetref24_into.j1 k1 l0 x6_1 a1_0 l1_1) = some (r1, r2) := by rw [if_neg (show ¬ (false = true) by decide)] at H; exact H
       clear H
       have H := H1
       clear H1
       have H' := Am H
       clear H
       try go_wp2
       have n0_ := Am (Kd.V_drew HO_0.out)
       have n1_ := Am (Kd.V_drew HO_199001.out)
       have n2_ := Am (bD BK198.out)
       have n3_ := Am (pD HB.out)
       clear HO_0
       clear HO_199001
       clear BK198
       clear HB
       have HO_0 := n0_
       have HO_199001 := n1_
       have BK198 := n2_
       have HB := n3_
       clear n0_ n1_ n2_ n3_
       have p199 : 0 ≤ (x6_1 : Int) := of_decide_eq_true (by first | (with_reducible assumption) | assumption)
       have q199 : x6_1 < (l0.length : Int) := of_decide_eq_true (by first | (with_reducible assumption) | assumption)
       obtain ⟨ad199, A199_1, c199_1, e199, hx199_0, hx199_1, hl199_1, hi199_1⟩ := at_T57 (Kd.V_reads' HO_0.out).2.2 x6_1 p199 q199
       cases e199
       obtain ⟨ce199, hce199, hMe199, hcc199⟩ := Kd.V_get HO_0.out z57 x6_1 p199 (by first | exact q199 | exact of_decide_eq_true (by first | (with_reducible assumption) | assumption) | (have e_ := (Kd.V_reads' HO_0.out).1; omega))
       obtain ⟨ua199_1, uc199_1, rfl, ul199_1, ge199_1⟩ := k57_openF hMe199
       have hv199_1 := hcc199 1 _ rfl
       rw [add_field _ _ 1 (by omega)] at hv199_1
       replace hv199_1 := Option.some.inj (hv199_1.symm.trans hx199_1)
       injection hv199_1 with hva_ hvn_ hvc_
       rw [hva_] at ge199_1
       rw [hvc_] at ul199_1
       have HL199_1 := Am (show Kd.V (Kd.int .i64) 3 _ w.heap.size _ _ ((rd_T57 l0 x6_1).f1) from Kd.V_mk ul199_1 ge199_1)
       clear hva_ hvn_ hvc_ ge199_1 ul199_1
       clear hcc199 hce199
       have HR199_1 := Am hi199_1
       have HC199_1 := Am hl199_1
       clear hi199_1 hl199_1
       replace p199 := eq_true p199
       replace q199 := eq_true q199
       refine start_ (n := 14) (S := fun w' => w'.cell? ⟨gb198, 0, none⟩ = some (.int .i64 a1_0) ∧ w'.cell? ⟨gb198, 1, none⟩ = some (.slice A1_1 l1_1.length c1_1) ∧ w'.cell? (ad199.add ((x6_1).toNat * 2)) = some (.int .i64 ((rd_T57 l0 x6_1).f0)) ∧ w'.cell? ⟨(ad199.add ((x6_1).toNat * 2)).block, (ad199.add ((x6_1).toNat * 2)).off + 1, none⟩ = some (.slice A199_1 ((rd_T57 l0 x6_1).f1).length c199_1)) (ds := []) #[false, false, false, false, false, false, false, false, false, false, false, false, false, false] (by kernel_rfl) rfl rfl ⟨(blk_cell BK198.out 0).trans rfl, (blk_cell BK198.out 1).trans rfl, hx199_0, hx199_1⟩ (fun hHeld => ?_); refine with_tabW tenetref24_into.tab2 tenetref24_into.bits2 (fun HT_ HW_ => ?_)
       generalize wr.drew = w10 at HO_0 HO_199001 BK198 HB HL199_1 HR199_1 hx199_0 hx199_1 hHeld ⊢
       refine pure_ (i := 0) (N := some 8) (v := ?_) (a' := ?_) #[true, false, false, false, false, false, false, false, false, false, false, false, false, false] rfl rfl (any_of HT_.out (by kernel_rfl)) (fun _ _ _ h => h) (Or.inl ⟨by rfl, ?_⟩) ?_ ?_
       rotate_left
       ·
        intro w'
        go_simp
        with_reducible rfl
       rotate_left
       ·
        simp only [Act.put, List.setIfInBounds_toArray, List.set_cons_zero, List.set_cons_succ, i64_w, i32_w]
        rfl
       refine pure_ (i := 1) (N := some 9) (v := ?_) (a' := ?_) #[true, true, false, false, false, false, false, false, false, false, false, false, false, false] rfl rfl (any_of HT_.out (by kernel_rfl)) (fun _ _ _ h => h) (Or.inl ⟨by rfl, ?_⟩) ?_ ?_
       rotate_left
       ·
        intro w'
        go_simp
        with_reducible rfl
       rotate_left
       ·
        simp only [Act.put, List.setIfInBounds_toArray, List.set_cons_zero, List.set_cons_succ, i64_w, i32_w]
        rfl
       refine pure_ (i := 2) (N := some 10) (v := ?_) (a' := ?_) #[true, true, true, false, false, false, false, false, false, false, false, false, false, false] rfl rfl (any_of HT_.out (by kernel_rfl)) (fun _ _ _ h => h) (Or.inl ⟨by rfl, ?_⟩) ?_ ?_
       rotate_left
       ·
        intro w'
        go_simp
        with_reducible rfl
       rotate_left
       ·
        simp only [Act.put, List.setIfInBounds_toArray, List.set_cons_zero, List.set_cons_succ, i64_w, i32_w]
        rfl
       refine pure_ (i := 3) (N := some 11) (v := ?_) (a' := ?_) #[true, true, true, true, false, false, false, false, false, false, false, false, false, false] rfl rfl (any_of HT_.out (by kernel_rfl)) (fun _ _ _ h => h) (Or.inl ⟨by rfl, ?_⟩) ?_ ?_
       rotate_left
       ·
        intro w'
        go_simp
        with_reducible rfl
       rotate_left
       ·
        simp only [Act.put, List.setIfInBounds_toArray, List.set_cons_zero, List.set_cons_succ, i64_w, i32_w]
        rfl
       refine pure_ (i := 4) (N := some 12) (v := ?_) (a' := ?_) #[true, true, true, true, true, false, false, false, false, false, false, false, false, false] rfl rfl (any_of HT_.out (by kernel_rfl)) (fun _ _ _ h => h) (Or.inl ⟨by rfl, ?_⟩) ?_ ?_
       rotate_left
       ·
        intro w'
        go_simp
        with_reducible rfl
       rotate_left
       ·
        simp only [Act.put, List.setIfInBounds_toArray, List.set_cons_zero, List.set_cons_succ, i64_w, i32_w]
        rfl
       refine pure_ (i := 5) (N := some 13) (v := ?_) (a' := ?_) #[true, true, true, true, true, true, false, false, false, false, false, false, false, false] rfl rfl (any_of HT_.out (by kernel_rfl)) (fun _ _ _ h => h) (Or.inl ⟨by rfl, ?_⟩) ?_ ?_
       rotate_left
       ·
        intro w'
        go_simp
        with_reducible rfl
       rotate_left
       ·
        simp only [Act.put, List.setIfInBounds_toArray, List.set_cons_zero, List.set_cons_succ, i64_w, i32_w]
        rfl
       refine pure_ (i := 6) (N := some 14) (v := ?_) (a' := ?_) #[true, true, true, true, true, true, true, false, false, false, false, false, false, false] rfl rfl (any_of HT_.out (by kernel_rfl)) (fun _ _ _ h => h) (Or.inl ⟨by rfl, ?_⟩) ?_ ?_
       rotate_left
       ·
        intro w'
        go_simp
        with_reducible rfl
       rotate_left
       ·
        simp only [Act.put, List.setIfInBounds_toArray, List.set_cons_zero, List.set_cons_succ, i64_w, i32_w]
        rfl
       refine pure_ (i := 7) (N := some 15) (v := ?_) (a' := ?_) #[true, true, true, true, true, true, true, true, false, false, false, false, false, false] rfl rfl (any_of HT_.out (by kernel_rfl)) (fun _ _ _ h => h) (Or.inl ⟨by rfl, ?_⟩) ?_ ?_
       rotate_left
       ·
        intro w'
        go_simp
        with_reducible rfl
       rotate_left
       ·
        simp only [Act.put, List.setIfInBounds_toArray, List.set_cons_zero, List.set_cons_succ, i64_w, i32_w]
        rfl
       refine pure_ (i := 8) (N := some 16) (v := ?_) (a' := ?_) #[true, true, true, true, true, true, true, true, true, false, false, false, false, false] rfl rfl (any_of HT_.out (by kernel_rfl)) (fun _ _ _ h => h) (Or.inl ⟨by rfl, ?_⟩) ?_ ?_
       rotate_left
       ·
        intro w'
        go_simp
        with_reducible rfl
       rotate_left
       ·
        simp only [Act.put, List.setIfInBounds_toArray, List.set_cons_zero, List.set_cons_succ, i64_w, i32_w]
        rfl
       refine pure_ (i := 10) (N := some 18) (v := ?_) (a' := ?_) #[true, true, true, true, true, true, true, true, true, false, true, false, false, false] rfl rfl (any_of HT_.out (by kernel_rfl)) (fun _ _ _ h => h) (Or.inl ⟨by rfl, ?_⟩) ?_ ?_
       rotate_left
       ·
        intro w'
        go_simp
        with_reducible rfl
       rotate_left
       ·
        simp only [Act.put, List.setIfInBounds_toArray, List.set_cons_zero, List.set_cons_succ, i64_w, i32_w]
        rfl
       refine take_ (i := 9) (N := some 17) (v := ?_) (a' := ?_) #[true, true, true, true, true, true, true, true, true, true, true, false, false, false] rfl rfl (take_ofW HT_.out HW_.out (by kernel_rfl)) (fun _ _ _ h => h) (Or.inl ⟨by rfl, ?_⟩) hHeld ?_ ?_
       rotate_left
       ·
        rintro w' ⟨s0, s1, s2, s3⟩
        go_simp
        with_reducible rfl
       rotate_left
       ·
        simp only [Act.put, List.setIfInBounds_toArray, List.set_cons_zero, List.set_cons_succ, i64_w, i32_w]
        rfl
       refine take_ (i := 11) (N := some 19) (v := ?_) (a' := ?_) #[true, true, true, true, true, true, true, true, true, true, true, true, false, false] rfl rfl (take_ofW HT_.out HW_.out (by kernel_rfl)) (fun _ _ _ h => h) (Or.inl ⟨by rfl, ?_⟩) hHeld ?_ ?_
       rotate_left
       ·
        rintro w' ⟨s0, s1, s2, s3⟩
        go_simp
        with_reducible rfl
       rotate_left
       ·
        simp only [Act.put, List.setIfInBounds_toArray, List.set_cons_zero, List.set_cons_succ, i64_w, i32_w]
        rfl
       refine one_ (i := 12) (N := some 20) #[true, true, true, true, true, true, true, true, true, true, true, true, true, false] rfl rfl (one_of HT_.out (by kernel_rfl)) (by decide) (fun K hK => ?_)
       refine goes_ Try.func42 (by kernel_rfl) rfl #[.slice A199_1 ((rd_T57 l0 x6_1).f1).length c199_1, .slice A1_1 l1_1.length c1_1] (by rfl) rfl rfl (by (try simp only [List.map_toArray, List.map_cons, List.map_nil]); first | done | rfl | (simp only [List.length_drop, List.length_take]; rfl)) ?_
       with_reducible refine (tenetref24_less.calls k1 _ _ ((rd_T57 l0 x6_1).f1) _ _ l1_1 false _ ?side1 ?side2 ?side3 ?side4 A7.out).mono ?_
       (case side1 => repeat (first | exact (by repeat (first | (with_reducible exact HR199_1.out) | (with_reducible refine Kd.C_alloc ?_ _) | (with_reducible refine Kd.C_drewN ?_ _) | (with_reducible refine Kd.C_drew ?_) | exact HR199_1.out)) | (with_reducible refine Kd.C_alloc ?_ _) | (with_reducible refine Kd.C_drewN ?_ _) | (with_reducible refine Kd.C_drew ?_)))
       (case side2 => exact HC199_1.out)
       (case side3 => repeat (first | exact (Kd.V_reads' HO_199001.out).2.2 | (with_reducible refine Kd.C_alloc ?_ _) | (with_reducible refine Kd.C_drewN ?_ _) | (with_reducible refine Kd.C_drew ?_)))
       (case side4 => exact (Kd.V_reads' HO_199001.out).2.1)
       rintro e w' ⟨rfl, ⟨nd, rfl⟩⟩
       refine ⟨_, rfl, ?_⟩
       refine hK.out _ _ ⟨(blk_cell BK198.out 0).trans rfl, (blk_cell BK198.out 1).trans rfl, hHeld.2.2.1, hHeld.2.2.2⟩ (fun hHeld => ?_)
       clear hK K
       refine norm_ (a' := ?_) ?_ ?_
       rotate_left
       ·
        show Act.put _ (some 20) _ = _
        simp only [Act.put, List.setIfInBounds_toArray, List.set_cons_zero, List.set_cons_succ, i64_w, i32_w]
        rfl
       refine pure_ (i := 13) (N := some 21) (v := ?_) (a' := ?_) #[true, true, true, true, true, true, true, true, true, true, true, true, true, true] rfl rfl (any_of HT_.out (by kernel_rfl)) (fun _ _ _ h => h) (Or.inl ⟨by rfl, ?_⟩) ?_ ?_
       rotate_left
       ·
        intro w'
        go_simp
        with_reducible rfl
       rotate_left
       ·
        simp only [Act.put, List.setIfInBounds_toArray, List.set_cons_zero, List.set_cons_succ, i64_w, i32_w]
        rfl
       refine done_ (done_of HT_.out (by kernel_rfl)) ?_
       try go_wp2
       go_meet
       case rel => exact ⟨_, (x6_1), (by first | rfl | (simp; done) | (simp [*]; done)), H', ⟨by have := HK1.out; first | omega | exact Nat.le_refl _⟩, ⟨by (with_reducible repeat (first | apply Kd.V_alloc | apply Kd.V_drewN | apply Kd.V_drew)); exact HO_0.out⟩, ⟨by (with_reducible repeat (first | apply Kd.V_alloc | apply Kd.V_drewN | apply Kd.V_drew)); exact HO_199001.out⟩, ⟨by (with_reducible repeat (first | refine bN ?_ _ | refine bD ?_ | refine bA ?_ _)); exact BK198.out⟩, ⟨by repeat (first | (with_reducible first | exact HB.out | apply pA | apply pN | apply pD | refine pS ?_ GE198.out) | exact HB.out)⟩⟩
     ·
      rw [if_neg c6] at H
      exact absurd H (by simp)
    ·
     rw [if_neg c5] at H
     have c5b0 : decide (x6_1 < (l0.length : Int)) = false := decide_eq_false c5
     clear c5
     (first | rw [c5b0] | (simp only [i64_w, i32_w]; rw [c5b0]) | skip)
     have H' := Am H
     clear H
     try go_wp2
     have n0_ := Am (Kd.V_drew HO_0.out)
     have n1_ := Am (Kd.V_drew HO_199001.out)
     have n2_ := Am (bD BK198.out)
     have n3_ := Am (pD HB.out)
     clear HO_0
     clear HO_199001
     clear BK198
     clear HB
     have HO_0 := n0_
     have HO_199001 := n1_
     have BK198 := n2_
     have HB := n3_
     clear n0_ n1_ n2_ n3_
     refine start_ (n := 14) (S := fun w' => True) (ds := []) #[false, false, false, false, false, false, false, false, false, false, false, false, false, false] (by kernel_rfl) rfl rfl trivial (fun hHeld => ?_); refine with_tabW tenetref24_into.tab2 tenetref24_into.bits2 (fun HT_ HW_ => ?_)
     generalize wr.drew = w11 at HO_0 HO_199001 BK198 HB hHeld ⊢
     refine pure_ (i := 0) (N := some 8) (v := ?_) (a' := ?_) #[true, false, false, false, false, false, false, false, false, false, false, false, false, false] rfl rfl (any_of HT_.out (by kernel_rfl)) (fun _ _ _ h => h) (Or.inl ⟨by rfl, ?_⟩) ?_ ?_
     rotate_left
     ·
      intro w'
      go_simp
      with_reducible rfl
     rotate_left
     ·
      simp only [Act.put, List.setIfInBounds_toArray, List.set_cons_zero, List.set_cons_succ, i64_w, i32_w]
      rfl
     refine pure_ (i := 1) (N := some 9) (v := ?_) (a' := ?_) #[true, true, false, false, false, false, false, false, false, false, false, false, false, false] rfl rfl (any_of HT_.out (by kernel_rfl)) (fun _ _ _ h => h) (Or.inl ⟨by rfl, ?_⟩) ?_ ?_
     rotate_left
     ·
      intro w'
      go_simp
      with_reducible rfl
     rotate_left
     ·
      simp only [Act.put, List.setIfInBounds_toArray, List.set_cons_zero, List.set_cons_succ, i64_w, i32_w]
      rfl
     refine pure_ (i := 2) (N := some 10) (v := ?_) (a' := ?_) #[true, true, true, false, false, false, false, false, false, false, false, false, false, false] rfl rfl (any_of HT_.out (by kernel_rfl)) (fun _ _ _ h => h) (Or.inl ⟨by rfl, ?_⟩) ?_ ?_
     rotate_left
     ·
      intro w'
      go_simp
      with_reducible rfl
     rotate_left
     ·
      simp only [Act.put, List.setIfInBounds_toArray, List.set_cons_zero, List.set_cons_succ, i64_w, i32_w]
      rfl
     refine pure_ (i := 3) (N := some 11) (v := ?_) (a' := ?_) #[true, true, true, true, false, false, false, false, false, false, false, false, false, false] rfl rfl (any_of HT_.out (by kernel_rfl)) (fun _ _ _ h => h) (Or.inl ⟨by rfl, ?_⟩) ?_ ?_
     rotate_left
     ·
      intro w'
      go_simp
      with_reducible rfl
     rotate_left
     ·
      simp only [Act.put, List.setIfInBounds_toArray, List.set_cons_zero, List.set_cons_succ, i64_w, i32_w]
      rfl
     refine pure_ (i := 4) (N := some 12) (v := ?_) (a' := ?_) #[true, true, true, true, true, false, false, false, false, false, false, false, false, false] rfl rfl (any_of HT_.out (by kernel_rfl)) (fun _ _ _ h => h) (Or.inl ⟨by rfl, ?_⟩) ?_ ?_
     rotate_left
     ·
      intro w'
      go_simp
      with_reducible rfl
     rotate_left
     ·
      simp only [Act.put, List.setIfInBounds_toArray, List.set_cons_zero, List.set_cons_succ, i64_w, i32_w]
      rfl
     refine pure_ (i := 5) (N := some 13) (v := undef) (a' := ?_) #[true, true, true, true, true, true, false, false, false, false, false, false, false, false] rfl rfl (any_of HT_.out (by kernel_rfl)) (fun _ _ _ h => h) (Or.inr ⟨by rfl, rfl⟩) ?_ ?_
     rotate_left
     ·
      simp only [Act.put, List.setIfInBounds_toArray, List.set_cons_zero, List.set_cons_succ, i64_w, i32_w]
      rfl
     refine pure_ (i := 6) (N := some 14) (v := undef) (a' := ?_) #[true, true, true, true, true, true, true, false, false, false, false, false, false, false] rfl rfl (any_of HT_.out (by kernel_rfl)) (fun _ _ _ h => h) (Or.inr ⟨by rfl, rfl⟩) ?_ ?_
     rotate_left
     ·
      simp only [Act.put, List.setIfInBounds_toArray, List.set_cons_zero, List.set_cons_succ, i64_w, i32_w]
      rfl
     refine pure_ (i := 7) (N := some 15) (v := undef) (a' := ?_) #[true, true, true, true, true, true, true, true, false, false, false, false, false, false] rfl rfl (any_of HT_.out (by kernel_rfl)) (fun _ _ _ h => h) (Or.inr ⟨by rfl, rfl⟩) ?_ ?_
     rotate_left
     ·
      simp only [Act.put, List.setIfInBounds_toArray, List.set_cons_zero, List.set_cons_succ, i64_w, i32_w]
      rfl
     refine pure_ (i := 8) (N := some 16) (v := undef) (a' := ?_) #[true, true, true, true, true, true, true, true, true, false, false, false, false, false] rfl rfl (any_of HT_.out (by kernel_rfl)) (fun _ _ _ h => h) (Or.inr ⟨by rfl, rfl⟩) ?_ ?_
     rotate_left
     ·
      simp only [Act.put, List.setIfInBounds_toArray, List.set_cons_zero, List.set_cons_succ, i64_w, i32_w]
      rfl
     refine pure_ (i := 9) (N := some 17) (v := undef) (a' := ?_) #[true, true, true, true, true, true, true, true, true, true, false, false, false, false] rfl rfl (any_of HT_.out (by kernel_rfl)) (fun _ _ _ h => h) (Or.inr ⟨by rfl, rfl⟩) ?_ ?_
     rotate_left
     ·
      simp only [Act.put, List.setIfInBounds_toArray, List.set_cons_zero, List.set_cons_succ, i64_w, i32_w]
      rfl
     refine pure_ (i := 10) (N := some 18) (v := undef) (a' := ?_) #[true, true, true, true, true, true, true, true, true, true, true, false, false, false] rfl rfl (any_of HT_.out (by kernel_rfl)) (fun _ _ _ h => h) (Or.inr ⟨by rfl, rfl⟩) ?_ ?_
     rotate_left
     ·
      simp only [Act.put, List.setIfInBounds_toArray, List.set_cons_zero, List.set_cons_succ, i64_w, i32_w]
      rfl
     refine pure_ (i := 11) (N := some 19) (v := undef) (a' := ?_) #[true, true, true, true, true, true, true, true, true, true, true, true, false, false] rfl rfl (any_of HT_.out (by kernel_rfl)) (fun _ _ _ h => h) (Or.inr ⟨by rfl, rfl⟩) ?_ ?_
     rotate_left
     ·
      simp only [Act.put, List.setIfInBounds_toArray, List.set_cons_zero, List.set_cons_succ, i64_w, i32_w]
      rfl
     refine pure_ (i := 12) (N := some 20) (v := undef) (a' := ?_) #[true, true, true, true, true, true, true, true, true, true, true, true, true, false] rfl rfl (any_of HT_.out (by kernel_rfl)) (fun _ _ _ h => h) (Or.inr ⟨by rfl, rfl⟩) ?_ ?_
     rotate_left
     ·
      simp only [Act.put, List.setIfInBounds_toArray, List.set_cons_zero, List.set_cons_succ, i64_w, i32_w]
      rfl
     refine pure_ (i := 13) (N := some 21) (v := ?_) (a' := ?_) #[true, true, true, true, true, true, true, true, true, true, true, true, true, true] rfl rfl (any_of HT_.out (by kernel_rfl)) (fun _ _ _ h => h) (Or.inl ⟨by rfl, ?_⟩) ?_ ?_
     rotate_left
     ·
      intro w'
      go_simp
      with_reducible rfl
     rotate_left
     ·
      simp only [Act.put, List.setIfInBounds_toArray, List.set_cons_zero, List.set_cons_succ, i64_w, i32_w]
      rfl
     refine done_ (done_of HT_.out (by kernel_rfl)) ?_
     try go_wp2
     go_meet
     case rel => exact ⟨_, (x6_1), (by first | rfl | (simp; done) | (simp [*]; done)), H', ⟨by have := HK1.out; first | omega | exact Nat.le_refl _⟩, ⟨by (with_reducible repeat (first | apply Kd.V_alloc | apply Kd.V_drewN | apply Kd.V_drew)); exact HO_0.out⟩, ⟨by (with_reducible repeat (first | apply Kd.V_alloc | apply Kd.V_drewN | apply Kd.V_drew)); exact HO_199001.out⟩, ⟨by (with_reducible repeat (first | refine bN ?_ _ | refine bD ?_ | refine bA ?_ _)); exact BK198.out⟩, ⟨by repeat (first | (with_reducible first | exact HB.out | apply pA | apply pN | apply pD | refine pS ?_ GE198.out) | exact HB.out)⟩⟩
 case rest =>
  clear HC3
  try clear c1
  try clear p1
  try clear q1
  try clear hx1
  try clear p2
  try clear c3
  try clear c4
  try clear c5
  try clear c5b0
  try clear c6
  try clear c6b0
  try clear p6
  try clear c8
  try clear hx199_0
  try clear hx199_1
  try clear p199
  try clear p2
  try clear q199
  obtain ⟨kq, x6_2, rfl, HA, HJ2, HO_0, HO_199001, BK198, HB⟩ := hcut
  cases kq with
  | zero => exact absurd HA.out (by simp [tenetref24_into.j1])
  | succ kj2 =>
   have H := HA.out
   clear HA
   simp only [tenetref24_into.j1] at H
   by_cases c12 : 0 ≤ x6_2
   ·
    rw [if_pos c12] at H
    have c12b0 := eq_true c12
    have c12b1 : decide (0 ≤ x6_2) = true := decide_eq_true c12
    clear c12
    by_cases c13 : x6_2 ≤ (l0.length : Int)
    ·
     rw [if_pos c13] at H
     have c13b0 := eq_true c13
     have c13b1 : decide (x6_2 ≤ (l0.length : Int)) = true := decide_eq_true c13
     clear c13
     obtain ⟨y201, hy201⟩ : ∃ y_ : List (S57), y_ = (l0.take (x6_2 : Int).toNat) := ⟨_, rfl⟩
     replace H : (if ([] : List (S57)).length + y201.length < 4398046511104 then ((some (([] : List (S57)) ++ y201 : List (S57))).bind fun y206 => (if x6_2 < (l0.length : Int) then ((tenetref24_same.f kj2 ((rd_T57 l0 x6_2).f1) l1_1).bind fun t210 => (tenetref24_into.j2 kj2 l0 x6_2 y206 t210 a1_0 l1_1)) else (tenetref24_into.j2 kj2 l0 x6_2 y206 false a1_0 l1_1))) else (none)) = some (r1, r2) := by first | (rw [hy201]; with_reducible exact H) | (have H2_ := (Option.bind_some _ _).symm.trans H; rw [hy201]; with_reducible exact H2_) | (have H2_ := (Option.bind_some _ _).symm.trans H; with_reducible exact H2_) | with_reducible exact H | (rw [hy201]; exact H) | exact H
     have Ny201 := Am hy201
     clear hy201
     by_cases c14 : ([] : List (S57)).length + y201.length < 4398046511104
     ·
      rw [if_pos c14] at H
      have LMc14 := Am c14
      clear c14
      obtain ⟨y206, hy206⟩ : ∃ y_ : List (S57), y_ = (([] : List (S57)) ++ y201) := ⟨_, rfl⟩
      replace H : (if x6_2 < (l0.length : Int) then ((tenetref24_same.f kj2 ((rd_T57 l0 x6_2).f1) l1_1).bind fun t210 => (tenetref24_into.j2 kj2 l0 x6_2 y206 t210 a1_0 l1_1)) else (tenetref24_into.j2 kj2 l0 x6_2 y206 false a1_0 l1_1)) = some (r1, r2) := by first | (rw [hy206]; with_reducible exact H) | (have H2_ := (Option.bind_some _ _).symm.trans H; rw [hy206]; with_reducible exact H2_) | (have H2_ := (Option.bind_some _ _).symm.trans H; with_reducible exact H2_) | with_reducible exact H | (rw [hy206]; exact H) | exact H
      have Ny206 := Am hy206
      clear hy206
      have HC15 := Am H
      clear H
      have q16 : (x6_2 : Int) ≤ ((l0.length : Int) : Int) := of_decide_eq_true (by first | (with_reducible assumption) | assumption)
      obtain ⟨i016, hi016, _, hsz16, _⟩ := info_parts info57
      have hroom16 : l0.length ≤ c0 := (Kd.V_reads' HO_0.out).2.1
      have hC16 : Kd.F k57 _ _ A0 l0.length l0 := (Kd.V_at (base := w.heap.size) HO_0.out).2.2
      have hcut16 := cut_to (P := Try.prog) 45 57 .i64 Try.underlying45 hi016 A0 l0.length c0 x6_2 (of_decide_eq_true (by first | (with_reducible assumption) | assumption)) q16 hroom16
      have hr16 := Kd.F_take (m := (x6_2 : Int).toNat) hC16 (by omega)
      have hy16 : y201.length = (x6_2 : Int).toNat := (by rw [Ny201.out, List.length_take]; omega)
      rw [← Ny201.out] at hr16
      rw [← hy16] at hcut16
      have HO205 := Am (show Kd.V k57 57 _ w.heap.size _ (.slice A0 y201.length c0) y201 from Kd.V_mk (by omega) hr16)
      have HC205 := Am (show y201.length ≤ c0 from by omega)
      clear hr16 hC16 hroom16 hi016 hsz16
      have KY16 := Am hy16
      clear hy16
      replace q16 := eq_true q16
      go_upto_region 6 with (first | ((with_reducible refine gate_builtin (b := .append) (xs := #[.tmp 24, .tmp 27]) rfl ?_); at_builtin; refine Kd.N_append_rows k57 (w0 := w) w.heap.size rfl (.tmp 24) (.tmp 27) 45 57 (.agg #[(.int .i64 0), (.slice none 0 0)]) 32 rfl Try.underlying45 info57 rfl (by decide) (by omega) (.slice none 0 0) ([] : List (S57)) y201 _ _ _ (fun k_ => ((P0_ k_ ∨ P1_1_ k_) ∨ w.heap.size ≤ k_) ∧ k_ ≠ gb198) (fun k_ => ((fun k_ => ((P0_ k_ ∨ P1_1_ k_) ∨ w.heap.size ≤ k_) ∧ k_ ≠ gb198)) k_ ∧ some k_ ≠ (.slice none 0 0 : Value).ownBlock) rfl rfl ?aO ?aR (fun _ hk => hk) ?aF ?aB ?aS ?aL ?_; (case aR => exact (by skip; exact Kd.V_F (Kd.V_mono (ok' := (fun k_ => ((fun k_ => ((P0_ k_ ∨ P1_1_ k_) ∨ w.heap.size ≤ k_) ∧ k_ ≠ gb198)) k_ ∧ some k_ ≠ (.slice none 0 0 : Value).ownBlock)) (HO205.out) (fun k_ hk => ⟨⟨hk.1, hk.2⟩, (by simp [Value.ownBlock])⟩)))); (case aB => exact (by repeat (first | (with_reducible first | exact HB.out | apply pA | apply pN | apply pD | refine pS ?_ GE198.out) | exact HB.out))); (case aF => exact (fun k_ hk => ⟨(.inr (Nat.le_trans (below_size (by repeat (first | (with_reducible first | exact HB.out | apply pA | apply pN | apply pD | refine pS ?_ GE198.out) | exact HB.out))) hk)), Kd.freshB (g := gb198) (o := .cells #[.int .i64 a1_0, .slice A1_1 l1_1.length c1_1] 57 (0, 0)) (by (with_reducible repeat (first | refine bN ?_ _ | refine bD ?_ | refine bA ?_ _)); exact BK198.out) k_ hk⟩)); (case aO => exact ((Kd.N_nil _ _ _ _ (fun k_ => ((P0_ k_ ∨ P1_1_ k_) ∨ w.heap.size ≤ k_) ∧ k_ ≠ gb198)))); (case aS => exact (below_size (by repeat (first | (with_reducible first | exact HB.out | apply pA | apply pN | apply pD | refine pS ?_ GE198.out) | exact HB.out)))); (case aL => have := LMc14.out; omega); intro v207 w17 ho hb hg hat; rw [← Ny206.out] at ho; have n0_ := Am (Kd.V_afterv (Kd.V_apart_nil (by (with_reducible repeat (first | apply Kd.V_alloc | apply Kd.V_drewN | apply Kd.V_drew)); exact HO_0.out)) hg hat); have n1_ := Am (Kd.V_afterv (Kd.V_apart_nil (by (with_reducible repeat (first | apply Kd.V_alloc | apply Kd.V_drewN | apply Kd.V_drew)); exact HO_199001.out)) hg hat); have n2_ := Am (blk_grown (g := gb198) (o := .cells #[.int .i64 a1_0, .slice A1_1 l1_1.length c1_1] 57 (0, 0)) (by (with_reducible repeat (first | refine bN ?_ _ | refine bD ?_ | refine bA ?_ _)); exact BK198.out) hg (by simp [Value.ownBlock])); have n3_ := Am (Kd.V_afterv (Kd.V_apart_nil (by (with_reducible repeat (first | apply Kd.V_alloc | apply Kd.V_drewN | apply Kd.V_drew)); exact HO205.out)) hg hat); have n4_ := Am (hb); have n5_ := Am (ho); clear HO_0; clear HO_199001; clear BK198; clear HO205; clear HB; have HO_0 := n0_; have HO_199001 := n1_; have BK198 := n2_; have HO205 := n3_; have HB := n4_; have HO208 := n5_; clear n0_ n1_ n2_ n3_ n4_ n5_; clear ho hb hg hat))
      (try simp only [Act.put, List.setIfInBounds_toArray, List.set_cons_zero, List.set_cons_succ])
      go_cut [42] (fun v42 wc => ∃ (kq : Nat) (x42_14 : Bool), v42 = .bool x42_14 ∧ Aside0 (tenetref24_into.j2 kq l0 x6_2 y206 x42_14 a1_0 l1_1 = some (r1, r2)) ∧ Aside0 (kq ≤ kj2) ∧ Aside0 (Kd.V k57 57 wc w.heap.size (fun k_ => ((P0_ k_ ∨ P1_1_ k_) ∨ w.heap.size ≤ k_) ∧ some k_ ≠ (v207 : Value).ownBlock ∧ k_ ≠ gb198) (.slice A0 l0.length c0) l0) ∧ Aside0 (Kd.N k57 57 wc w.heap.size (fun k_ => ((P0_ k_ ∨ P1_1_ k_) ∨ w.heap.size ≤ k_) ∧ k_ ≠ gb198) v207 y206) ∧ Aside0 (Kd.V (Kd.int .i64) 3 wc w.heap.size (fun k_ => ((P0_ k_ ∨ P1_1_ k_) ∨ w.heap.size ≤ k_) ∧ some k_ ≠ (v207 : Value).ownBlock ∧ k_ ≠ gb198) (.slice A1_1 l1_1.length c1_1) l1_1) ∧ Aside0 (wc.heap[gb198]? = some (.cells #[.int .i64 a1_0, (.slice A1_1 l1_1.length c1_1)] 57 (0, 0))) ∧ Aside0 (Below w.heap.size w wc))
      case first =>
       have H := HC15.out
       clear HC15
       by_cases c18 : x6_2 < (l0.length : Int)
       ·
        rw [if_pos c18] at H
        have c18b0 : decide (x6_2 < (l0.length : Int)) = true := decide_eq_true c18
        clear c18
        (first | rw [c18b0] | (simp only [i64_w, i32_w]; rw [c18b0]) | skip)
        replace H := Option.bind_eq_some_iff.mp H
        obtain ⟨t210, A190, H⟩ := H
        replace H : (tenetref24_into.j2 kj2 l0 x6_2 y206 t210 a1_0 l1_1) = some (r1, r2) := H
        have A19 := Am A190
        clear A190
        have H' := Am H
        clear H
        try go_wp2
        have n0_ := Am (Kd.V_drew HO_0.out)
        have n1_ := Am (Kd.V_drew HO_199001.out)
        have n2_ := Am (Kd.V_drew HO205.out)
        have n3_ := Am (Kd.N_drew HO208.out)
        have n4_ := Am (bD BK198.out)
        have n5_ := Am (pD HB.out)
        clear HO_0
        clear HO_199001
        clear HO205
        clear HO208
        clear BK198
        clear HB
        have HO_0 := n0_
        have HO_199001 := n1_
        have HO205 := n2_
        have HO208 := n3_
        have BK198 := n4_
        have HB := n5_
        clear n0_ n1_ n2_ n3_ n4_ n5_
        have p209 : 0 ≤ (x6_2 : Int) := of_decide_eq_true (by first | (with_reducible assumption) | assumption)
        have q209 : x6_2 < (l0.length : Int) := of_decide_eq_true (by first | (with_reducible assumption) | assumption)
        obtain ⟨ad209, A209_1, c209_1, e209, hx209_0, hx209_1, hl209_1, hi209_1⟩ := at_T57 (Kd.V_reads' HO_0.out).2.2 x6_2 p209 q209
        cases e209
        obtain ⟨ce209, hce209, hMe209, hcc209⟩ := Kd.V_get HO_0.out z57 x6_2 p209 (by first | exact q209 | exact of_decide_eq_true (by first | (with_reducible assumption) | assumption) | (have e_ := (Kd.V_reads' HO_0.out).1; omega))
        obtain ⟨ua209_1, uc209_1, rfl, ul209_1, ge209_1⟩ := k57_openF hMe209
        have hv209_1 := hcc209 1 _ rfl
        rw [add_field _ _ 1 (by omega)] at hv209_1
        replace hv209_1 := Option.some.inj (hv209_1.symm.trans hx209_1)
        injection hv209_1 with hva_ hvn_ hvc_
        rw [hva_] at ge209_1
        rw [hvc_] at ul209_1
        have HL209_1 := Am (show Kd.V (Kd.int .i64) 3 _ w.heap.size _ _ ((rd_T57 l0 x6_2).f1) from Kd.V_mk ul209_1 ge209_1)
        clear hva_ hvn_ hvc_ ge209_1 ul209_1
        clear hcc209 hce209
        have HR209_1 := Am hi209_1
        have HC209_1 := Am hl209_1
        clear hi209_1 hl209_1
        replace p209 := eq_true p209
        replace q209 := eq_true q209
        refine start_ (n := 14) (S := fun w' => w'.cell? ⟨gb198, 0, none⟩ = some (.int .i64 a1_0) ∧ w'.cell? ⟨gb198, 1, none⟩ = some (.slice A1_1 l1_1.length c1_1) ∧ w'.cell? (ad209.add ((x6_2).toNat * 2)) = some (.int .i64 ((rd_T57 l0 x6_2).f0)) ∧ w'.cell? ⟨(ad209.add ((x6_2).toNat * 2)).block, (ad209.add ((x6_2).toNat * 2)).off + 1, none⟩ = some (.slice A209_1 ((rd_T57 l0 x6_2).f1).length c209_1)) (ds := []) #[false, false, false, false, false, false, false, false, false, false, false, false, false, false] (by kernel_rfl) rfl rfl ⟨(blk_cell BK198.out 0).trans rfl, (blk_cell BK198.out 1).trans rfl, hx209_0, hx209_1⟩ (fun hHeld => ?_); refine with_tabW tenetref24_into.tab6 tenetref24_into.bits6 (fun HT_ HW_ => ?_)
        generalize w17.drew = w20 at HO_0 HO_199001 HO205 HO208 BK198 HB HL209_1 HR209_1 hx209_0 hx209_1 hHeld ⊢
        refine pure_ (i := 0) (N := some 29) (v := ?_) (a' := ?_) #[true, false, false, false, false, false, false, false, false, false, false, false, false, false] rfl rfl (any_of HT_.out (by kernel_rfl)) (fun _ _ _ h => h) (Or.inl ⟨by rfl, ?_⟩) ?_ ?_
        rotate_left
        ·
         intro w'
         go_simp
         with_reducible rfl
        rotate_left
        ·
         simp only [Act.put, List.setIfInBounds_toArray, List.set_cons_zero, List.set_cons_succ, i64_w, i32_w]
         rfl
        refine pure_ (i := 1) (N := some 30) (v := ?_) (a' := ?_) #[true, true, false, false, false, false, false, false, false, false, false, false, false, false] rfl rfl (any_of HT_.out (by kernel_rfl)) (fun _ _ _ h => h) (Or.inl ⟨by rfl, ?_⟩) ?_ ?_
        rotate_left
        ·
         intro w'
         go_simp
         with_reducible rfl
        rotate_left
        ·
         simp only [Act.put, List.setIfInBounds_toArray, List.set_cons_zero, List.set_cons_succ, i64_w, i32_w]
         rfl
        refine pure_ (i := 2) (N := some 31) (v := ?_) (a' := ?_) #[true, true, true, false, false, false, false, false, false, false, false, false, false, false] rfl rfl (any_of HT_.out (by kernel_rfl)) (fun _ _ _ h => h) (Or.inl ⟨by rfl, ?_⟩) ?_ ?_
        rotate_left
        ·
         intro w'
         go_simp
         with_reducible rfl
        rotate_left
        ·
         simp only [Act.put, List.setIfInBounds_toArray, List.set_cons_zero, List.set_cons_succ, i64_w, i32_w]
         rfl
        refine pure_ (i := 3) (N := some 32) (v := ?_) (a' := ?_) #[true, true, true, true, false, false, false, false, false, false, false, false, false, false] rfl rfl (any_of HT_.out (by kernel_rfl)) (fun _ _ _ h => h) (Or.inl ⟨by rfl, ?_⟩) ?_ ?_
        rotate_left
        ·
         intro w'
         go_simp
         with_reducible rfl
        rotate_left
        ·
         simp only [Act.put, List.setIfInBounds_toArray, List.set_cons_zero, List.set_cons_succ, i64_w, i32_w]
         rfl
        refine pure_ (i := 4) (N := some 33) (v := ?_) (a' := ?_) #[true, true, true, true, true, false, false, false, false, false, false, false, false, false] rfl rfl (any_of HT_.out (by kernel_rfl)) (fun _ _ _ h => h) (Or.inl ⟨by rfl, ?_⟩) ?_ ?_
        rotate_left
        ·
         intro w'
         go_simp
         with_reducible rfl
        rotate_left
        ·
         simp only [Act.put, List.setIfInBounds_toArray, List.set_cons_zero, List.set_cons_succ, i64_w, i32_w]
         rfl
        refine pure_ (i := 5) (N := some 34) (v := ?_) (a' := ?_) #[true, true, true, true, true, true, false, false, false, false, false, false, false, false] rfl rfl (any_of HT_.out (by kernel_rfl)) (fun _ _ _ h => h) (Or.inl ⟨by rfl, ?_⟩) ?_ ?_
        rotate_left
        ·
         intro w'
         go_simp
         with_reducible rfl
        rotate_left
        ·
         simp only [Act.put, List.setIfInBounds_toArray, List.set_cons_zero, List.set_cons_succ, i64_w, i32_w]
         rfl
        refine pure_ (i := 6) (N := some 35) (v := ?_) (a' := ?_) #[true, true, true, true, true, true, true, false, false, false, false, false, false, false] rfl rfl (any_of HT_.out (by kernel_rfl)) (fun _ _ _ h => h) (Or.inl ⟨by rfl, ?_⟩) ?_ ?_
        rotate_left
        ·
         intro w'
         go_simp
         with_reducible rfl
        rotate_left
        ·
         simp only [Act.put, List.setIfInBounds_toArray, List.set_cons_zero, List.set_cons_succ, i64_w, i32_w]
         rfl
        refine pure_ (i := 7) (N := some 36) (v := ?_) (a' := ?_) #[true, true, true, true, true, true, true, true, false, false, false, false, false, false] rfl rfl (any_of HT_.out (by kernel_rfl)) (fun _ _ _ h => h) (Or.inl ⟨by rfl, ?_⟩) ?_ ?_
        rotate_left
        ·
         intro w'
         go_simp
         with_reducible rfl
        rotate_left
        ·
         simp only [Act.put, List.setIfInBounds_toArray, List.set_cons_zero, List.set_cons_succ, i64_w, i32_w]
         rfl
        refine pure_ (i := 8) (N := some 37) (v := ?_) (a' := ?_) #[true, true, true, true, true, true, true, true, true, false, false, false, false, false] rfl rfl (any_of HT_.out (by kernel_rfl)) (fun _ _ _ h => h) (Or.inl ⟨by rfl, ?_⟩) ?_ ?_
        rotate_left
        ·
         intro w'
         go_simp
         with_reducible rfl
        rotate_left
        ·
         simp only [Act.put, List.setIfInBounds_toArray, List.set_cons_zero, List.set_cons_succ, i64_w, i32_w]
         rfl
        refine pure_ (i := 10) (N := some 39) (v := ?_) (a' := ?_) #[true, true, true, true, true, true, true, true, true, false, true, false, false, false] rfl rfl (any_of HT_.out (by kernel_rfl)) (fun _ _ _ h => h) (Or.inl ⟨by rfl, ?_⟩) ?_ ?_
        rotate_left
        ·
         intro w'
         go_simp
         with_reducible rfl
        rotate_left
        ·
         simp only [Act.put, List.setIfInBounds_toArray, List.set_cons_zero, List.set_cons_succ, i64_w, i32_w]
         rfl
        refine take_ (i := 9) (N := some 38) (v := ?_) (a' := ?_) #[true, true, true, true, true, true, true, true, true, true, true, false, false, false] rfl rfl (take_ofW HT_.out HW_.out (by kernel_rfl)) (fun _ _ _ h => h) (Or.inl ⟨by rfl, ?_⟩) hHeld ?_ ?_
        rotate_left
        ·
         rintro w' ⟨s0, s1, s2, s3⟩
         go_simp
         with_reducible rfl
        rotate_left
        ·
         simp only [Act.put, List.setIfInBounds_toArray, List.set_cons_zero, List.set_cons_succ, i64_w, i32_w]
         rfl
        refine take_ (i := 11) (N := some 40) (v := ?_) (a' := ?_) #[true, true, true, true, true, true, true, true, true, true, true, true, false, false] rfl rfl (take_ofW HT_.out HW_.out (by kernel_rfl)) (fun _ _ _ h => h) (Or.inl ⟨by rfl, ?_⟩) hHeld ?_ ?_
        rotate_left
        ·
         rintro w' ⟨s0, s1, s2, s3⟩
         go_simp
         with_reducible rfl
        rotate_left
        ·
         simp only [Act.put, List.setIfInBounds_toArray, List.set_cons_zero, List.set_cons_succ, i64_w, i32_w]
         rfl
        refine one_ (i := 12) (N := some 41) #[true, true, true, true, true, true, true, true, true, true, true, true, true, false] rfl rfl (one_of HT_.out (by kernel_rfl)) (by decide) (fun K hK => ?_)
        refine goes_ Try.func43 (by kernel_rfl) rfl #[.slice A209_1 ((rd_T57 l0 x6_2).f1).length c209_1, .slice A1_1 l1_1.length c1_1] (by rfl) rfl rfl (by (try simp only [List.map_toArray, List.map_cons, List.map_nil]); first | done | rfl | (simp only [List.length_drop, List.length_take]; rfl)) ?_
        with_reducible refine (tenetref24_same.calls kj2 _ _ ((rd_T57 l0 x6_2).f1) _ _ l1_1 t210 _ ?side1 ?side2 ?side3 ?side4 A19.out).mono ?_
        (case side1 => repeat (first | exact (by repeat (first | (with_reducible exact HR209_1.out) | (with_reducible refine Kd.C_alloc ?_ _) | (with_reducible refine Kd.C_drewN ?_ _) | (with_reducible refine Kd.C_drew ?_) | exact HR209_1.out)) | (with_reducible refine Kd.C_alloc ?_ _) | (with_reducible refine Kd.C_drewN ?_ _) | (with_reducible refine Kd.C_drew ?_)))
        (case side2 => exact HC209_1.out)
        (case side3 => repeat (first | exact (Kd.V_reads' HO_199001.out).2.2 | (with_reducible refine Kd.C_alloc ?_ _) | (with_reducible refine Kd.C_drewN ?_ _) | (with_reducible refine Kd.C_drew ?_)))
        (case side4 => exact (Kd.V_reads' HO_199001.out).2.1)
        rintro e w' ⟨rfl, ⟨nd, rfl⟩⟩
        refine ⟨_, rfl, ?_⟩
        refine hK.out _ _ ⟨(blk_cell BK198.out 0).trans rfl, (blk_cell BK198.out 1).trans rfl, hHeld.2.2.1, hHeld.2.2.2⟩ (fun hHeld => ?_)
        clear hK K
        refine norm_ (a' := ?_) ?_ ?_
        rotate_left
        ·
         show Act.put _ (some 41) _ = _
         simp only [Act.put, List.setIfInBounds_toArray, List.set_cons_zero, List.set_cons_succ, i64_w, i32_w]
         rfl
        refine pure_ (i := 13) (N := some 42) (v := ?_) (a' := ?_) #[true, true, true, true, true, true, true, true, true, true, true, true, true, true] rfl rfl (any_of HT_.out (by kernel_rfl)) (fun _ _ _ h => h) (Or.inl ⟨by rfl, ?_⟩) ?_ ?_
        rotate_left
        ·
         intro w'
         go_simp
         with_reducible rfl
        rotate_left
        ·
         simp only [Act.put, List.setIfInBounds_toArray, List.set_cons_zero, List.set_cons_succ, i64_w, i32_w]
         rfl
        refine done_ (done_of HT_.out (by kernel_rfl)) ?_
        try go_wp2
        go_meet
        case rel => exact ⟨_, (t210), (by first | rfl | (simp; done) | (simp [*]; done)), H', ⟨by have := HJ2.out; first | omega | exact Nat.le_refl _⟩, ⟨by (with_reducible repeat (first | apply Kd.V_alloc | apply Kd.V_drewN | apply Kd.V_drew)); exact Kd.V_mono HO_0.out (fun _ hk => ⟨hk.1.1, ⟨hk.2, hk.1.2⟩⟩)⟩, ⟨by (with_reducible repeat (first | apply Kd.N_alloc | apply Kd.N_drewN | apply Kd.N_drew)); exact HO208.out⟩, ⟨by (with_reducible repeat (first | apply Kd.V_alloc | apply Kd.V_drewN | apply Kd.V_drew)); exact Kd.V_mono HO_199001.out (fun _ hk => ⟨hk.1.1, ⟨hk.2, hk.1.2⟩⟩)⟩, ⟨by (with_reducible repeat (first | refine bN ?_ _ | refine bD ?_ | refine bA ?_ _)); exact BK198.out⟩, ⟨by repeat (first | (with_reducible first | exact HB.out | apply pA | apply pN | apply pD | refine pS ?_ GE198.out) | exact HB.out)⟩⟩
       ·
        rw [if_neg c18] at H
        have c18b0 : decide (x6_2 < (l0.length : Int)) = false := decide_eq_false c18
        clear c18
        (first | rw [c18b0] | (simp only [i64_w, i32_w]; rw [c18b0]) | skip)
        have H' := Am H
        clear H
        try go_wp2
        have n0_ := Am (Kd.V_drew HO_0.out)
        have n1_ := Am (Kd.V_drew HO_199001.out)
        have n2_ := Am (Kd.V_drew HO205.out)
        have n3_ := Am (Kd.N_drew HO208.out)
        have n4_ := Am (bD BK198.out)
        have n5_ := Am (pD HB.out)
        clear HO_0
        clear HO_199001
        clear HO205
        clear HO208
        clear BK198
        clear HB
        have HO_0 := n0_
        have HO_199001 := n1_
        have HO205 := n2_
        have HO208 := n3_
        have BK198 := n4_
        have HB := n5_
        clear n0_ n1_ n2_ n3_ n4_ n5_
        refine start_ (n := 14) (S := fun w' => True) (ds := []) #[false, false, false, false, false, false, false, false, false, false, false, false, false, false] (by kernel_rfl) rfl rfl trivial (fun hHeld => ?_); refine with_tabW tenetref24_into.tab6 tenetref24_into.bits6 (fun HT_ HW_ => ?_)
        generalize w17.drew = w21 at HO_0 HO_199001 HO205 HO208 BK198 HB hHeld ⊢
        refine pure_ (i := 0) (N := some 29) (v := ?_) (a' := ?_) #[true, false, false, false, false, false, false, false, false, false, false, false, false, false] rfl rfl (any_of HT_.out (by kernel_rfl)) (fun _ _ _ h => h) (Or.inl ⟨by rfl, ?_⟩) ?_ ?_
        rotate_left
        ·
         intro w'
         go_simp
         with_reducible rfl
        rotate_left
        ·
         simp only [Act.put, List.setIfInBounds_toArray, List.set_cons_zero, List.set_cons_succ, i64_w, i32_w]
         rfl
        refine pure_ (i := 1) (N := some 30) (v := ?_) (a' := ?_) #[true, true, false, false, false, false, false, false, false, false, false, false, false, false] rfl rfl (any_of HT_.out (by kernel_rfl)) (fun _ _ _ h => h) (Or.inl ⟨by rfl, ?_⟩) ?_ ?_
        rotate_left
        ·
         intro w'
         go_simp
         with_reducible rfl
        rotate_left
        ·
         simp only [Act.put, List.setIfInBounds_toArray, List.set_cons_zero, List.set_cons_succ, i64_w, i32_w]
         rfl
        refine pure_ (i := 2) (N := some 31) (v := ?_) (a' := ?_) #[true, true, true, false, false, false, false, false, false, false, false, false, false, false] rfl rfl (any_of HT_.out (by kernel_rfl)) (fun _ _ _ h => h) (Or.inl ⟨by rfl, ?_⟩) ?_ ?_
        rotate_left
        ·
         intro w'
         go_simp
         with_reducible rfl
        rotate_left
        ·
         simp only [Act.put, List.setIfInBounds_toArray, List.set_cons_zero, List.set_cons_succ, i64_w, i32_w]
         rfl
        refine pure_ (i := 3) (N := some 32) (v := ?_) (a' := ?_) #[true, true, true, true, false, false, false, false, false, false, false, false, false, false] rfl rfl (any_of HT_.out (by kernel_rfl)) (fun _ _ _ h => h) (Or.inl ⟨by rfl, ?_⟩) ?_ ?_
        rotate_left
        ·
         intro w'
         go_simp
         with_reducible rfl
        rotate_left
        ·
         simp only [Act.put, List.setIfInBounds_toArray, List.set_cons_zero, List.set_cons_succ, i64_w, i32_w]
         rfl
        refine pure_ (i := 4) (N := some 33) (v := ?_) (a' := ?_) #[true, true, true, true, true, false, false, false, false, false, false, false, false, false] rfl rfl (any_of HT_.out (by kernel_rfl)) (fun _ _ _ h => h) (Or.inl ⟨by rfl, ?_⟩) ?_ ?_
        rotate_left
        ·
         intro w'
         go_simp
         with_reducible rfl
        rotate_left
        ·
         simp only [Act.put, List.setIfInBounds_toArray, List.set_cons_zero, List.set_cons_succ, i64_w, i32_w]
         rfl
        refine pure_ (i := 5) (N := some 34) (v := undef) (a' := ?_) #[true, true, true, true, true, true, false, false, false, false, false, false, false, false] rfl rfl (any_of HT_.out (by kernel_rfl)) (fun _ _ _ h => h) (Or.inr ⟨by rfl, rfl⟩) ?_ ?_
        rotate_left
        ·
         simp only [Act.put, List.setIfInBounds_toArray, List.set_cons_zero, List.set_cons_succ, i64_w, i32_w]
         rfl
        refine pure_ (i := 6) (N := some 35) (v := undef) (a' := ?_) #[true, true, true, true, true, true, true, false, false, false, false, false, false, false] rfl rfl (any_of HT_.out (by kernel_rfl)) (fun _ _ _ h => h) (Or.inr ⟨by rfl, rfl⟩) ?_ ?_
        rotate_left
        ·
         simp only [Act.put, List.setIfInBounds_toArray, List.set_cons_zero, List.set_cons_succ, i64_w, i32_w]
         rfl
        refine pure_ (i := 7) (N := some 36) (v := undef) (a' := ?_) #[true, true, true, true, true, true, true, true, false, false, false, false, false, false] rfl rfl (any_of HT_.out (by kernel_rfl)) (fun _ _ _ h => h) (Or.inr ⟨by rfl, rfl⟩) ?_ ?_
        rotate_left
        ·
         simp only [Act.put, List.setIfInBounds_toArray, List.set_cons_zero, List.set_cons_succ, i64_w, i32_w]
         rfl
        refine pure_ (i := 8) (N := some 37) (v := undef) (a' := ?_) #[true, true, true, true, true, true, true, true, true, false, false, false, false, false] rfl rfl (any_of HT_.out (by kernel_rfl)) (fun _ _ _ h => h) (Or.inr ⟨by rfl, rfl⟩) ?_ ?_
        rotate_left
        ·
         simp only [Act.put, List.setIfInBounds_toArray, List.set_cons_zero, List.set_cons_succ, i64_w, i32_w]
         rfl
        refine pure_ (i := 9) (N := some 38) (v := undef) (a' := ?_) #[true, true, true, true, true, true, true, true, true, true, false, false, false, false] rfl rfl (any_of HT_.out (by kernel_rfl)) (fun _ _ _ h => h) (Or.inr ⟨by rfl, rfl⟩) ?_ ?_
        rotate_left
        ·
         simp only [Act.put, List.setIfInBounds_toArray, List.set_cons_zero, List.set_cons_succ, i64_w, i32_w]
         rfl
        refine pure_ (i := 10) (N := some 39) (v := undef) (a' := ?_) #[true, true, true, true, true, true, true, true, true, true, true, false, false, false] rfl rfl (any_of HT_.out (by kernel_rfl)) (fun _ _ _ h => h) (Or.inr ⟨by rfl, rfl⟩) ?_ ?_
        rotate_left
        ·
         simp only [Act.put, List.setIfInBounds_toArray, List.set_cons_zero, List.set_cons_succ, i64_w, i32_w]
         rfl
        refine pure_ (i := 11) (N := some 40) (v := undef) (a' := ?_) #[true, true, true, true, true, true, true, true, true, true, true, true, false, false] rfl rfl (any_of HT_.out (by kernel_rfl)) (fun _ _ _ h => h) (Or.inr ⟨by rfl, rfl⟩) ?_ ?_
        rotate_left
        ·
         simp only [Act.put, List.setIfInBounds_toArray, List.set_cons_zero, List.set_cons_succ, i64_w, i32_w]
         rfl
        refine pure_ (i := 12) (N := some 41) (v := undef) (a' := ?_) #[true, true, true, true, true, true, true, true, true, true, true, true, true, false] rfl rfl (any_of HT_.out (by kernel_rfl)) (fun _ _ _ h => h) (Or.inr ⟨by rfl, rfl⟩) ?_ ?_
        rotate_left
        ·
         simp only [Act.put, List.setIfInBounds_toArray, List.set_cons_zero, List.set_cons_succ, i64_w, i32_w]
         rfl
        refine pure_ (i := 13) (N := some 42) (v := ?_) (a' := ?_) #[true, true, true, true, true, true, true, true, true, true, true, true, true, true] rfl rfl (any_of HT_.out (by kernel_rfl)) (fun _ _ _ h => h) (Or.inl ⟨by rfl, ?_⟩) ?_ ?_
        rotate_left
        ·
         intro w'
         go_simp
         with_reducible rfl
        rotate_left
        ·
         simp only [Act.put, List.setIfInBounds_toArray, List.set_cons_zero, List.set_cons_succ, i64_w, i32_w]
         rfl
        refine done_ (done_of HT_.out (by kernel_rfl)) ?_
        try go_wp2
        go_meet
        case rel => exact ⟨_, (false), (by first | rfl | (simp; done) | (simp [*]; done)), H', ⟨by have := HJ2.out; first | omega | exact Nat.le_refl _⟩, ⟨by (with_reducible repeat (first | apply Kd.V_alloc | apply Kd.V_drewN | apply Kd.V_drew)); exact Kd.V_mono HO_0.out (fun _ hk => ⟨hk.1.1, ⟨hk.2, hk.1.2⟩⟩)⟩, ⟨by (with_reducible repeat (first | apply Kd.N_alloc | apply Kd.N_drewN | apply Kd.N_drew)); exact HO208.out⟩, ⟨by (with_reducible repeat (first | apply Kd.V_alloc | apply Kd.V_drewN | apply Kd.V_drew)); exact Kd.V_mono HO_199001.out (fun _ hk => ⟨hk.1.1, ⟨hk.2, hk.1.2⟩⟩)⟩, ⟨by (with_reducible repeat (first | refine bN ?_ _ | refine bD ?_ | refine bA ?_ _)); exact BK198.out⟩, ⟨by repeat (first | (with_reducible first | exact HB.out | apply pA | apply pN | apply pD | refine pS ?_ GE198.out) | exact HB.out)⟩⟩
      case rest =>
       clear HC15
       try clear c1
       try clear p1
       try clear q1
       try clear hx1
       try clear c2
       try clear p2
       try clear q2
       try clear hx2
       try clear c3
       try clear c4
       try clear c5
       try clear c5b0
       try clear c6
       try clear c6b0
       try clear p6
       try clear c8
       try clear c12
       try clear c12b0
       try clear c12b1
       try clear c13
       try clear c13b0
       try clear c13b1
       try clear c14
       try clear q16
       try clear c18
       try clear c18b0
       try clear c19
       try clear p19
       try clear q19
       try clear hx19
       try clear c20
       try clear p20
       try clear q20
       try clear hx20
       try clear hx199_0
       try clear hx199_1
       try clear hx209_0
       try clear hx209_1
       try clear p1
       try clear p199
       try clear p2
       try clear p209
       try clear p6
       try clear q1
       try clear q16
       try clear q199
       try clear q209
       obtain ⟨kq, x42_14, rfl, HA, HJ14, HO_0, HO_7, HO_199001, BK198, HB⟩ := hcut
       cases kq with
       | zero => exact absurd HA.out (by simp [tenetref24_into.j2])
       | succ kj14 =>
        have H := HA.out
        clear HA
        simp only [tenetref24_into.j2] at H
        by_cases c22 : x42_14 = true
        ·
         subst c22
         have H1 : (if 0 ≤ x6_2 then (if x6_2 < (l0.length : Int) then (if ((rd_T57 l0 x6_2).f0) > (wrap64 (1000000000000000 - a1_0)) then (some (([] : List (S57)), false)) else (if y206.length < 4398046511104 then ((some (y206 ++ [(⟨wrap64 (((rd_T57 l0 x6_2).f0) + a1_0), (rd_T57 l0 x6_2).f1⟩ : S57)] : List (S57))).bind fun y214 => (if 0 ≤ (wrap64 (x6_2 + 1)) then (if (wrap64 (x6_2 + 1)) ≤ (l0.length : Int) then ((some (l0.drop ((wrap64 (x6_2 + 1)) : Int).toNat : List (S57))).bind fun y217 => (if y214.length + y217.length < 4398046511104 then (some ((y214 ++ y217), true)) else (none))) else (none)) else (none))) else (none))) else (none)) else (none)) = some (r1, r2) := by rw [if_pos rfl] at H; exact H
         clear H
         have H := H1
         clear H1
         by_cases c23 : 0 ≤ x6_2
         ·
          rw [if_pos c23] at H
          have c23b0 : decide (0 ≤ x6_2) = true := decide_eq_true c23
          clear c23
          by_cases c24 : x6_2 < (l0.length : Int)
          ·
           rw [if_pos c24] at H
           have c24b0 : decide (x6_2 < (l0.length : Int)) = true := decide_eq_true c24
           clear c24
           by_cases c25 : ((rd_T57 l0 x6_2).f0) > (wrap64 (1000000000000000 - a1_0))
           ·
            rw [if_pos c25] at H
            have c25b0 : decide ((wrap64 (1000000000000000 - a1_0)) < ((rd_T57 l0 x6_2).f0)) = true := decide_eq_true c25
            clear c25
            simp only [Option.some.injEq, Prod.mk.injEq] at H
            obtain ⟨rfl, rfl⟩ := H
            try go_wp2
            have n0_ := Am (Kd.V_drew HO_0.out)
            have n1_ := Am (Kd.N_drew HO_7.out)
            have n2_ := Am (Kd.V_drew HO_199001.out)
            have n3_ := Am (bD BK198.out)
            have n4_ := Am (pD HB.out)
            clear HO_0
            clear HO_7
            clear HO_199001
            clear BK198
            clear HB
            have HO_0 := n0_
            have HO_7 := n1_
            have HO_199001 := n2_
            have BK198 := n3_
            have HB := n4_
            clear n0_ n1_ n2_ n3_ n4_
            have p211 : 0 ≤ (x6_2 : Int) := of_decide_eq_true (by first | (with_reducible assumption) | assumption)
            have q211 : x6_2 < (l0.length : Int) := of_decide_eq_true (by first | (with_reducible assumption) | assumption)
            obtain ⟨ad211, A211_1, c211_1, e211, hx211_0, hx211_1, hl211_1, hi211_1⟩ := at_T57 (Kd.V_reads' HO_0.out).2.2 x6_2 p211 q211
            cases e211
            obtain ⟨ce211, hce211, hMe211, hcc211⟩ := Kd.V_get HO_0.out z57 x6_2 p211 (by first | exact q211 | exact of_decide_eq_true (by first | (with_reducible assumption) | assumption) | (have e_ := (Kd.V_reads' HO_0.out).1; omega))
            obtain ⟨ua211_1, uc211_1, rfl, ul211_1, ge211_1⟩ := k57_openF hMe211
            have hv211_1 := hcc211 1 _ rfl
            rw [add_field _ _ 1 (by omega)] at hv211_1
            replace hv211_1 := Option.some.inj (hv211_1.symm.trans hx211_1)
            injection hv211_1 with hva_ hvn_ hvc_
            rw [hva_] at ge211_1
            rw [hvc_] at ul211_1
            have HL211_1 := Am (show Kd.V (Kd.int .i64) 3 _ w.heap.size _ _ ((rd_T57 l0 x6_2).f1) from Kd.V_mk ul211_1 ge211_1)
            clear hva_ hvn_ hvc_ ge211_1 ul211_1
            clear hcc211 hce211
            have HR211_1 := Am hi211_1
            have HC211_1 := Am hl211_1
            clear hi211_1 hl211_1
            replace p211 := eq_true p211
            replace q211 := eq_true q211
            refine start_ (n := 9) (S := fun w' => w'.cell? ⟨gb198, 0, none⟩ = some (.int .i64 a1_0) ∧ w'.cell? ⟨gb198, 1, none⟩ = some (.slice A1_1 l1_1.length c1_1) ∧ w'.cell? (ad211.add ((x6_2).toNat * 2)) = some (.int .i64 ((rd_T57 l0 x6_2).f0)) ∧ w'.cell? ⟨(ad211.add ((x6_2).toNat * 2)).block, (ad211.add ((x6_2).toNat * 2)).off + 1, none⟩ = some (.slice A211_1 ((rd_T57 l0 x6_2).f1).length c211_1)) (ds := []) #[false, false, false, false, false, false, false, false, false] (by kernel_rfl) rfl rfl ⟨(blk_cell BK198.out 0).trans rfl, (blk_cell BK198.out 1).trans rfl, hx211_0, hx211_1⟩ (fun hHeld => ?_); refine with_tabW tenetref24_into.tab7 tenetref24_into.bits7 (fun HT_ HW_ => ?_)
            generalize wc.drew = w26 at HO_0 HO_7 HO_199001 BK198 HB HL211_1 HR211_1 hx211_0 hx211_1 hHeld ⊢
            refine pure_ (i := 0) (N := some 43) (v := ?_) (a' := ?_) #[true, false, false, false, false, false, false, false, false] rfl rfl (any_of HT_.out (by kernel_rfl)) (fun _ _ _ h => h) (Or.inl ⟨by rfl, ?_⟩) ?_ ?_
            rotate_left
            ·
             intro w'
             go_simp
             with_reducible rfl
            rotate_left
            ·
             simp only [Act.put, List.setIfInBounds_toArray, List.set_cons_zero, List.set_cons_succ, i64_w, i32_w]
             rfl
            refine pure_ (i := 1) (N := some 44) (v := ?_) (a' := ?_) #[true, true, false, false, false, false, false, false, false] rfl rfl (any_of HT_.out (by kernel_rfl)) (fun _ _ _ h => h) (Or.inl ⟨by rfl, ?_⟩) ?_ ?_
            rotate_left
            ·
             intro w'
             go_simp
             with_reducible rfl
            rotate_left
            ·
             simp only [Act.put, List.setIfInBounds_toArray, List.set_cons_zero, List.set_cons_succ, i64_w, i32_w]
             rfl
            refine pure_ (i := 2) (N := some 45) (v := ?_) (a' := ?_) #[true, true, true, false, false, false, false, false, false] rfl rfl (any_of HT_.out (by kernel_rfl)) (fun _ _ _ h => h) (Or.inl ⟨by rfl, ?_⟩) ?_ ?_
            rotate_left
            ·
             intro w'
             go_simp
             with_reducible rfl
            rotate_left
            ·
             simp only [Act.put, List.setIfInBounds_toArray, List.set_cons_zero, List.set_cons_succ, i64_w, i32_w]
             rfl
            refine pure_ (i := 3) (N := some 46) (v := ?_) (a' := ?_) #[true, true, true, true, false, false, false, false, false] rfl rfl (any_of HT_.out (by kernel_rfl)) (fun _ _ _ h => h) (Or.inl ⟨by rfl, ?_⟩) ?_ ?_
            rotate_left
            ·
             intro w'
             go_simp
             with_reducible rfl
            rotate_left
            ·
             simp only [Act.put, List.setIfInBounds_toArray, List.set_cons_zero, List.set_cons_succ, i64_w, i32_w]
             rfl
            refine pure_ (i := 5) (N := some 48) (v := ?_) (a' := ?_) #[true, true, true, true, false, true, false, false, false] rfl rfl (any_of HT_.out (by kernel_rfl)) (fun _ _ _ h => h) (Or.inl ⟨by rfl, ?_⟩) ?_ ?_
            rotate_left
            ·
             intro w'
             go_simp
             with_reducible rfl
            rotate_left
            ·
             simp only [Act.put, List.setIfInBounds_toArray, List.set_cons_zero, List.set_cons_succ, i64_w, i32_w]
             rfl
            refine take_ (i := 4) (N := some 47) (v := ?_) (a' := ?_) #[true, true, true, true, true, true, false, false, false] rfl rfl (take_ofW HT_.out HW_.out (by kernel_rfl)) (fun _ _ _ h => h) (Or.inl ⟨by rfl, ?_⟩) hHeld ?_ ?_
            rotate_left
            ·
             rintro w' ⟨s0, s1, s2, s3⟩
             go_simp
             with_reducible rfl
            rotate_left
            ·
             simp only [Act.put, List.setIfInBounds_toArray, List.set_cons_zero, List.set_cons_succ, i64_w, i32_w]
             rfl
            refine take_ (i := 6) (N := some 49) (v := ?_) (a' := ?_) #[true, true, true, true, true, true, true, false, false] rfl rfl (take_ofW HT_.out HW_.out (by kernel_rfl)) (fun _ _ _ h => h) (Or.inl ⟨by rfl, ?_⟩) hHeld ?_ ?_
            rotate_left
            ·
             rintro w' ⟨s0, s1, s2, s3⟩
             go_simp
             with_reducible rfl
            rotate_left
            ·
             simp only [Act.put, List.setIfInBounds_toArray, List.set_cons_zero, List.set_cons_succ, i64_w, i32_w]
             rfl
            refine pure_ (i := 7) (N := some 50) (v := ?_) (a' := ?_) #[true, true, true, true, true, true, true, true, false] rfl rfl (any_of HT_.out (by kernel_rfl)) (fun _ _ _ h => h) (Or.inl ⟨by rfl, ?_⟩) ?_ ?_
            rotate_left
            ·
             intro w'
             go_simp
             with_reducible rfl
            rotate_left
            ·
             simp only [Act.put, List.setIfInBounds_toArray, List.set_cons_zero, List.set_cons_succ, i64_w, i32_w]
             rfl
            refine pure_ (i := 8) (N := some 51) (v := ?_) (a' := ?_) #[true, true, true, true, true, true, true, true, true] rfl rfl (any_of HT_.out (by kernel_rfl)) (fun _ _ _ h => h) (Or.inl ⟨by rfl, ?_⟩) ?_ ?_
            rotate_left
            ·
             intro w'
             go_simp
             with_reducible rfl
            rotate_left
            ·
             simp only [Act.put, List.setIfInBounds_toArray, List.set_cons_zero, List.set_cons_succ, i64_w, i32_w]
             rfl
            refine done_ (done_of HT_.out (by kernel_rfl)) ?_
            try go_wp2
            go_ret2
            exact ⟨_, by first | rfl | (simp [errW_none, errW_some] <;> rfl) | (simp [*, errW_none, errW_some] <;> rfl), by first | exact Kd.S_nil _ _ _ _ _ | exact Kd.N_nil _ _ _ _ _ | exact Kd.V_nil _ _ _ _ _ | exact Kd.Q_nil _ _ _ _ _ | exact Kd.R_nil _ _ _ _ _, by repeat (first | (with_reducible first | exact HB.out | apply pA | apply pN | apply pD | refine pS ?_ GE198.out) | exact HB.out)⟩
           ·
            rw [if_neg c25] at H
            have c25b0 : decide ((wrap64 (1000000000000000 - a1_0)) < ((rd_T57 l0 x6_2).f0)) = false := decide_eq_false c25
            clear c25
            by_cases c27 : y206.length < 4398046511104
            ·
             rw [if_pos c27] at H
             have LMc27 := Am c27
             clear c27
             obtain ⟨y214, hy214⟩ : ∃ y_ : List (S57), y_ = (y206 ++ [(⟨wrap64 (((rd_T57 l0 x6_2).f0) + a1_0), (rd_T57 l0 x6_2).f1⟩ : S57)]) := ⟨_, rfl⟩
             replace H : (if 0 ≤ (wrap64 (x6_2 + 1)) then (if (wrap64 (x6_2 + 1)) ≤ (l0.length : Int) then ((some (l0.drop ((wrap64 (x6_2 + 1)) : Int).toNat : List (S57))).bind fun y217 => (if y214.length + y217.length < 4398046511104 then (some ((y214 ++ y217), true)) else (none))) else (none)) else (none)) = some (r1, r2) := by first | (rw [hy214]; with_reducible exact H) | (have H2_ := (Option.bind_some _ _).symm.trans H; rw [hy214]; with_reducible exact H2_) | (have H2_ := (Option.bind_some _ _).symm.trans H; with_reducible exact H2_) | with_reducible exact H | (rw [hy214]; exact H) | exact H
             have Ny214 := Am hy214
             clear hy214
             obtain ⟨ji28, hji28⟩ : ∃ j_ : Int, (wrap64 (x6_2 + 1)) = j_ := ⟨_, rfl⟩
             replace H : (if 0 ≤ (ji28) then (if (ji28) ≤ (l0.length : Int) then ((some (l0.drop ((ji28) : Int).toNat : List (S57))).bind fun y217 => (if y214.length + y217.length < 4398046511104 then (some ((y214 ++ y217), true)) else (none))) else (none)) else (none)) = some (r1, r2) := by first | (rw [hji28] at H; exact H) | (simp only [hji28] at H ⊢; exact H)
             have hji28w : (IntKind.i64.wrap (x6_2 + 1)) = ji28 := (i64_w _).trans hji28
             by_cases c29 : 0 ≤ (ji28)
             ·
              rw [if_pos c29] at H
              have c29b0 := eq_true c29
              have c29b1 : decide (0 ≤ (ji28)) = true := decide_eq_true c29
              clear c29
              by_cases c30 : (ji28) ≤ (l0.length : Int)
              ·
               rw [if_pos c30] at H
               have c30b0 := eq_true c30
               have c30b1 : decide ((ji28) ≤ (l0.length : Int)) = true := decide_eq_true c30
               clear c30
               obtain ⟨y217, hy217⟩ : ∃ y_ : List (S57), y_ = (l0.drop ((ji28) : Int).toNat) := ⟨_, rfl⟩
               replace H : (if y214.length + y217.length < 4398046511104 then (some ((y214 ++ y217), true)) else (none)) = some (r1, r2) := by first | (rw [hy217]; with_reducible exact H) | (have H2_ := (Option.bind_some _ _).symm.trans H; rw [hy217]; with_reducible exact H2_) | (have H2_ := (Option.bind_some _ _).symm.trans H; with_reducible exact H2_) | with_reducible exact H | (rw [hy217]; exact H) | exact H
               have Ny217 := Am hy217
               clear hy217
               by_cases c31 : y214.length + y217.length < 4398046511104
               ·
                rw [if_pos c31] at H
                have LMc31 := Am c31
                clear c31
                obtain ⟨y222, hy222⟩ : ∃ y_ : List (S57), y_ = (y214 ++ y217) := ⟨_, rfl⟩
                replace H : (some (y222, true)) = some (r1, r2) := by first | (rw [hy222]; with_reducible exact H) | (have H2_ := (Option.bind_some _ _).symm.trans H; rw [hy222]; with_reducible exact H2_) | (have H2_ := (Option.bind_some _ _).symm.trans H; with_reducible exact H2_) | with_reducible exact H | (rw [hy222]; exact H) | exact H
                have Ny222 := Am hy222
                clear hy222
                simp only [Option.some.injEq, Prod.mk.injEq] at H
                obtain ⟨rfl, rfl⟩ := H
                try go_wp2
                have n0_ := Am (Kd.V_drew HO_0.out)
                have n1_ := Am (Kd.N_drew HO_7.out)
                have n2_ := Am (Kd.V_drew HO_199001.out)
                have n3_ := Am (bD BK198.out)
                have n4_ := Am (pD HB.out)
                clear HO_0
                clear HO_7
                clear HO_199001
                clear BK198
                clear HB
                have HO_0 := n0_
                have HO_7 := n1_
                have HO_199001 := n2_
                have BK198 := n3_
                have HB := n4_
                clear n0_ n1_ n2_ n3_ n4_
                have p211 : 0 ≤ (x6_2 : Int) := of_decide_eq_true (by first | (with_reducible assumption) | assumption)
                have q211 : x6_2 < (l0.length : Int) := of_decide_eq_true (by first | (with_reducible assumption) | assumption)
                obtain ⟨ad211, A211_1, c211_1, e211, hx211_0, hx211_1, hl211_1, hi211_1⟩ := at_T57 (Kd.V_reads' HO_0.out).2.2 x6_2 p211 q211
                cases e211
                obtain ⟨ce211, hce211, hMe211, hcc211⟩ := Kd.V_get HO_0.out z57 x6_2 p211 (by first | exact q211 | exact of_decide_eq_true (by first | (with_reducible assumption) | assumption) | (have e_ := (Kd.V_reads' HO_0.out).1; omega))
                obtain ⟨ua211_1, uc211_1, rfl, ul211_1, ge211_1⟩ := k57_openF hMe211
                have hv211_1 := hcc211 1 _ rfl
                rw [add_field _ _ 1 (by omega)] at hv211_1
                replace hv211_1 := Option.some.inj (hv211_1.symm.trans hx211_1)
                injection hv211_1 with hva_ hvn_ hvc_
                rw [hva_] at ge211_1
                rw [hvc_] at ul211_1
                have HL211_1 := Am (show Kd.V (Kd.int .i64) 3 _ w.heap.size _ _ ((rd_T57 l0 x6_2).f1) from Kd.V_mk ul211_1 ge211_1)
                clear hva_ hvn_ hvc_ ge211_1 ul211_1
                clear hcc211 hce211
                have HR211_1 := Am hi211_1
                have HC211_1 := Am hl211_1
                clear hi211_1 hl211_1
                replace p211 := eq_true p211
                replace q211 := eq_true q211
                refine start_ (n := 9) (S := fun w' => w'.cell? ⟨gb198, 0, none⟩ = some (.int .i64 a1_0) ∧ w'.cell? ⟨gb198, 1, none⟩ = some (.slice A1_1 l1_1.length c1_1) ∧ w'.cell? (ad211.add ((x6_2).toNat * 2)) = some (.int .i64 ((rd_T57 l0 x6_2).f0)) ∧ w'.cell? ⟨(ad211.add ((x6_2).toNat * 2)).block, (ad211.add ((x6_2).toNat * 2)).off + 1, none⟩ = some (.slice A211_1 ((rd_T57 l0 x6_2).f1).length c211_1)) (ds := []) #[false, false, false, false, false, false, false, false, false] (by kernel_rfl) rfl rfl ⟨(blk_cell BK198.out 0).trans rfl, (blk_cell BK198.out 1).trans rfl, hx211_0, hx211_1⟩ (fun hHeld => ?_); refine with_tabW tenetref24_into.tab7 tenetref24_into.bits7 (fun HT_ HW_ => ?_)
                generalize wc.drew = w32 at HO_0 HO_7 HO_199001 BK198 HB HL211_1 HR211_1 hx211_0 hx211_1 hHeld ⊢
                refine pure_ (i := 0) (N := some 43) (v := ?_) (a' := ?_) #[true, false, false, false, false, false, false, false, false] rfl rfl (any_of HT_.out (by kernel_rfl)) (fun _ _ _ h => h) (Or.inl ⟨by rfl, ?_⟩) ?_ ?_
                rotate_left
                ·
                 intro w'
                 go_simp
                 with_reducible rfl
                rotate_left
                ·
                 simp only [Act.put, List.setIfInBounds_toArray, List.set_cons_zero, List.set_cons_succ, i64_w, i32_w]
                 rfl
                refine pure_ (i := 1) (N := some 44) (v := ?_) (a' := ?_) #[true, true, false, false, false, false, false, false, false] rfl rfl (any_of HT_.out (by kernel_rfl)) (fun _ _ _ h => h) (Or.inl ⟨by rfl, ?_⟩) ?_ ?_
                rotate_left
                ·
                 intro w'
                 go_simp
                 with_reducible rfl
                rotate_left
                ·
                 simp only [Act.put, List.setIfInBounds_toArray, List.set_cons_zero, List.set_cons_succ, i64_w, i32_w]
                 rfl
                refine pure_ (i := 2) (N := some 45) (v := ?_) (a' := ?_) #[true, true, true, false, false, false, false, false, false] rfl rfl (any_of HT_.out (by kernel_rfl)) (fun _ _ _ h => h) (Or.inl ⟨by rfl, ?_⟩) ?_ ?_
                rotate_left
                ·
                 intro w'
                 go_simp
                 with_reducible rfl
                rotate_left
                ·
                 simp only [Act.put, List.setIfInBounds_toArray, List.set_cons_zero, List.set_cons_succ, i64_w, i32_w]
                 rfl
                refine pure_ (i := 3) (N := some 46) (v := ?_) (a' := ?_) #[true, true, true, true, false, false, false, false, false] rfl rfl (any_of HT_.out (by kernel_rfl)) (fun _ _ _ h => h) (Or.inl ⟨by rfl, ?_⟩) ?_ ?_
                rotate_left
                ·
                 intro w'
                 go_simp
                 with_reducible rfl
                rotate_left
                ·
                 simp only [Act.put, List.setIfInBounds_toArray, List.set_cons_zero, List.set_cons_succ, i64_w, i32_w]
                 rfl
                refine pure_ (i := 5) (N := some 48) (v := ?_) (a' := ?_) #[true, true, true, true, false, true, false, false, false] rfl rfl (any_of HT_.out (by kernel_rfl)) (fun _ _ _ h => h) (Or.inl ⟨by rfl, ?_⟩) ?_ ?_
                rotate_left
                ·
                 intro w'
                 go_simp
                 with_reducible rfl
                rotate_left
                ·
                 simp only [Act.put, List.setIfInBounds_toArray, List.set_cons_zero, List.set_cons_succ, i64_w, i32_w]
                 rfl
                refine take_ (i := 4) (N := some 47) (v := ?_) (a' := ?_) #[true, true, true, true, true, true, false, false, false] rfl rfl (take_ofW HT_.out HW_.out (by kernel_rfl)) (fun _ _ _ h => h) (Or.inl ⟨by rfl, ?_⟩) hHeld ?_ ?_
                rotate_left
                ·
                 rintro w' ⟨s0, s1, s2, s3⟩
                 go_simp
                 with_reducible rfl
                rotate_left
                ·
                 simp only [Act.put, List.setIfInBounds_toArray, List.set_cons_zero, List.set_cons_succ, i64_w, i32_w]
                 rfl
                refine take_ (i := 6) (N := some 49) (v := ?_) (a' := ?_) #[true, true, true, true, true, true, true, false, false] rfl rfl (take_ofW HT_.out HW_.out (by kernel_rfl)) (fun _ _ _ h => h) (Or.inl ⟨by rfl, ?_⟩) hHeld ?_ ?_
                rotate_left
                ·
                 rintro w' ⟨s0, s1, s2, s3⟩
                 go_simp
                 with_reducible rfl
                rotate_left
                ·
                 simp only [Act.put, List.setIfInBounds_toArray, List.set_cons_zero, List.set_cons_succ, i64_w, i32_w]
                 rfl
                refine pure_ (i := 7) (N := some 50) (v := ?_) (a' := ?_) #[true, true, true, true, true, true, true, true, false] rfl rfl (any_of HT_.out (by kernel_rfl)) (fun _ _ _ h => h) (Or.inl ⟨by rfl, ?_⟩) ?_ ?_
                rotate_left
                ·
                 intro w'
                 go_simp
                 with_reducible rfl
                rotate_left
                ·
                 simp only [Act.put, List.setIfInBounds_toArray, List.set_cons_zero, List.set_cons_succ, i64_w, i32_w]
                 rfl
                refine pure_ (i := 8) (N := some 51) (v := ?_) (a' := ?_) #[true, true, true, true, true, true, true, true, true] rfl rfl (any_of HT_.out (by kernel_rfl)) (fun _ _ _ h => h) (Or.inl ⟨by rfl, ?_⟩) ?_ ?_
                rotate_left
                ·
                 intro w'
                 go_simp
                 with_reducible rfl
                rotate_left
                ·
                 simp only [Act.put, List.setIfInBounds_toArray, List.set_cons_zero, List.set_cons_succ, i64_w, i32_w]
                 rfl
                refine done_ (done_of HT_.out (by kernel_rfl)) ?_
                try go_wp2
                have n0_ := Am (Kd.V_drew HO_0.out)
                have n1_ := Am (Kd.N_drew HO_7.out)
                have n2_ := Am (Kd.V_drew HO_199001.out)
                have n3_ := Am (Kd.V_drew HL211_1.out)
                have n4_ := Am (bD BK198.out)
                have n5_ := Am (Kd.C_drew HR211_1.out)
                have n6_ := Am (pD HB.out)
                clear HO_0
                clear HO_7
                clear HO_199001
                clear HL211_1
                clear BK198
                clear HR211_1
                clear HB
                have HO_0 := n0_
                have HO_7 := n1_
                have HO_199001 := n2_
                have HL211_1 := n3_
                have BK198 := n4_
                have HR211_1 := n5_
                have HB := n6_
                clear n0_ n1_ n2_ n3_ n4_ n5_ n6_
                have p212 : 0 ≤ (x6_2 : Int) := of_decide_eq_true (by first | (with_reducible assumption) | assumption)
                have q212 : x6_2 < (l0.length : Int) := of_decide_eq_true (by first | (with_reducible assumption) | assumption)
                obtain ⟨ad212, A212_1, c212_1, e212, hx212_0, hx212_1, hl212_1, hi212_1⟩ := at_T57 (Kd.V_reads' HO_0.out).2.2 x6_2 p212 q212
                obtain rfl : ad211 = ad212 := (by injection e212)
                obtain ⟨ce212, hce212, hMe212, hcc212⟩ := Kd.V_get HO_0.out z57 x6_2 p212 (by first | exact q212 | exact of_decide_eq_true (by first | (with_reducible assumption) | assumption) | (have e_ := (Kd.V_reads' HO_0.out).1; omega))
                obtain ⟨ua212_1, uc212_1, rfl, ul212_1, ge212_1⟩ := k57_openF hMe212
                have hv212_1 := hcc212 1 _ rfl
                rw [add_field _ _ 1 (by omega)] at hv212_1
                replace hv212_1 := Option.some.inj (hv212_1.symm.trans hx212_1)
                injection hv212_1 with hva_ hvn_ hvc_
                rw [hva_] at ge212_1
                rw [hvc_] at ul212_1
                have HL212_1 := Am (show Kd.V (Kd.int .i64) 3 _ w.heap.size _ _ ((rd_T57 l0 x6_2).f1) from Kd.V_mk ul212_1 ge212_1)
                clear hva_ hvn_ hvc_ ge212_1 ul212_1
                clear hcc212 hce212
                have HR212_1 := Am hi212_1
                have HC212_1 := Am hl212_1
                clear hi212_1 hl212_1
                replace p212 := eq_true p212
                replace q212 := eq_true q212
                have p213 : 0 ≤ (x6_2 : Int) := of_decide_eq_true (by first | (with_reducible assumption) | assumption)
                have q213 : x6_2 < (l0.length : Int) := of_decide_eq_true (by first | (with_reducible assumption) | assumption)
                obtain ⟨ad213, A213_1, c213_1, e213, hx213_0, hx213_1, hl213_1, hi213_1⟩ := at_T57 (Kd.V_reads' HO_0.out).2.2 x6_2 p213 q213
                obtain rfl : ad211 = ad213 := (by injection e213)
                obtain ⟨ce213, hce213, hMe213, hcc213⟩ := Kd.V_get HO_0.out z57 x6_2 p213 (by first | exact q213 | exact of_decide_eq_true (by first | (with_reducible assumption) | assumption) | (have e_ := (Kd.V_reads' HO_0.out).1; omega))
                obtain ⟨ua213_1, uc213_1, rfl, ul213_1, ge213_1⟩ := k57_openF hMe213
                have hv213_1 := hcc213 1 _ rfl
                rw [add_field _ _ 1 (by omega)] at hv213_1
                replace hv213_1 := Option.some.inj (hv213_1.symm.trans hx213_1)
                injection hv213_1 with hva_ hvn_ hvc_
                rw [hva_] at ge213_1
                rw [hvc_] at ul213_1
                have HL213_1 := Am (show Kd.V (Kd.int .i64) 3 _ w.heap.size _ _ ((rd_T57 l0 x6_2).f1) from Kd.V_mk ul213_1 ge213_1)
                clear hva_ hvn_ hvc_ ge213_1 ul213_1
                clear hcc213 hce213
                have HR213_1 := Am hi213_1
                have HC213_1 := Am hl213_1
                clear hi213_1 hl213_1
                replace p213 := eq_true p213
                replace q213 := eq_true q213
                have ea_ := Option.some.inj (hx212_1.symm.trans hx213_1)
                injection ea_ with ea_ en_ ec_
                subst ea_
                subst ec_
                clear en_
                refine start_ (n := 18) (S := fun w' => w'.cell? ⟨gb198, 0, none⟩ = some (.int .i64 a1_0) ∧ w'.cell? ⟨gb198, 1, none⟩ = some (.slice A1_1 l1_1.length c1_1) ∧ w'.cell? (ad211.add ((x6_2).toNat * 2)) = some (.int .i64 ((rd_T57 l0 x6_2).f0)) ∧ w'.cell? ⟨(ad211.add ((x6_2).toNat * 2)).block, (ad211.add ((x6_2).toNat * 2)).off + 1, none⟩ = some (.slice A212_1 ((rd_T57 l0 x6_2).f1).length c212_1) ∧ w'.cell? (ad211.add ((x6_2).toNat * 2)) = some (.int .i64 ((rd_T57 l0 x6_2).f0)) ∧ w'.cell? ⟨(ad211.add ((x6_2).toNat * 2)).block, (ad211.add ((x6_2).toNat * 2)).off + 1, none⟩ = some (.slice A212_1 ((rd_T57 l0 x6_2).f1).length c212_1)) (ds := [15, 16]) #[false, false, false, false, false, false, false, false, false, false, false, false, false, false, false, false, false, false] (by kernel_rfl) rfl rfl ⟨(blk_cell BK198.out 0).trans rfl, (blk_cell BK198.out 1).trans rfl, hx212_0, hx212_1, hx213_0, hx213_1⟩ (fun hHeld => ?_); refine with_tabW tenetref24_into.tab9 tenetref24_into.bits9 (fun HT_ HW_ => ?_)
                generalize w32.drew = w33 at HO_0 HO_7 HO_199001 HL211_1 BK198 HR211_1 HB HL212_1 HL213_1 HR212_1 HR213_1 hx212_0 hx212_1 hx213_0 hx213_1 hHeld ⊢
                refine pure_ (i := 0) (N := some 52) (v := ?_) (a' := ?_) #[true, false, false, false, false, false, false, false, false, false, false, false, false, false, false, false, false, false] rfl rfl (any_of HT_.out (by kernel_rfl)) (fun _ _ _ h => h) (Or.inl ⟨by rfl, ?_⟩) ?_ ?_
                rotate_left
                ·
                 intro w'
                 go_simp
                 with_reducible rfl
                rotate_left
                ·
                 simp only [Act.put, List.setIfInBounds_toArray, List.set_cons_zero, List.set_cons_succ, i64_w, i32_w]
                 rfl
                refine pure_ (i := 1) (N := some 53) (v := ?_) (a' := ?_) #[true, true, false, false, false, false, false, false, false, false, false, false, false, false, false, false, false, false] rfl rfl (any_of HT_.out (by kernel_rfl)) (fun _ _ _ h => h) (Or.inl ⟨by rfl, ?_⟩) ?_ ?_
                rotate_left
                ·
                 intro w'
                 go_simp
                 with_reducible rfl
                rotate_left
                ·
                 simp only [Act.put, List.setIfInBounds_toArray, List.set_cons_zero, List.set_cons_succ, i64_w, i32_w]
                 rfl
                refine pure_ (i := 2) (N := some 54) (v := ?_) (a' := ?_) #[true, true, true, false, false, false, false, false, false, false, false, false, false, false, false, false, false, false] rfl rfl (any_of HT_.out (by kernel_rfl)) (fun _ _ _ h => h) (Or.inl ⟨by rfl, ?_⟩) ?_ ?_
                rotate_left
                ·
                 intro w'
                 go_simp
                 with_reducible rfl
                rotate_left
                ·
                 simp only [Act.put, List.setIfInBounds_toArray, List.set_cons_zero, List.set_cons_succ, i64_w, i32_w]
                 rfl
                refine pure_ (i := 3) (N := some 55) (v := ?_) (a' := ?_) #[true, true, true, true, false, false, false, false, false, false, false, false, false, false, false, false, false, false] rfl rfl (any_of HT_.out (by kernel_rfl)) (fun _ _ _ h => h) (Or.inl ⟨by rfl, ?_⟩) ?_ ?_
                rotate_left
                ·
                 intro w'
                 go_simp
                 with_reducible rfl
                rotate_left
                ·
                 simp only [Act.put, List.setIfInBounds_toArray, List.set_cons_zero, List.set_cons_succ, i64_w, i32_w]
                 rfl
                refine pure_ (i := 4) (N := some 56) (v := ?_) (a' := ?_) #[true, true, true, true, true, false, false, false, false, false, false, false, false, false, false, false, false, false] rfl rfl (any_of HT_.out (by kernel_rfl)) (fun _ _ _ h => h) (Or.inl ⟨by rfl, ?_⟩) ?_ ?_
                rotate_left
                ·
                 intro w'
                 go_simp
                 with_reducible rfl
                rotate_left
                ·
                 simp only [Act.put, List.setIfInBounds_toArray, List.set_cons_zero, List.set_cons_succ, i64_w, i32_w]
                 rfl
                refine pure_ (i := 6) (N := some 58) (v := ?_) (a' := ?_) #[true, true, true, true, true, false, true, false, false, false, false, false, false, false, false, false, false, false] rfl rfl (any_of HT_.out (by kernel_rfl)) (fun _ _ _ h => h) (Or.inl ⟨by rfl, ?_⟩) ?_ ?_
                rotate_left
                ·
                 intro w'
                 go_simp
                 with_reducible rfl
                rotate_left
                ·
                 simp only [Act.put, List.setIfInBounds_toArray, List.set_cons_zero, List.set_cons_succ, i64_w, i32_w]
                 rfl
                refine pure_ (i := 9) (N := some 61) (v := ?_) (a' := ?_) #[true, true, true, true, true, false, true, false, false, true, false, false, false, false, false, false, false, false] rfl rfl (any_of HT_.out (by kernel_rfl)) (fun _ _ _ h => h) (Or.inl ⟨by rfl, ?_⟩) ?_ ?_
                rotate_left
                ·
                 intro w'
                 go_simp
                 with_reducible rfl
                rotate_left
                ·
                 simp only [Act.put, List.setIfInBounds_toArray, List.set_cons_zero, List.set_cons_succ, i64_w, i32_w]
                 rfl
                refine pure_ (i := 10) (N := some 62) (v := ?_) (a' := ?_) #[true, true, true, true, true, false, true, false, false, true, true, false, false, false, false, false, false, false] rfl rfl (any_of HT_.out (by kernel_rfl)) (fun _ _ _ h => h) (Or.inl ⟨by rfl, ?_⟩) ?_ ?_
                rotate_left
                ·
                 intro w'
                 go_simp
                 with_reducible rfl
                rotate_left
                ·
                 simp only [Act.put, List.setIfInBounds_toArray, List.set_cons_zero, List.set_cons_succ, i64_w, i32_w]
                 rfl
                refine pure_ (i := 11) (N := some 63) (v := ?_) (a' := ?_) #[true, true, true, true, true, false, true, false, false, true, true, true, false, false, false, false, false, false] rfl rfl (any_of HT_.out (by kernel_rfl)) (fun _ _ _ h => h) (Or.inl ⟨by rfl, ?_⟩) ?_ ?_
                rotate_left
                ·
                 intro w'
                 go_simp
                 with_reducible rfl
                rotate_left
                ·
                 simp only [Act.put, List.setIfInBounds_toArray, List.set_cons_zero, List.set_cons_succ, i64_w, i32_w]
                 rfl
                refine pure_ (i := 12) (N := some 64) (v := ?_) (a' := ?_) #[true, true, true, true, true, false, true, false, false, true, true, true, true, false, false, false, false, false] rfl rfl (any_of HT_.out (by kernel_rfl)) (fun _ _ _ h => h) (Or.inl ⟨by rfl, ?_⟩) ?_ ?_
                rotate_left
                ·
                 intro w'
                 go_simp
                 with_reducible rfl
                rotate_left
                ·
                 simp only [Act.put, List.setIfInBounds_toArray, List.set_cons_zero, List.set_cons_succ, i64_w, i32_w]
                 rfl
                refine take_ (i := 5) (N := some 57) (v := ?_) (a' := ?_) #[true, true, true, true, true, true, true, false, false, true, true, true, true, false, false, false, false, false] rfl rfl (take_ofW HT_.out HW_.out (by kernel_rfl)) (fun _ _ _ h => h) (Or.inl ⟨by rfl, ?_⟩) hHeld ?_ ?_
                rotate_left
                ·
                 rintro w' ⟨s0, s1, s2, s3, s4, s5⟩
                 go_simp
                 with_reducible rfl
                rotate_left
                ·
                 simp only [Act.put, List.setIfInBounds_toArray, List.set_cons_zero, List.set_cons_succ, i64_w, i32_w]
                 rfl
                refine take_ (i := 7) (N := some 59) (v := ?_) (a' := ?_) #[true, true, true, true, true, true, true, true, false, true, true, true, true, false, false, false, false, false] rfl rfl (take_ofW HT_.out HW_.out (by kernel_rfl)) (fun _ _ _ h => h) (Or.inl ⟨by rfl, ?_⟩) hHeld ?_ ?_
                rotate_left
                ·
                 rintro w' ⟨s0, s1, s2, s3, s4, s5⟩
                 go_simp
                 with_reducible rfl
                rotate_left
                ·
                 simp only [Act.put, List.setIfInBounds_toArray, List.set_cons_zero, List.set_cons_succ, i64_w, i32_w]
                 rfl
                refine pure_ (i := 8) (N := some 60) (v := ?_) (a' := ?_) #[true, true, true, true, true, true, true, true, true, true, true, true, true, false, false, false, false, false] rfl rfl (any_of HT_.out (by kernel_rfl)) (fun _ _ _ h => h) (Or.inl ⟨by rfl, ?_⟩) ?_ ?_
                rotate_left
                ·
                 intro w'
                 go_simp
                 with_reducible rfl
                rotate_left
                ·
                 simp only [Act.put, List.setIfInBounds_toArray, List.set_cons_zero, List.set_cons_succ, i64_w, i32_w]
                 rfl
                refine take_ (i := 13) (N := some 65) (v := ?_) (a' := ?_) #[true, true, true, true, true, true, true, true, true, true, true, true, true, true, false, false, false, false] rfl rfl (take_ofW HT_.out HW_.out (by kernel_rfl)) (fun _ _ _ h => h) (Or.inl ⟨by rfl, ?_⟩) hHeld ?_ ?_
                rotate_left
                ·
                 rintro w' ⟨s0, s1, s2, s3, s4, s5⟩
                 go_simp
                 with_reducible rfl
                rotate_left
                ·
                 simp only [Act.put, List.setIfInBounds_toArray, List.set_cons_zero, List.set_cons_succ, i64_w, i32_w]
                 rfl
                refine pure_ (i := 14) (N := some 66) (v := ?_) (a' := ?_) #[true, true, true, true, true, true, true, true, true, true, true, true, true, true, true, false, false, false] rfl rfl (any_of HT_.out (by kernel_rfl)) (fun _ _ _ h => h) (Or.inl ⟨by rfl, ?_⟩) ?_ ?_
                rotate_left
                ·
                 intro w'
                 go_simp
                 with_reducible rfl
                rotate_left
                ·
                 simp only [Act.put, List.setIfInBounds_toArray, List.set_cons_zero, List.set_cons_succ, i64_w, i32_w]
                 rfl
                refine last_ (i := 15) (N := some 67) #[true, true, true, true, true, true, true, true, true, true, true, true, true, true, true, true, false, false] rfl rfl (one_of HT_.out (by kernel_rfl)) (by decide) (fun K hK => ?_)
                refine value_ (w1 := ?_) (v := ?_) (by rfl) rfl ?_ ?_
                rotate_left 2
                ·
                 go_simp
                 constructor
                 ·
                  rfl
                 ·
                  rfl
                refine hK.out _ _ ?_
                clear hK K
                refine norm_ (a' := ?_) ?_ ?_
                rotate_left
                ·
                 show Act.put _ (some 67) _ = _
                 simp only [Act.put, List.setIfInBounds_toArray, List.set_cons_zero, List.set_cons_succ, i64_w, i32_w]
                 rfl
                refine last_ (i := 16) (N := some 68) #[true, true, true, true, true, true, true, true, true, true, true, true, true, true, true, true, true, false] rfl rfl (one_of HT_.out (by kernel_rfl)) (by decide) (fun K hK => ?_)
                refine Kd.N_append_step k57 (w0 := w) w.heap.size (by rfl) (.tmp 52) (.tmp 67) 45 57 (.agg #[(.int .i64 0), (.slice none 0 0)]) 32 rfl Try.underlying45 info57 rfl (by decide) (by omega) v207 y206 (⟨wrap64 (((rd_T57 l0 x6_2).f0) + a1_0), (rd_T57 l0 x6_2).f1⟩ : S57) [.int .i64 (wrap64 (((rd_T57 l0 x6_2).f0) + a1_0)), .slice A212_1 ((rd_T57 l0 x6_2).f1).length c212_1] (fun k_ => ((P0_ k_ ∨ P1_1_ k_) ∨ w.heap.size ≤ k_) ∧ k_ ≠ gb198) (fun k_ => ((fun k_ => ((P0_ k_ ∨ P1_1_ k_) ∨ w.heap.size ≤ k_) ∧ k_ ≠ gb198)) k_ ∧ some k_ ≠ (v207 : Value).ownBlock) rfl rfl ?aP (fun _ hk => hk) ?aF ?aO ?aB ?aS ?aL ?_
                (case aP => exact (k57_mkF _ _ (⟨wrap64 (((rd_T57 l0 x6_2).f0) + a1_0), (rd_T57 l0 x6_2).f1⟩ : S57) (Kd.V_reads' (Kd.V_mono (ok' := (fun k_ => ((fun k_ => ((P0_ k_ ∨ P1_1_ k_) ∨ w.heap.size ≤ k_) ∧ k_ ≠ gb198)) k_ ∧ some k_ ≠ (v207 : Value).ownBlock)) (HL213_1.out) (fun k_ hk => ⟨⟨hk.1, hk.2.2⟩, hk.2.1⟩))).2.1 (Kd.V_F (Kd.V_mono (ok' := (fun k_ => ((fun k_ => ((P0_ k_ ∨ P1_1_ k_) ∨ w.heap.size ≤ k_) ∧ k_ ≠ gb198)) k_ ∧ some k_ ≠ (v207 : Value).ownBlock)) (HL213_1.out) (fun k_ hk => ⟨⟨hk.1, hk.2.2⟩, hk.2.1⟩)))))
                (case aB => exact (by repeat (first | (with_reducible first | exact HB.out | apply pA | apply pN | apply pD | refine pS ?_ GE198.out) | exact HB.out)))
                (case aF => exact (fun k_ hk => ⟨(.inr (Nat.le_trans (below_size (by repeat (first | (with_reducible first | exact HB.out | apply pA | apply pN | apply pD | refine pS ?_ GE198.out) | exact HB.out))) hk)), Kd.freshB (g := gb198) (o := .cells #[.int .i64 a1_0, .slice A1_1 l1_1.length c1_1] 57 (0, 0)) (by (with_reducible repeat (first | refine bN ?_ _ | refine bD ?_ | refine bA ?_ _)); exact BK198.out) k_ hk⟩))
                (case aO => exact (by (with_reducible repeat (first | apply Kd.N_alloc | apply Kd.N_drewN | apply Kd.N_drew)); exact HO_7.out))
                (case aS => exact (below_size (by repeat (first | (with_reducible first | exact HB.out | apply pA | apply pN | apply pD | refine pS ?_ GE198.out) | exact HB.out))))
                (case aL => have := LMc27.out; omega)
                intro v215 w34 ho hb hg hat
                rw [← Ny214.out] at ho
                have n0_ := Am (Kd.V_afterv (ok := (fun k_ => ((P0_ k_ ∨ P1_1_ k_) ∨ w.heap.size ≤ k_) ∧ k_ ≠ gb198)) (by (with_reducible repeat (first | apply Kd.V_alloc | apply Kd.V_drewN | apply Kd.V_drew)); exact Kd.V_mono HO_0.out (fun _ hk => ⟨⟨hk.1, hk.2.2⟩, hk.2.1⟩)) hg hat)
                have n1_ := Am (Kd.V_afterv (ok := (fun k_ => ((P0_ k_ ∨ P1_1_ k_) ∨ w.heap.size ≤ k_) ∧ k_ ≠ gb198)) (by (with_reducible repeat (first | apply Kd.V_alloc | apply Kd.V_drewN | apply Kd.V_drew)); exact Kd.V_mono HO_199001.out (fun _ hk => ⟨⟨hk.1, hk.2.2⟩, hk.2.1⟩)) hg hat)
                have n2_ := Am (blk_grown (g := gb198) (o := .cells #[.int .i64 a1_0, .slice A1_1 l1_1.length c1_1] 57 (0, 0)) (by (with_reducible repeat (first | refine bN ?_ _ | refine bD ?_ | refine bA ?_ _)); exact BK198.out) hg (Kd.N_away HO_7.out (fun _ hk => hk.2)))
                have n3_ := Am (Kd.V_afterv (ok := (fun k_ => ((P0_ k_ ∨ P1_1_ k_) ∨ w.heap.size ≤ k_) ∧ k_ ≠ gb198)) (by (with_reducible repeat (first | apply Kd.V_alloc | apply Kd.V_drewN | apply Kd.V_drew)); exact Kd.V_mono HL211_1.out (fun _ hk => ⟨⟨hk.1, hk.2.2⟩, hk.2.1⟩)) hg hat)
                have n4_ := Am (Kd.V_afterv (ok := (fun k_ => ((P0_ k_ ∨ P1_1_ k_) ∨ w.heap.size ≤ k_) ∧ k_ ≠ gb198)) (by (with_reducible repeat (first | apply Kd.V_alloc | apply Kd.V_drewN | apply Kd.V_drew)); exact Kd.V_mono HL212_1.out (fun _ hk => ⟨⟨hk.1, hk.2.2⟩, hk.2.1⟩)) hg hat)
                have n5_ := Am (Kd.V_afterv (ok := (fun k_ => ((P0_ k_ ∨ P1_1_ k_) ∨ w.heap.size ≤ k_) ∧ k_ ≠ gb198)) (by (with_reducible repeat (first | apply Kd.V_alloc | apply Kd.V_drewN | apply Kd.V_drew)); exact Kd.V_mono HL213_1.out (fun _ hk => ⟨⟨hk.1, hk.2.2⟩, hk.2.1⟩)) hg hat)
                have n6_ := Am (hb)
                have n7_ := Am (ho)
                clear HO_0
                clear HO_199001
                clear BK198
                clear HL211_1
                clear HL212_1
                clear HL213_1
                clear HB
                clear HO_7
                have HO_0 := n0_
                have HO_199001 := n1_
                have BK198 := n2_
                have HL211_1 := n3_
                have HL212_1 := n4_
                have HL213_1 := n5_
                have HB := n6_
                have HO216 := n7_
                clear n0_ n1_ n2_ n3_ n4_ n5_ n6_ n7_
                clear ho hb hg hat
                refine hK.out _ _ ?_
                clear hK K
                refine norm_ (a' := ?_) ?_ ?_
                rotate_left
                ·
                 show Act.put _ (some 68) _ = _
                 simp only [Act.put, List.setIfInBounds_toArray, List.set_cons_zero, List.set_cons_succ, i64_w, i32_w]
                 rfl
                refine pure_ (i := 17) (N := some 7) (v := ?_) (a' := ?_) #[true, true, true, true, true, true, true, true, true, true, true, true, true, true, true, true, true, true] rfl rfl (any_of HT_.out (by kernel_rfl)) (fun _ _ _ h => h) (Or.inl ⟨by rfl, ?_⟩) ?_ ?_
                rotate_left
                ·
                 intro w'
                 go_simp
                 with_reducible rfl
                rotate_left
                ·
                 simp only [Act.put, List.setIfInBounds_toArray, List.set_cons_zero, List.set_cons_succ, i64_w, i32_w]
                 rfl
                refine done_ (done_of HT_.out (by kernel_rfl)) ?_
                have q35 : ((ji28) : Int) ≤ ((l0.length : Int) : Int) := of_decide_eq_true (by first | (with_reducible assumption) | assumption)
                obtain ⟨i035, hi035, _, hsz35, _⟩ := info_parts info57
                have hroom35 : l0.length ≤ c0 := (Kd.V_reads' HO_0.out).2.1
                have hC35 : Kd.F k57 _ _ (some ad211) l0.length l0 := (Kd.V_at (base := w.heap.size) HO_0.out).2.2
                have q035 : (0 : Int) ≤ ((ji28) : Int) := of_decide_eq_true (by first | (with_reducible assumption) | assumption)
                have hcut35 := cut_from (P := Try.prog) 45 57 .i64 Try.underlying45 hi035 2 hsz35 (some ad211) l0.length c0 (ji28) q035 q35
                have hr35 := Kd.F_cut (m := ((ji28) : Int).toNat) (c := c0) hC35 (by omega) hroom35
                obtain ⟨A35, hA35⟩ : ∃ A1, A1 = (if c0 = ((ji28) : Int).toNat then (some ad211) else ((some ad211) : Option Addr).map (·.add (((ji28) : Int).toNat * 2))) := ⟨_, rfl⟩
                obtain ⟨c35, hc35⟩ : ∃ c1, c1 = c0 - ((ji28) : Int).toNat := ⟨_, rfl⟩
                have hy35 : y217.length = l0.length - ((ji28) : Int).toNat := (by rw [Ny217.out, List.length_drop] <;> omega)
                rw [show (l0).drop ((ji28) : Int).toNat = y217 from Ny217.out.symm] at hr35
                replace hr35 : Kd.F k57 _ _ A35 y217.length y217 := (by rw [hA35]; exact hr35)
                rw [← hy35, ← hA35, ← hc35] at hcut35
                have HO221 := Am (show Kd.V k57 57 _ w.heap.size _ (.slice A35 y217.length c35) y217 from Kd.V_mk (by rw [hy35, hc35]; exact Nat.sub_le_sub_right hroom35 _) hr35)
                have HC221 := Am (show y217.length ≤ c35 from by rw [hy35, hc35]; exact Nat.sub_le_sub_right hroom35 _)
                clear hr35 hC35 hroom35 hi035 hsz35 hc35
                have KY35 := Am hy35
                have KA35 := Am hA35
                clear hy35 hA35
                replace q35 := eq_true q35
                try go_wp2_with (first | ((with_reducible refine gate_builtin (b := .append) (xs := #[.tmp 69, .tmp 73]) rfl ?_); at_builtin; refine Kd.N_append_rows k57 (w0 := w) w.heap.size rfl (.tmp 69) (.tmp 73) 45 57 (.agg #[(.int .i64 0), (.slice none 0 0)]) 32 rfl Try.underlying45 info57 rfl (by decide) (by omega) v215 y214 y217 _ _ _ (fun k_ => ((P0_ k_ ∨ P1_1_ k_) ∨ w.heap.size ≤ k_) ∧ k_ ≠ gb198) (fun k_ => ((fun k_ => ((P0_ k_ ∨ P1_1_ k_) ∨ w.heap.size ≤ k_) ∧ k_ ≠ gb198)) k_ ∧ some k_ ≠ (v215 : Value).ownBlock) rfl rfl ?aO ?aR (fun _ hk => hk) ?aF ?aB ?aS ?aL ?_; (case aR => exact (by skip; exact Kd.V_F (Kd.V_mono (ok' := (fun k_ => ((fun k_ => ((P0_ k_ ∨ P1_1_ k_) ∨ w.heap.size ≤ k_) ∧ k_ ≠ gb198)) k_ ∧ some k_ ≠ (v215 : Value).ownBlock)) (HO221.out) (fun k_ hk => ⟨⟨hk.1.1, hk.1.2⟩, hk.2⟩)))); (case aB => exact (by repeat (first | (with_reducible first | exact HB.out | apply pA | apply pN | apply pD | refine pS ?_ GE198.out) | exact HB.out))); (case aF => exact (fun k_ hk => ⟨(.inr (Nat.le_trans (below_size (by repeat (first | (with_reducible first | exact HB.out | apply pA | apply pN | apply pD | refine pS ?_ GE198.out) | exact HB.out))) hk)), Kd.freshB (g := gb198) (o := .cells #[.int .i64 a1_0, .slice A1_1 l1_1.length c1_1] 57 (0, 0)) (by (with_reducible repeat (first | refine bN ?_ _ | refine bD ?_ | refine bA ?_ _)); exact BK198.out) k_ hk⟩)); (case aO => exact (by (with_reducible repeat (first | apply Kd.N_alloc | apply Kd.N_drewN | apply Kd.N_drew)); exact HO216.out)); (case aS => exact (below_size (by repeat (first | (with_reducible first | exact HB.out | apply pA | apply pN | apply pD | refine pS ?_ GE198.out) | exact HB.out)))); (case aL => have := LMc31.out; omega); intro v223 w36 ho hb hg hat; rw [← Ny222.out] at ho; have n0_ := Am (Kd.V_afterv (ok := (fun k_ => ((P0_ k_ ∨ P1_1_ k_) ∨ w.heap.size ≤ k_) ∧ k_ ≠ gb198)) (by (with_reducible repeat (first | apply Kd.V_alloc | apply Kd.V_drewN | apply Kd.V_drew)); exact HO_0.out) hg hat); have n1_ := Am (Kd.V_afterv (ok := (fun k_ => ((P0_ k_ ∨ P1_1_ k_) ∨ w.heap.size ≤ k_) ∧ k_ ≠ gb198)) (by (with_reducible repeat (first | apply Kd.V_alloc | apply Kd.V_drewN | apply Kd.V_drew)); exact HO_199001.out) hg hat); have n2_ := Am (blk_grown (g := gb198) (o := .cells #[.int .i64 a1_0, .slice A1_1 l1_1.length c1_1] 57 (0, 0)) (by (with_reducible repeat (first | refine bN ?_ _ | refine bD ?_ | refine bA ?_ _)); exact BK198.out) hg (Kd.N_away HO216.out (fun _ hk => hk.2))); have n3_ := Am (Kd.V_afterv (ok := (fun k_ => ((P0_ k_ ∨ P1_1_ k_) ∨ w.heap.size ≤ k_) ∧ k_ ≠ gb198)) (by (with_reducible repeat (first | apply Kd.V_alloc | apply Kd.V_drewN | apply Kd.V_drew)); exact HL211_1.out) hg hat); have n4_ := Am (Kd.V_afterv (ok := (fun k_ => ((P0_ k_ ∨ P1_1_ k_) ∨ w.heap.size ≤ k_) ∧ k_ ≠ gb198)) (by (with_reducible repeat (first | apply Kd.V_alloc | apply Kd.V_drewN | apply Kd.V_drew)); exact HL212_1.out) hg hat); have n5_ := Am (Kd.V_afterv (ok := (fun k_ => ((P0_ k_ ∨ P1_1_ k_) ∨ w.heap.size ≤ k_) ∧ k_ ≠ gb198)) (by (with_reducible repeat (first | apply Kd.V_alloc | apply Kd.V_drewN | apply Kd.V_drew)); exact HL213_1.out) hg hat); have n6_ := Am (Kd.V_afterv (ok := (fun k_ => ((P0_ k_ ∨ P1_1_ k_) ∨ w.heap.size ≤ k_) ∧ k_ ≠ gb198)) (by (with_reducible repeat (first | apply Kd.V_alloc | apply Kd.V_drewN | apply Kd.V_drew)); exact HO221.out) hg hat); have n7_ := Am (hb); have n8_ := Am (ho); clear HO_0; clear HO_199001; clear BK198; clear HL211_1; clear HL212_1; clear HL213_1; clear HO221; clear HB; clear HO216; have HO_0 := n0_; have HO_199001 := n1_; have BK198 := n2_; have HL211_1 := n3_; have HL212_1 := n4_; have HL213_1 := n5_; have HO221 := n6_; have HB := n7_; have HO224 := n8_; clear n0_ n1_ n2_ n3_ n4_ n5_ n6_ n7_ n8_; clear ho hb hg hat))
                go_ret2
                exact ⟨_, by first | rfl | (simp [errW_none, errW_some] <;> rfl) | (simp only [← hji28]; first | rfl | (simp [errW_none, errW_some] <;> rfl)) | (simp [*, errW_none, errW_some] <;> rfl), by (with_reducible repeat (first | apply Kd.N_alloc | apply Kd.N_drewN | apply Kd.N_drew)); exact Kd.N_mono HO224.out (fun _ hk => hk.1), by repeat (first | (with_reducible first | exact HB.out | apply pA | apply pN | apply pD | refine pS ?_ GE198.out) | exact HB.out)⟩
               ·
                rw [if_neg c31] at H
                exact absurd H (by simp)
              ·
               rw [if_neg c30] at H
               exact absurd H (by simp)
             ·
              rw [if_neg c29] at H
              exact absurd H (by simp)
            ·
             rw [if_neg c27] at H
             exact absurd H (by simp)
          ·
           rw [if_neg c24] at H
           exact absurd H (by simp)
         ·
          rw [if_neg c23] at H
          exact absurd H (by simp)
        ·
         replace c22 := Bool.eq_false_iff.mpr c22
         subst c22
         have H1 : (if y206.length < 4398046511104 then ((some (y206 ++ [(⟨a1_0, l1_1⟩ : S57)] : List (S57))).bind fun y225 => (if 0 ≤ x6_2 then (if x6_2 ≤ (l0.length : Int) then ((some (l0.drop (x6_2 : Int).toNat : List (S57))).bind fun y228 => (if y225.length + y228.length < 4398046511104 then (some ((y225 ++ y228), true)) else (none))) else (none)) else (none))) else (none)) = some (r1, r2) := by rw [if_neg (show ¬ (false = true) by decide)] at H; exact H
         clear H
         have H := H1
         clear H1
         by_cases c37 : y206.length < 4398046511104
         ·
          rw [if_pos c37] at H
          have LMc37 := Am c37
          clear c37
          obtain ⟨y225, hy225⟩ : ∃ y_ : List (S57), y_ = (y206 ++ [(⟨a1_0, l1_1⟩ : S57)]) := ⟨_, rfl⟩
          replace H : (if 0 ≤ x6_2 then (if x6_2 ≤ (l0.length : Int) then ((some (l0.drop (x6_2 : Int).toNat : List (S57))).bind fun y228 => (if y225.length + y228.length < 4398046511104 then (some ((y225 ++ y228), true)) else (none))) else (none)) else (none)) = some (r1, r2) := by first | (rw [hy225]; with_reducible exact H) | (have H2_ := (Option.bind_some _ _).symm.trans H; rw [hy225]; with_reducible exact H2_) | (have H2_ := (Option.bind_some _ _).symm.trans H; with_reducible exact H2_) | with_reducible exact H | (rw [hy225]; exact H) | exact H
          have Ny225 := Am hy225
          clear hy225
          by_cases c38 : 0 ≤ x6_2
          ·
           rw [if_pos c38] at H
           have c38b0 := eq_true c38
           have c38b1 : decide (0 ≤ x6_2) = true := decide_eq_true c38
           clear c38
           by_cases c39 : x6_2 ≤ (l0.length : Int)
           ·
            rw [if_pos c39] at H
            have c39b0 := eq_true c39
            have c39b1 : decide (x6_2 ≤ (l0.length : Int)) = true := decide_eq_true c39
            clear c39
            obtain ⟨y228, hy228⟩ : ∃ y_ : List (S57), y_ = (l0.drop (x6_2 : Int).toNat) := ⟨_, rfl⟩
            replace H : (if y225.length + y228.length < 4398046511104 then (some ((y225 ++ y228), true)) else (none)) = some (r1, r2) := by first | (rw [hy228]; with_reducible exact H) | (have H2_ := (Option.bind_some _ _).symm.trans H; rw [hy228]; with_reducible exact H2_) | (have H2_ := (Option.bind_some _ _).symm.trans H; with_reducible exact H2_) | with_reducible exact H | (rw [hy228]; exact H) | exact H
            have Ny228 := Am hy228
            clear hy228
            by_cases c40 : y225.length + y228.length < 4398046511104
            ·
             rw [if_pos c40] at H
             have LMc40 := Am c40
             clear c40
             obtain ⟨y233, hy233⟩ : ∃ y_ : List (S57), y_ = (y225 ++ y228) := ⟨_, rfl⟩
             replace H : (some (y233, true)) = some (r1, r2) := by first | (rw [hy233]; with_reducible exact H) | (have H2_ := (Option.bind_some _ _).symm.trans H; rw [hy233]; with_reducible exact H2_) | (have H2_ := (Option.bind_some _ _).symm.trans H; with_reducible exact H2_) | with_reducible exact H | (rw [hy233]; exact H) | exact H
             have Ny233 := Am hy233
             clear hy233
             simp only [Option.some.injEq, Prod.mk.injEq] at H
             obtain ⟨rfl, rfl⟩ := H
             have hcz41_0 : wc.cell? ⟨gb198, 0, none⟩ = some (.int .i64 a1_0) := (blk_cell BK198.out 0).trans rfl
             have hcz41_1 : wc.cell? ⟨gb198, 1, none⟩ = some (.slice A1_1 l1_1.length c1_1) := (blk_cell BK198.out 1).trans rfl
             have hfz41_0 := blk_frozen BK198.out 0
             have hfz41_1 := blk_frozen BK198.out 1
             go_wp2_with (first | ((with_reducible refine gate_builtin (b := .append) (xs := #[.tmp 75, .tmp 77]) rfl ?_); at_builtin; refine Kd.N_append k57 (w0 := w) w.heap.size rfl (.tmp 75) (.tmp 77) 45 57 (.agg #[(.int .i64 0), (.slice none 0 0)]) 32 rfl Try.underlying45 info57 rfl (by decide) (by omega) v207 y206 (⟨a1_0, l1_1⟩ : S57) [.int .i64 a1_0, .slice A1_1 l1_1.length c1_1] (fun k_ => ((P0_ k_ ∨ P1_1_ k_) ∨ w.heap.size ≤ k_) ∧ k_ ≠ gb198) (fun k_ => ((fun k_ => ((P0_ k_ ∨ P1_1_ k_) ∨ w.heap.size ≤ k_) ∧ k_ ≠ gb198)) k_ ∧ some k_ ≠ (v207 : Value).ownBlock) rfl rfl ?aP (fun _ hk => hk) ?aF ?aO ?aB ?aS ?aL ?_; (case aP => exact (k57_mkF _ _ (⟨a1_0, l1_1⟩ : S57) (Kd.V_reads' (Kd.V_mono (ok' := (fun k_ => ((fun k_ => ((P0_ k_ ∨ P1_1_ k_) ∨ w.heap.size ≤ k_) ∧ k_ ≠ gb198)) k_ ∧ some k_ ≠ (v207 : Value).ownBlock)) (HO_199001.out) (fun k_ hk => ⟨⟨hk.1, hk.2.2⟩, hk.2.1⟩))).2.1 (Kd.V_F (Kd.V_mono (ok' := (fun k_ => ((fun k_ => ((P0_ k_ ∨ P1_1_ k_) ∨ w.heap.size ≤ k_) ∧ k_ ≠ gb198)) k_ ∧ some k_ ≠ (v207 : Value).ownBlock)) (HO_199001.out) (fun k_ hk => ⟨⟨hk.1, hk.2.2⟩, hk.2.1⟩))))); (case aB => exact (by repeat (first | (with_reducible first | exact HB.out | apply pA | apply pN | apply pD | refine pS ?_ GE198.out) | exact HB.out))); (case aF => exact (fun k_ hk => ⟨(.inr (Nat.le_trans (below_size (by repeat (first | (with_reducible first | exact HB.out | apply pA | apply pN | apply pD | refine pS ?_ GE198.out) | exact HB.out))) hk)), Kd.freshB (g := gb198) (o := .cells #[.int .i64 a1_0, .slice A1_1 l1_1.length c1_1] 57 (0, 0)) (by (with_reducible repeat (first | refine bN ?_ _ | refine bD ?_ | refine bA ?_ _)); exact BK198.out) k_ hk⟩)); (case aO => exact (by (with_reducible repeat (first | apply Kd.N_alloc | apply Kd.N_drewN | apply Kd.N_drew)); exact HO_7.out)); (case aS => exact (below_size (by repeat (first | (with_reducible first | exact HB.out | apply pA | apply pN | apply pD | refine pS ?_ GE198.out) | exact HB.out)))); (case aL => have := LMc37.out; omega); intro v226 w42 ho hb hg hat; rw [← Ny225.out] at ho; have n0_ := Am (Kd.V_afterv (ok := (fun k_ => ((P0_ k_ ∨ P1_1_ k_) ∨ w.heap.size ≤ k_) ∧ k_ ≠ gb198)) (by (with_reducible repeat (first | apply Kd.V_alloc | apply Kd.V_drewN | apply Kd.V_drew)); exact Kd.V_mono HO_0.out (fun _ hk => ⟨⟨hk.1, hk.2.2⟩, hk.2.1⟩)) hg hat); have n1_ := Am (Kd.V_afterv (ok := (fun k_ => ((P0_ k_ ∨ P1_1_ k_) ∨ w.heap.size ≤ k_) ∧ k_ ≠ gb198)) (by (with_reducible repeat (first | apply Kd.V_alloc | apply Kd.V_drewN | apply Kd.V_drew)); exact Kd.V_mono HO_199001.out (fun _ hk => ⟨⟨hk.1, hk.2.2⟩, hk.2.1⟩)) hg hat); have n2_ := Am (blk_grown (g := gb198) (o := .cells #[.int .i64 a1_0, .slice A1_1 l1_1.length c1_1] 57 (0, 0)) (by (with_reducible repeat (first | refine bN ?_ _ | refine bD ?_ | refine bA ?_ _)); exact BK198.out) hg (Kd.N_away HO_7.out (fun _ hk => hk.2))); have n3_ := Am (hb); have n4_ := Am (ho); clear HO_0; clear HO_199001; clear BK198; clear HB; clear HO_7; have HO_0 := n0_; have HO_199001 := n1_; have BK198 := n2_; have HB := n3_; have HO227 := n4_; clear n0_ n1_ n2_ n3_ n4_; clear ho hb hg hat; have q43 : (x6_2 : Int) ≤ ((l0.length : Int) : Int) := of_decide_eq_true (by first | (with_reducible assumption) | assumption); obtain ⟨i043, hi043, _, hsz43, _⟩ := info_parts info57; have hroom43 : l0.length ≤ c0 := (Kd.V_reads' HO_0.out).2.1; have hC43 : Kd.F k57 _ _ A0 l0.length l0 := (Kd.V_at (base := w.heap.size) HO_0.out).2.2; have q043 : (0 : Int) ≤ (x6_2 : Int) := of_decide_eq_true (by first | (with_reducible assumption) | assumption); have hcut43 := cut_from (P := Try.prog) 45 57 .i64 Try.underlying45 hi043 2 hsz43 A0 l0.length c0 x6_2 q043 q43; have hr43 := Kd.F_cut (m := (x6_2 : Int).toNat) (c := c0) hC43 (by omega) hroom43; obtain ⟨A43, hA43⟩ : ∃ A1, A1 = (if c0 = (x6_2 : Int).toNat then A0 else (A0 : Option Addr).map (·.add ((x6_2 : Int).toNat * 2))) := ⟨_, rfl⟩; obtain ⟨c43, hc43⟩ : ∃ c1, c1 = c0 - (x6_2 : Int).toNat := ⟨_, rfl⟩; have hy43 : y228.length = l0.length - (x6_2 : Int).toNat := (by rw [Ny228.out, List.length_drop] <;> omega); rw [show (l0).drop (x6_2 : Int).toNat = y228 from Ny228.out.symm] at hr43; replace hr43 : Kd.F k57 _ _ A43 y228.length y228 := (by rw [hA43]; exact hr43); rw [← hy43, ← hA43, ← hc43] at hcut43; have HO232 := Am (show Kd.V k57 57 _ w.heap.size _ (.slice A43 y228.length c43) y228 from Kd.V_mk (by rw [hy43, hc43]; exact Nat.sub_le_sub_right hroom43 _) hr43); have HC232 := Am (show y228.length ≤ c43 from by rw [hy43, hc43]; exact Nat.sub_le_sub_right hroom43 _); clear hr43 hC43 hroom43 hi043 hsz43 hc43; have KY43 := Am hy43; have KA43 := Am hA43; clear hy43 hA43; replace q43 := eq_true q43) | ((with_reducible refine gate_builtin (b := .append) (xs := #[.tmp 79, .tmp 82]) rfl ?_); at_builtin; refine Kd.N_append_rows k57 (w0 := w) w.heap.size rfl (.tmp 79) (.tmp 82) 45 57 (.agg #[(.int .i64 0), (.slice none 0 0)]) 32 rfl Try.underlying45 info57 rfl (by decide) (by omega) v226 y225 y228 _ _ _ (fun k_ => ((P0_ k_ ∨ P1_1_ k_) ∨ w.heap.size ≤ k_) ∧ k_ ≠ gb198) (fun k_ => ((fun k_ => ((P0_ k_ ∨ P1_1_ k_) ∨ w.heap.size ≤ k_) ∧ k_ ≠ gb198)) k_ ∧ some k_ ≠ (v226 : Value).ownBlock) rfl rfl ?aO ?aR (fun _ hk => hk) ?aF ?aB ?aS ?aL ?_; (case aR => exact (by skip; exact Kd.V_F (Kd.V_mono (ok' := (fun k_ => ((fun k_ => ((P0_ k_ ∨ P1_1_ k_) ∨ w.heap.size ≤ k_) ∧ k_ ≠ gb198)) k_ ∧ some k_ ≠ (v226 : Value).ownBlock)) (HO232.out) (fun k_ hk => ⟨⟨hk.1.1, hk.1.2⟩, hk.2⟩)))); (case aB => exact (by repeat (first | (with_reducible first | exact HB.out | apply pA | apply pN | apply pD | refine pS ?_ GE198.out) | exact HB.out))); (case aF => exact (fun k_ hk => ⟨(.inr (Nat.le_trans (below_size (by repeat (first | (with_reducible first | exact HB.out | apply pA | apply pN | apply pD | refine pS ?_ GE198.out) | exact HB.out))) hk)), Kd.freshB (g := gb198) (o := .cells #[.int .i64 a1_0, .slice A1_1 l1_1.length c1_1] 57 (0, 0)) (by (with_reducible repeat (first | refine bN ?_ _ | refine bD ?_ | refine bA ?_ _)); exact BK198.out) k_ hk⟩)); (case aO => exact (by (with_reducible repeat (first | apply Kd.N_alloc | apply Kd.N_drewN | apply Kd.N_drew)); exact HO227.out)); (case aS => exact (below_size (by repeat (first | (with_reducible first | exact HB.out | apply pA | apply pN | apply pD | refine pS ?_ GE198.out) | exact HB.out)))); (case aL => have := LMc40.out; omega); intro v234 w44 ho hb hg hat; rw [← Ny233.out] at ho; have n0_ := Am (Kd.V_afterv (ok := (fun k_ => ((P0_ k_ ∨ P1_1_ k_) ∨ w.heap.size ≤ k_) ∧ k_ ≠ gb198)) (by (with_reducible repeat (first | apply Kd.V_alloc | apply Kd.V_drewN | apply Kd.V_drew)); exact HO_0.out) hg hat); have n1_ := Am (Kd.V_afterv (ok := (fun k_ => ((P0_ k_ ∨ P1_1_ k_) ∨ w.heap.size ≤ k_) ∧ k_ ≠ gb198)) (by (with_reducible repeat (first | apply Kd.V_alloc | apply Kd.V_drewN | apply Kd.V_drew)); exact HO_199001.out) hg hat); have n2_ := Am (blk_grown (g := gb198) (o := .cells #[.int .i64 a1_0, .slice A1_1 l1_1.length c1_1] 57 (0, 0)) (by (with_reducible repeat (first | refine bN ?_ _ | refine bD ?_ | refine bA ?_ _)); exact BK198.out) hg (Kd.N_away HO227.out (fun _ hk => hk.2))); have n3_ := Am (Kd.V_afterv (ok := (fun k_ => ((P0_ k_ ∨ P1_1_ k_) ∨ w.heap.size ≤ k_) ∧ k_ ≠ gb198)) (by (with_reducible repeat (first | apply Kd.V_alloc | apply Kd.V_drewN | apply Kd.V_drew)); exact HO232.out) hg hat); have n4_ := Am (hb); have n5_ := Am (ho); clear HO_0; clear HO_199001; clear BK198; clear HO232; clear HB; clear HO227; have HO_0 := n0_; have HO_199001 := n1_; have BK198 := n2_; have HO232 := n3_; have HB := n4_; have HO235 := n5_; clear n0_ n1_ n2_ n3_ n4_ n5_; clear ho hb hg hat))
             go_ret2
             exact ⟨_, by first | rfl | (simp [errW_none, errW_some] <;> rfl) | (simp [*, errW_none, errW_some] <;> rfl), by (with_reducible repeat (first | apply Kd.N_alloc | apply Kd.N_drewN | apply Kd.N_drew)); exact Kd.N_mono HO235.out (fun _ hk => hk.1), by repeat (first | (with_reducible first | exact HB.out | apply pA | apply pN | apply pD | refine pS ?_ GE198.out) | exact HB.out)⟩
            ·
             rw [if_neg c40] at H
             exact absurd H (by simp)
           ·
            rw [if_neg c39] at H
            exact absurd H (by simp)
          ·
           rw [if_neg c38] at H
           exact absurd H (by simp)
         ·
          rw [if_neg c37] at H
          exact absurd H (by simp)
     ·
      rw [if_neg c14] at H
      exact absurd H (by simp)
    ·
     rw [if_neg c13] at H
     exact absurd H (by simp)
   ·
    rw [if_neg c12] at H
    exact absurd H (by simp)

end Go.Proofs.Ytjnplfbggklkfaa.Rg
