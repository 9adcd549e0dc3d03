/- Texts of this claim, one behind the other: Rg35, RgRefB, Rg38, Rg39, RgRefC. -/
import Derived.Test.YtjnplfbggklkfaaEq1
import Derived.Test.YtjnplfbggklkfaaEq4
import Derived.Test.YtjnplfbggklkfaaEq3
import Derived.Test.YtjnplfbggklkfaaEq6

-- Written by a program of this claim's session: print.py's form, some functions told by hand.
namespace Go.Proofs.Ytjnplfbggklkfaa.Rg
open Go.RowKit Go.Proofs.YtjnplfbggklkfaaW.PrintWords Go.Proofs.YtjnplfbggklkfaaW.PrintLast Go.Proofs.YtjnplfbggklkfaaW.PrintMore
attribute [local go_sem] max2_int min2_int max_two min_two max_three min_three max_four min_four   -- for this text's walks alone
set_option linter.unusedVariables false
set_option linter.unusedSimpArgs false

/-! ### tenetref24_add: function 29 -/
def tenetref24_add.l0 : Nat → List (S57) → List (S57) → Int → Option ((List (S57)) × Bool)
 | 0, _, _, _ => none
 | k + 1, x1, x6, x7 => if x7 < (x1.length : Int) then (if 0 ≤ x7 then ((tenetref24_into.f k x6 ((rd_T57 x1 x7).f0) ((rd_T57 x1 x7).f1)).bind fun bt237 => (if bt237.2 = true then (tenetref24_add.l0 k x1 bt237.1 (wrap64 (x7 + 1))) else (some (([] : List (S57)), false)))) else (none)) else (some (x6, decide ((x6.length : Int) ≤ 200)))
def tenetref24_add.f (k : Nat) (l0 : List (S57)) (l1 : List (S57)) : Option ((List (S57)) × Bool) := tenetref24_add.l0 k l1 l0 0
theorem tenetref24_add.mono_l : ∀ k, (∀ y0 y1 y2, LeO (tenetref24_add.l0 k y0 y1 y2) (tenetref24_add.l0 (k + 1) y0 y1 y2))
 | 0 => fun _ _ _ r h => by simp [tenetref24_add.l0] at h
 | k + 1 => by
  have ih0 := tenetref24_add.mono_l k
  ·
   intro y0 y1 y2
   unfold tenetref24_add.l0
   repeat' first
   | (with_reducible exact ih0 _ _ _)
   | (with_reducible exact tenetref24_into.mono _ _ _ _)
   | (with_reducible exact LeO.refl _)
   | (with_reducible exact LeO.none _)
   | (with_reducible refine LeO.ite ?_ ?_)
   | (with_reducible refine LeO.bind ?_ (fun _ => ?_))
   | exact ih0 _ _ _
   | exact tenetref24_into.mono _ _ _ _
   | exact LeO.none _
   | refine LeO.ite ?_ ?_
   | refine LeO.bind ?_ (fun _ => ?_)
theorem tenetref24_add.mono : ∀ a0 a1 k, LeO (tenetref24_add.f k a0 a1) (tenetref24_add.f (k + 1) a0 a1) := by
 intro a0 a1 k
 have ih0 := tenetref24_add.mono_l k
 unfold tenetref24_add.f
 repeat' first
   | (with_reducible exact ih0 _ _ _)
   | (with_reducible exact tenetref24_into.mono _ _ _ _)
   | (with_reducible exact LeO.refl _)
   | (with_reducible exact LeO.none _)
   | (with_reducible refine LeO.ite ?_ ?_)
   | (with_reducible refine LeO.bind ?_ (fun _ => ?_))
   | exact ih0 _ _ _
   | exact tenetref24_into.mono _ _ _ _
   | exact LeO.none _
   | refine LeO.ite ?_ ?_
   | refine LeO.bind ?_ (fun _ => ?_)
set_option maxHeartbeats 8000000 in
set_option maxRecDepth 100000 in
theorem tenetref24_add.calls (k : Nat) (P0_ : Nat → Prop) (A0 : Option Addr) (c0 : Nat) (l0 : List (S57)) (P1_ : Nat → Prop) (A1 : Option Addr) (c1 : Nat) (l1 : List (S57)) (r1 : List (S57)) (r2 : Bool) (w : World) (hs0 : Kd.V k57 57 w w.heap.size (fun k_ => P0_ k_) (.slice A0 l0.length c0) l0) (hs1 : Kd.V k57 57 w w.heap.size (fun k_ => P1_ k_) (.slice A1 l1.length c1) l1) (h : tenetref24_add.f k l0 l1 = some (r1, r2)) :
  Calls Try.prog 29 #[.slice A0 l0.length c0, .slice A1 l1.length c1] w fun e w' => ∃ v0_ : Value, e = .returned (.tuple #[v0_, .bool r2]) ∧ Kd.V k57 57 w' w.heap.size (fun k_ => ((P0_ k_ ∨ P1_ k_) ∨ w.heap.size ≤ k_)) v0_ r1 ∧ Below w.heap.size w w' := by
 have hu57 := Try.underlying57
 have HO0 := Am (show Kd.V k57 57 w w.heap.size (fun k_ => ((P0_ k_ ∨ P1_ k_) ∨ w.heap.size ≤ k_)) (.slice A0 l0.length c0) l0 from Kd.V_mono hs0 (fun k_ hk => .inl (.inl hk)))
 have HO1 := Am (show Kd.V k57 57 w w.heap.size (fun k_ => ((P0_ k_ ∨ P1_ k_) ∨ w.heap.size ≤ k_)) (.slice A1 l1.length c1) l1 from Kd.V_mono hs1 (fun k_ hk => .inl (.inr hk)))
 have HB := Am (Below.refl w.heap.size w)
 have H : (tenetref24_add.l0 k l1 l0 0) = some (r1, r2) := h
 clear h
 have H' := Am H
 clear H
 go_enter Try.func29, Try.ntmps29
 go_wp2
 go_loopg [6, 7] k (fun kq v6 v7 w' => ∃ (x6_1 : List (S57)) (x7_1 : Int), v7 = .int .i64 x7_1 ∧ Aside0 (tenetref24_add.l0 kq l1 x6_1 x7_1 = some (r1, r2)) ∧ Aside0 (kq ≤ k) ∧ Aside0 (Kd.V k57 57 w' w.heap.size (fun k_ => ((P0_ k_ ∨ P1_ k_) ∨ w.heap.size ≤ k_)) (.slice A1 l1.length c1) l1) ∧ Aside0 (Kd.V k57 57 w' w.heap.size (fun k_ => ((P0_ k_ ∨ P1_ k_) ∨ w.heap.size ≤ k_)) v6 x6_1) ∧ Aside0 (Below w.heap.size w w'))
 case atStart => exact ⟨(l0), (0), (by first | rfl | (simp; done) | (simp [*]; done)), H', ⟨Nat.le_refl _⟩, ⟨by (with_reducible repeat (first | apply Kd.V_alloc | apply Kd.V_drewN | apply Kd.V_drew)); exact HO1.out⟩, ⟨by (with_reducible repeat (first | apply Kd.V_alloc | apply Kd.V_drewN | apply Kd.V_drew)); exact HO0.out⟩, ⟨by repeat (first | (with_reducible first | exact HB.out | apply pA | apply pN | apply pD) | exact HB.out)⟩⟩
 case round =>
  clear H'
  try clear c1
  try clear c2
  try clear p2
  obtain ⟨x6_1, x7_1, rfl, HA, HK1, HO_1, HO_6, HB⟩ := hrel
  cases gk with
  | zero => exact absurd HA.out (by simp [tenetref24_add.l0])
  | succ k1 =>
   have H := HA.out
   clear HA
   simp only [tenetref24_add.l0] at H
   by_cases c3 : x7_1 < (l1.length : Int)
   ·
    rw [if_pos c3] at H
    have c3b0 : decide (x7_1 < (l1.length : Int)) = true := decide_eq_true c3
    clear c3
    by_cases c4 : 0 ≤ x7_1
    ·
     rw [if_pos c4] at H
     have c4b0 : decide (0 ≤ x7_1) = true := decide_eq_true c4
     clear c4
     replace H := Option.bind_eq_some_iff.mp H
     obtain ⟨⟨t237, t240⟩, A50, H⟩ := H
     replace H : (if t240 = true then (tenetref24_add.l0 k1 l1 t237 (wrap64 (x7_1 + 1))) else (some (([] : List (S57)), false))) = some (r1, r2) := H
     have A5 := Am A50
     clear A50
     by_cases c6 : t240 = true
     ·
      subst c6
      have H1 : (tenetref24_add.l0 k1 l1 t237 (wrap64 (x7_1 + 1))) = some (r1, r2) := by rw [if_pos rfl] at H; exact H
      clear H
      have H := H1
      clear H1
      have H' := Am H
      clear H
      have p236 : 0 ≤ (x7_1 : Int) := of_decide_eq_true (by first | (with_reducible assumption) | assumption)
      have q236 : x7_1 < (l1.length : Int) := of_decide_eq_true (by first | (with_reducible assumption) | assumption)
      obtain ⟨ad236, A236_1, c236_1, e236, hx236_0, hx236_1, hl236_1, hi236_1⟩ := at_T57 (Kd.V_reads' HO_1.out).2.2 x7_1 p236 q236
      cases e236
      obtain ⟨ce236, hce236, hMe236, hcc236⟩ := Kd.V_get HO_1.out z57 x7_1 p236 (by first | exact q236 | exact of_decide_eq_true (by first | (with_reducible assumption) | assumption) | (have e_ := (Kd.V_reads' HO_1.out).1; omega))
      obtain ⟨ua236_1, uc236_1, rfl, ul236_1, ge236_1⟩ := k57_openF hMe236
      have hv236_1 := hcc236 1 _ rfl
      rw [add_field _ _ 1 (by omega)] at hv236_1
      replace hv236_1 := Option.some.inj (hv236_1.symm.trans hx236_1)
      injection hv236_1 with hva_ hvn_ hvc_
      rw [hva_] at ge236_1
      rw [hvc_] at ul236_1
      have HL236_1 := Am (show Kd.V (Kd.int .i64) 3 _ w.heap.size _ _ ((rd_T57 l1 x7_1).f1) from Kd.V_mk ul236_1 ge236_1)
      clear hva_ hvn_ hvc_ ge236_1 ul236_1
      clear hcc236 hce236
      have HR236_1 := Am hi236_1
      have HC236_1 := Am hl236_1
      clear hi236_1 hl236_1
      replace p236 := eq_true p236
      replace q236 := eq_true q236
      obtain ⟨Ao7, co7, eo7⟩ := Kd.V_slice HO_6.out
      subst eo7
      go_wp2_with (first | ((with_reducible refine gate_callee (f := 36) rfl ?_); refine goesL_ (some 23) rfl rfl Try.func36 (by kernel_rfl) rfl #[.slice Ao7 x6_1.length co7, .agg #[.int .i64 ((rd_T57 l1 x7_1).f0), .slice A236_1 ((rd_T57 l1 x7_1).f1).length c236_1]] rfl (by (try simp only [List.map_toArray, List.map_cons, List.map_nil]); first | done | rfl | (simp only [List.length_drop, List.length_take]; rfl)) ?_; (with_reducible refine (tenetref24_into.calls k1 (fun k_ => ((P0_ k_ ∨ P1_ k_) ∨ w.heap.size ≤ k_)) _ _ x6_1 ((rd_T57 l1 x7_1).f0) (fun k_ => ((P0_ k_ ∨ P1_ k_) ∨ w.heap.size ≤ k_)) _ _ ((rd_T57 l1 x7_1).f1) t237 true _ ?side1 ?side2 A5.out).mono ?_); (case side1 => exact HO_6.out); (case side2 => exact HL236_1.out); rintro e w8 ⟨v238, rfl, ho0, hb⟩; refine ⟨_, rfl, ?_⟩; have n0_ := Am (Kd.V_elder' (by (with_reducible repeat (first | apply Kd.V_alloc | apply Kd.V_drewN | apply Kd.V_drew)); exact HO_1.out) (Kd.N_base ho0) hb); have n1_ := Am (Kd.V_elder' (by (with_reducible repeat (first | apply Kd.V_alloc | apply Kd.V_drewN | apply Kd.V_drew)); exact HO_6.out) (Kd.N_base ho0) hb); have n2_ := Am (Kd.V_elder' (by (with_reducible repeat (first | apply Kd.V_alloc | apply Kd.V_drewN | apply Kd.V_drew)); exact HL236_1.out) (Kd.N_base ho0) hb); have n3_ := Am (Kd.N_lower (Kd.N_mono (ok' := fun k_ => ((P0_ k_ ∨ P1_ k_) ∨ w.heap.size ≤ k_)) ho0 (fun k_ hk_ => Or.elim hk_ (fun hs_ => Or.elim hs_ (fun hs_ => hs_) (fun hs_ => hs_)) (fun hn_ => (.inr (Nat.le_trans (below_size (by repeat (first | (with_reducible first | exact HB.out | apply pA | apply pN | apply pD) | exact HB.out))) hn_))))) (below_size (by repeat (first | (with_reducible first | exact HB.out | apply pA | apply pN | apply pD) | exact HB.out)))); have n4_ := Am (Kd.C_below (by repeat (first | (with_reducible exact HR236_1.out) | (with_reducible refine Kd.C_alloc ?_ _) | (with_reducible refine Kd.C_drewN ?_ _) | (with_reducible refine Kd.C_drew ?_) | exact HR236_1.out)) hb); have n5_ := Am (below_step (by repeat (first | (with_reducible first | exact HB.out | apply pA | apply pN | apply pD) | exact HB.out)) hb); clear HO_1; clear HO_6; clear HL236_1; clear HR236_1; clear HB; have HO_1 := n0_; have HO_6 := n1_; have HL236_1 := n2_; have HO239 := n3_; have HR236_1 := n4_; have HB := n5_; clear n0_ n1_ n2_ n3_ n4_ n5_; (try clear hb); (try clear hb2); (try clear hk); (try clear hi); (try clear ho0)))
      go_roundg k1
      case measure => have := HK1.out; omega
      case rel => exact ⟨(t237), (wrap64 (x7_1 + 1)), (by first | rfl | (simp; done) | (simp [*]; done)), H', ⟨by have := HK1.out; omega⟩, ⟨by (with_reducible repeat (first | apply Kd.V_alloc | apply Kd.V_drewN | apply Kd.V_drew)); exact Kd.V_mono HO_1.out (fun _ hk => hk.1)⟩, ⟨Kd.N_V (by (with_reducible repeat (first | apply Kd.N_alloc | apply Kd.N_drewN | apply Kd.N_drew)); exact HO239.out)⟩, ⟨by repeat (first | (with_reducible first | exact HB.out | apply pA | apply pN | apply pD) | exact HB.out)⟩⟩
     ·
      replace c6 := Bool.eq_false_iff.mpr c6
      subst c6
      have H1 : (some (([] : List (S57)), false)) = some (r1, r2) := by rw [if_neg (show ¬ (false = true) by decide)] at H; exact H
      clear H
      have H := H1
      clear H1
      simp only [Option.some.injEq, Prod.mk.injEq] at H
      obtain ⟨rfl, rfl⟩ := H
      have p236 : 0 ≤ (x7_1 : Int) := of_decide_eq_true (by first | (with_reducible assumption) | assumption)
      have q236 : x7_1 < (l1.length : Int) := of_decide_eq_true (by first | (with_reducible assumption) | assumption)
      obtain ⟨ad236, A236_1, c236_1, e236, hx236_0, hx236_1, hl236_1, hi236_1⟩ := at_T57 (Kd.V_reads' HO_1.out).2.2 x7_1 p236 q236
      cases e236
      obtain ⟨ce236, hce236, hMe236, hcc236⟩ := Kd.V_get HO_1.out z57 x7_1 p236 (by first | exact q236 | exact of_decide_eq_true (by first | (with_reducible assumption) | assumption) | (have e_ := (Kd.V_reads' HO_1.out).1; omega))
      obtain ⟨ua236_1, uc236_1, rfl, ul236_1, ge236_1⟩ := k57_openF hMe236
      have hv236_1 := hcc236 1 _ rfl
      rw [add_field _ _ 1 (by omega)] at hv236_1
      replace hv236_1 := Option.some.inj (hv236_1.symm.trans hx236_1)
      injection hv236_1 with hva_ hvn_ hvc_
      rw [hva_] at ge236_1
      rw [hvc_] at ul236_1
      have HL236_1 := Am (show Kd.V (Kd.int .i64) 3 _ w.heap.size _ _ ((rd_T57 l1 x7_1).f1) from Kd.V_mk ul236_1 ge236_1)
      clear hva_ hvn_ hvc_ ge236_1 ul236_1
      clear hcc236 hce236
      have HR236_1 := Am hi236_1
      have HC236_1 := Am hl236_1
      clear hi236_1 hl236_1
      replace p236 := eq_true p236
      replace q236 := eq_true q236
      obtain ⟨Ao9, co9, eo9⟩ := Kd.V_slice HO_6.out
      subst eo9
      go_wp2_with (first | ((with_reducible refine gate_callee (f := 36) rfl ?_); refine goesL_ (some 23) rfl rfl Try.func36 (by kernel_rfl) rfl #[.slice Ao9 x6_1.length co9, .agg #[.int .i64 ((rd_T57 l1 x7_1).f0), .slice A236_1 ((rd_T57 l1 x7_1).f1).length c236_1]] rfl (by (try simp only [List.map_toArray, List.map_cons, List.map_nil]); first | done | rfl | (simp only [List.length_drop, List.length_take]; rfl)) ?_; (with_reducible refine (tenetref24_into.calls k1 (fun k_ => ((P0_ k_ ∨ P1_ k_) ∨ w.heap.size ≤ k_)) _ _ x6_1 ((rd_T57 l1 x7_1).f0) (fun k_ => ((P0_ k_ ∨ P1_ k_) ∨ w.heap.size ≤ k_)) _ _ ((rd_T57 l1 x7_1).f1) t237 false _ ?side1 ?side2 A5.out).mono ?_); (case side1 => exact HO_6.out); (case side2 => exact HL236_1.out); rintro e w10 ⟨v238, rfl, ho0, hb⟩; refine ⟨_, rfl, ?_⟩; have n0_ := Am (Kd.V_elder' (by (with_reducible repeat (first | apply Kd.V_alloc | apply Kd.V_drewN | apply Kd.V_drew)); exact HO_1.out) (Kd.N_base ho0) hb); have n1_ := Am (Kd.V_elder' (by (with_reducible repeat (first | apply Kd.V_alloc | apply Kd.V_drewN | apply Kd.V_drew)); exact HO_6.out) (Kd.N_base ho0) hb); have n2_ := Am (Kd.V_elder' (by (with_reducible repeat (first | apply Kd.V_alloc | apply Kd.V_drewN | apply Kd.V_drew)); exact HL236_1.out) (Kd.N_base ho0) hb); have n3_ := Am (Kd.N_lower (Kd.N_mono (ok' := fun k_ => ((P0_ k_ ∨ P1_ k_) ∨ w.heap.size ≤ k_)) ho0 (fun k_ hk_ => Or.elim hk_ (fun hs_ => Or.elim hs_ (fun hs_ => hs_) (fun hs_ => hs_)) (fun hn_ => (.inr (Nat.le_trans (below_size (by repeat (first | (with_reducible first | exact HB.out | apply pA | apply pN | apply pD) | exact HB.out))) hn_))))) (below_size (by repeat (first | (with_reducible first | exact HB.out | apply pA | apply pN | apply pD) | exact HB.out)))); have n4_ := Am (Kd.C_below (by repeat (first | (with_reducible exact HR236_1.out) | (with_reducible refine Kd.C_alloc ?_ _) | (with_reducible refine Kd.C_drewN ?_ _) | (with_reducible refine Kd.C_drew ?_) | exact HR236_1.out)) hb); have n5_ := Am (below_step (by repeat (first | (with_reducible first | exact HB.out | apply pA | apply pN | apply pD) | exact HB.out)) hb); clear HO_1; clear HO_6; clear HL236_1; clear HR236_1; clear HB; have HO_1 := n0_; have HO_6 := n1_; have HL236_1 := n2_; have HO239 := n3_; have HR236_1 := n4_; have HB := n5_; clear n0_ n1_ n2_ n3_ n4_ n5_; (try clear hb); (try clear hb2); (try clear hk); (try clear hi); (try clear ho0)))
      go_ret2
      exact ⟨_, by first | rfl | (simp [errW_none, errW_some] <;> rfl) | (simp [*, errW_none, errW_some] <;> rfl), (by exact Kd.V_nil _ _ _ _ _), by repeat (first | (with_reducible first | exact HB.out | apply pA | apply pN | apply pD) | exact HB.out)⟩
    ·
     rw [if_neg c4] at H
     exact absurd H (by simp)
   ·
    rw [if_neg c3] at H
    have c3b0 : decide (x7_1 < (l1.length : Int)) = false := decide_eq_false c3
    clear c3
    simp only [Option.some.injEq, Prod.mk.injEq] at H
    obtain ⟨rfl, rfl⟩ := H
    obtain ⟨Ao11, co11, eo11⟩ := Kd.V_slice HO_6.out
    subst eo11
    go_wp2
    go_ret2
    exact ⟨_, by first | rfl | (simp [errW_none, errW_some] <;> rfl) | (simp [*, errW_none, errW_some] <;> rfl), by (with_reducible repeat (first | apply Kd.V_alloc | apply Kd.V_drewN | apply Kd.V_drew)); exact HO_6.out, by repeat (first | (with_reducible first | exact HB.out | apply pA | apply pN | apply pD) | exact HB.out)⟩

end Go.Proofs.Ytjnplfbggklkfaa.Rg

/- The reference's less, same, into, add, times and mul: what they come to on sorted lists. No walk here. -/
namespace Go.Proofs.Ytjnplfbggklkfaa
open Go.RowKit Go.Proofs.YtjnplfbggklkfaaW.PrintWords Go.Proofs.YtjnplfbggklkfaaW.PrintLast Go.Proofs.YtjnplfbggklkfaaW.PrintMore Go.Proofs.Ytjnplfbggklkfaa.Rg
set_option linter.unusedVariables false
set_option linter.unusedSimpArgs false

theorem rd_dropI {l : List Int} {i : Nat} (h : i < l.length) : ∃ a, l.drop i = a :: l.drop (i + 1) ∧ rd l (i : Int) = a := by
  refine ⟨l[i], List.drop_eq_getElem_cons h, ?_⟩
  unfold rd
  simp [List.getElem?_eq_getElem h]
theorem less_loop (u v : List Int) (hu : u.length = 8) (hv : v.length = 8) : ∀ (j i : Nat), i + j = 8 → Ev fun k => tenetref24_less.l0 k u v (i : Int) = some (less8 (u.drop i) (v.drop i))
  | 0, i, h => by
    refine Ev.succ (Ev.all fun k => ?_)
    unfold tenetref24_less.l0
    try dsimp only
    rw [if_neg (by omega), List.drop_eq_nil_of_le (by omega), List.drop_eq_nil_of_le (by omega)]
    rfl
  | j + 1, i, h => by
    obtain ⟨a, ha, ra⟩ := rd_dropI (l := u) (i := i) (by omega)
    obtain ⟨b, hb, rb⟩ := rd_dropI (l := v) (i := i) (by omega)
    refine Ev.succ ((less_loop u v hu hv j (i + 1) (by omega)).mono fun k e => ?_)
    unfold tenetref24_less.l0
    try dsimp only
    rw [if_pos (by omega), if_pos (by omega), if_pos (by omega), if_pos (by omega), ra, rb, ha, hb, less8]
    by_cases e' : a = b
    · rw [if_pos e', if_pos e', w64 (by omega) (by omega)]
      exact e
    · rw [if_neg e', if_neg e']
theorem less_eq {u v : List Int} (hu : u.length = 8) (hv : v.length = 8) : Ev fun k => tenetref24_less.f k u v = some (less8 u v) := less_loop u v hu hv 8 0 rfl
theorem same_eq {u v : List Int} (hu : u.length = 8) (hv : v.length = 8) : Ev fun k => tenetref24_same.f k u v = some (decide (u = v)) := by
  refine ((less_eq hu hv).and (less_eq hv hu)).mono fun k ⟨e1, e2⟩ => ?_
  unfold tenetref24_same.f
  rw [e1, e2, Option.bind_some, Option.bind_some]
  by_cases h : u = v
  · subst h
    rw [less8_irr]
    simp
  · cases h1 : less8 u v with
    | true => simp [h]
    | false =>
      cases h2 : less8 v u with
      | true => simp [h]
      | false => exact absurd (less8_tri u v (by omega) h1 h2) h
theorem rd_drop57 {l : List S57} {i : Nat} {x : S57} {s : List S57} (h : l.drop i = x :: s) : i < l.length ∧ rd_T57 l (i : Int) = x ∧ l.drop (i + 1) = s ∧ l.take (i + 1) = l.take i ++ [x] := by
  have hi : i < l.length := by
    by_cases hi : i < l.length
    · exact hi
    · rw [List.drop_eq_nil_of_le (by omega)] at h
      cases h
  rw [List.drop_eq_getElem_cons hi] at h
  injection h with h1 h2
  refine ⟨hi, ?_, h2, ?_⟩
  · rw [rd_T57, Int.toNat_natCast, List.getD_eq_getElem?_getD, List.getElem?_eq_getElem hi]
    exact h1
  · rw [List.take_add_one, List.getElem?_eq_getElem hi, h1]
    rfl
/-- An answer, or that there is none. -/
def outS : Option (List S57) → List S57 × Bool
  | none => ([], false)
  | some r => (r, true)
/-- The monomial stands at place i, or is put there. -/
theorem into_j2 (l : List S57) (c : Int) (e : List Int) (hl : l.length ≤ 1000000) (hc : 0 < c) (hc2 : c ≤ 1000000000000000) (i : Nat) (p : S57) (s : List S57) (hs : l.drop i = p :: s) (hp : 0 < p.f0) (hp2 : p.f0 ≤ 1000000000000000) :
    Ev fun k => tenetref24_into.j2 k l (i : Int) (l.take i) true c e = some (outS (if p.f0 > 1000000000000000 - c then none else some (l.take i ++ (⟨p.f0 + c, p.f1⟩ :: s)))) := by
  obtain ⟨hi, hr, hd, ht⟩ := rd_drop57 hs
  refine Ev.succ (Ev.all fun k => ?_)
  unfold tenetref24_into.j2
  try dsimp only
  have hlt : (l.take i).length = i := by simp; omega
  rw [if_pos rfl, if_pos (by omega), if_pos (by omega), hr, w64 (n := 1000000000000000 - c) (by omega) (by omega)]
  by_cases h1 : p.f0 > 1000000000000000 - c
  · rw [if_pos h1, if_pos h1]
    rfl
  · rw [if_neg h1, if_neg h1, if_pos (by omega), Option.bind_some, w64 (n := (i : Int) + 1) (by omega) (by omega), if_pos (by omega), if_pos (by omega), Option.bind_some, w64 (by omega) (by omega)]
    have e1 : ((i : Int) + 1).toNat = i + 1 := by omega
    rw [e1, hd]
    have hsl : s.length ≤ 1000000 := by rw [← hd]; simp; omega
    rw [if_pos (by simp; omega)]
    simp [outS]
theorem into_new (l : List S57) (c : Int) (e : List Int) (hl : l.length ≤ 1000000) (i : Nat) (hi : i ≤ l.length) :
    Ev fun k => tenetref24_into.j2 k l (i : Int) (l.take i) false c e = some (outS (some (l.take i ++ (⟨c, e⟩ :: l.drop i)))) := by
  refine Ev.succ (Ev.all fun k => ?_)
  unfold tenetref24_into.j2
  try dsimp only
  have hlt : (l.take i).length = i := by simp; omega
  rw [if_neg (by decide), if_pos (by omega), Option.bind_some, if_pos (by omega), if_pos (by omega), Option.bind_some, Int.toNat_natCast]
  have hdl : (l.drop i).length ≤ 1000000 := by simp; omega
  rw [if_pos (by simp; omega)]
  simp [outS]
theorem into_loop (l : List S57) (c : Int) (e : List Int) (hl : l.length ≤ 1000000) (hc : 0 < c) (hc2 : c ≤ 1000000000000000) (he : e.length = 8) (hent : ∀ p ∈ l, p.f1.length = 8 ∧ 0 < p.f0 ∧ p.f0 ≤ 1000000000000000) :
    ∀ (s : List S57) (i : Nat), l.drop i = s → i ≤ l.length → Ev fun k => tenetref24_into.l0 k l (i : Int) c e = some (outS ((insertS s c e).map (l.take i ++ ·)))
  | [], i, hs, hi => by
    have h0 := into_new l c e hl i hi
    have hlen : l.length ≤ i := by simpa using hs
    have hlt : (l.take i).length = i := by simp; omega
    refine Ev.succ (Ev.succ (h0.mono fun k h0 => ?_))
    unfold tenetref24_into.l0
    try dsimp only
    rw [if_neg (by omega)]
    unfold tenetref24_into.j1
    try dsimp only
    rw [if_pos (by omega), if_pos (by omega), Option.bind_some, Int.toNat_natCast, if_pos (by simp; omega), Option.bind_some, if_neg (by omega), List.nil_append, h0, hs]
    rfl
  | p :: s, i, hs, hi => by
    obtain ⟨hil, hr, hd, ht⟩ := rd_drop57 hs
    have hm : p ∈ l := by
      have : p ∈ l.drop i := by rw [hs]; simp
      exact List.mem_of_mem_drop this
    obtain ⟨hp8, hp0, hp2⟩ := hent p hm
    have hlt : (l.take i).length = i := by simp; omega
    have hle := less_eq hp8 he
    by_cases h1 : less8 p.f1 e = true
    · have ih := into_loop l c e hl hc hc2 he hent s (i + 1) hd (by omega)
      refine Ev.succ ((ih.and hle).mono fun k ⟨ih, hle⟩ => ?_)
      unfold tenetref24_into.l0
      try dsimp only
      rw [if_pos (by omega), if_pos (by omega), hr, hle, Option.bind_some, if_pos h1, w64 (by omega) (by omega)]
      have ih' : tenetref24_into.l0 k l ((i : Int) + 1) c e = _ := ih
      rw [ih', insertS, if_pos h1, ht, Option.map_map]
      congr 2
      congr 1
      funext r
      simp
    · have hsame := same_eq hp8 he
      have h2 := into_j2 l c e hl hc hc2 i p s hs hp0 hp2
      have h3 := into_new l c e hl i hi
      refine Ev.succ ((hle.and ?_).mono fun k (h : _ ∧ tenetref24_into.j1 k l (i : Int) c e = some (outS ((insertS (p :: s) c e).map (l.take i ++ ·)))) => ?_)
      · refine Ev.succ ((hsame.and (h2.and h3)).mono fun k ⟨hsame, h2, h3⟩ => ?_)
        unfold tenetref24_into.j1
        try dsimp only
        rw [if_pos (by omega), if_pos (by omega), Option.bind_some, Int.toNat_natCast, if_pos (by simp; omega), Option.bind_some, if_pos (by omega), hr, hsame, Option.bind_some, List.nil_append, insertS, if_neg h1]
        by_cases h4 : p.f1 = e
        · rw [decide_eq_true h4, h2, if_pos h4]
          split <;> rfl
        · rw [decide_eq_false h4, h3, if_neg h4, hs]
          rfl
      · obtain ⟨hle, hj⟩ := h
        unfold tenetref24_into.l0
        try dsimp only
        rw [if_pos (by omega), if_pos (by omega), hr, hle, Option.bind_some, if_neg h1, hj]
theorem into_eq {l : List S57} {c : Int} {e : List Int} (hl : l.length ≤ 1000000) (hc : 0 < c) (hc2 : c ≤ 1000000000000000) (he : e.length = 8) (ok : Okay l) : Ev fun k => tenetref24_into.f k l c e = some (outS (insertS l c e)) := by
  refine (into_loop l c e hl hc hc2 he (fun p hp => ⟨(ok.ent p hp).1, (ok.ent p hp).2.1, (ok.ent p hp).2.2.1⟩) l 0 rfl (by omega)).mono fun k h => ?_
  unfold tenetref24_into.f
  rw [show ((0 : Nat) : Int) = 0 from rfl] at h
  rw [h]
  simp
/-- The end of a sum or product. -/
def finS : Option (List S57) → List S57 × Bool
  | none => ([], false)
  | some r => (r, decide ((r.length : Int) ≤ 200))
theorem add_loop (x : List S57) (hx : Okay x) (hxl : x.length ≤ 1000000) : ∀ (s : List S57) (acc : List S57) (i : Nat), x.drop i = s → i ≤ x.length → Okay acc → acc.length + s.length ≤ 1000000 → Ev fun k => tenetref24_add.l0 k x acc (i : Int) = some (finS (foldS acc (asc s)))
  | [], acc, i, hs, hi, ok, hl => by
    have hlen : x.length ≤ i := by simpa using hs
    refine Ev.succ (Ev.all fun k => ?_)
    unfold tenetref24_add.l0
    try dsimp only
    rw [if_neg (by omega)]
    rfl
  | p :: s, acc, i, hs, hi, ok, hl => by
    obtain ⟨hil, hr, hd, ht⟩ := rd_drop57 hs
    have hm : p ∈ x := by
      have : p ∈ x.drop i := by rw [hs]; simp
      exact List.mem_of_mem_drop this
    obtain ⟨e8, e0, e1, e2⟩ := hx.ent p hm
    simp at hl
    have hin := into_eq (l := acc) (c := p.f0) (e := p.f1) (by omega) e0 e1 e8 ok
    have hnb : ¬ (p.f0 > 1000000000000000 ∨ ∃ v ∈ p.f1, 60 < v) := by
      rintro (h | ⟨v, h1, h2⟩)
      · omega
      · have := (e2 v h1).2
        omega
    have hf : foldS acc (asc (p :: s)) = (insertS acc p.f0 p.f1).bind fun r => foldS r (asc s) := by
      show (if p.f0 > 1000000000000000 ∨ ∃ v ∈ p.f1, 60 < v then none else (insertS acc p.f0 p.f1).bind fun r => foldS r (asc s)) = _
      rw [if_neg hnb]
    rw [hf]
    cases hi2 : insertS acc p.f0 p.f1 with
    | none =>
      rw [hi2] at hin
      refine Ev.succ (hin.mono fun k hin => ?_)
      unfold tenetref24_add.l0
      try dsimp only
      rw [if_pos (by omega), if_pos (by omega), hr, hin]
      rfl
    | some r =>
      rw [hi2] at hin
      obtain ⟨i1, _, _, i4⟩ := insertS_some ok e8 e0 e1 e2 hi2
      have ih := add_loop x hx hxl s r (i + 1) hd (by omega) i1 (by omega)
      refine Ev.succ ((hin.and ih).mono fun k ⟨hin, ih⟩ => ?_)
      unfold tenetref24_add.l0
      try dsimp only
      rw [if_pos (by omega), if_pos (by omega), hr, hin, Option.bind_some, w64 (by omega) (by omega)]
      exact ih
theorem add_eq {l x : List S57} (hl : Okay l) (hx : Okay x) (h1 : l.length ≤ 200) (h2 : x.length ≤ 200) : Ev fun k => tenetref24_add.f k l x = some (finS (foldS l (asc x))) :=
  add_loop x hx (by omega) x l 0 rfl (by omega) hl (by omega)
end Go.Proofs.Ytjnplfbggklkfaa

-- Written by a program of this claim's session: print.py's form, some functions told by hand.
namespace Go.Proofs.Ytjnplfbggklkfaa.Rg
open Go.RowKit Go.Proofs.YtjnplfbggklkfaaW.PrintWords Go.Proofs.YtjnplfbggklkfaaW.PrintLast Go.Proofs.YtjnplfbggklkfaaW.PrintMore
attribute [local go_sem] max2_int min2_int max_two min_two max_three min_three max_four min_four   -- for this text's walks alone
set_option linter.unusedVariables false
set_option linter.unusedSimpArgs false

/-! ### tenetref24_normal: function 20 -/
def tenetref24_normal.f : Nat → Int → Int → List (S24) → Option ((List (S57)) × Bool)
 | 0, _, _, _ => none
 | k + 1, a0_0, a0_1, l0_2 => if a0_0 = 1 then (if a0_1 = 0 then (some (([] : List (S57)), true)) else (if 8 ≤ 35184372088832 then (some ((([(⟨a0_1, (List.replicate 8 0)⟩ : S57)] : List (S57))), true)) else (none))) else (if a0_0 = 2 then (if 8 ≤ 35184372088832 then ((some (List.replicate 8 0 : List Int)).bind fun y269 => (if 0 ≤ a0_1 then (if a0_1 < (y269.length : Int) then (some ((([(⟨1, (y269.set (a0_1 : Int).toNat 1)⟩ : S57)] : List (S57))), true)) else (none)) else (none))) else (none)) else (if 0 < (l0_2.length : Int) then ((tenetref24_normal.f k ((rd_T24 l0_2 0).f0) ((rd_T24 l0_2 0).f1) ((rd_T24 l0_2 0).f2)).bind fun bt277 => (if bt277.2 = true then (if 1 < (l0_2.length : Int) then ((tenetref24_normal.f k ((rd_T24 l0_2 1).f0) ((rd_T24 l0_2 1).f1) ((rd_T24 l0_2 1).f2)).bind fun bt282 => (if bt282.2 = true then (if a0_0 = 3 then ((tenetref24_add.f k bt277.1 bt282.1).bind fun bt286 => (some (bt286.1, bt286.2))) else ((tenetref24_mul.f k bt277.1 bt282.1).bind fun bt290 => (some (bt290.1, bt290.2)))) else (some (([] : List (S57)), false)))) else (none)) else (some (([] : List (S57)), false)))) else (none)))
theorem tenetref24_normal.mono_l : ∀ k, (∀ y0 y1 y2, LeO (tenetref24_normal.f k y0 y1 y2) (tenetref24_normal.f (k + 1) y0 y1 y2))
 | 0 => fun _ _ _ r h => by simp [tenetref24_normal.f] at h
 | k + 1 => by
  have ih0 := tenetref24_normal.mono_l k
  ·
   intro y0 y1 y2
   unfold tenetref24_normal.f
   repeat' first
   | (with_reducible exact ih0 _ _ _)
   | (with_reducible exact tenetref24_add.mono _ _ _)
   | (with_reducible exact tenetref24_mul.mono _ _ _)
   | (with_reducible exact LeO.refl _)
   | (with_reducible exact LeO.none _)
   | (with_reducible refine LeO.ite ?_ ?_)
   | (with_reducible refine LeO.bind ?_ (fun _ => ?_))
   | exact ih0 _ _ _
   | exact tenetref24_add.mono _ _ _
   | exact tenetref24_mul.mono _ _ _
   | exact LeO.none _
   | refine LeO.ite ?_ ?_
   | refine LeO.bind ?_ (fun _ => ?_)
theorem tenetref24_normal.mono : ∀ a0 a1 a2 k, LeO (tenetref24_normal.f k a0 a1 a2) (tenetref24_normal.f (k + 1) a0 a1 a2) := by
 intro a0 a1 a2 k
 have ih0 := tenetref24_normal.mono_l k
 exact ih0 a0 a1 a2
set_option maxHeartbeats 8000000 in
set_option maxRecDepth 100000 in
theorem tenetref24_normal.calls (k : Nat) : ∀ (a0_0 : Int) (a0_1 : Int) (A0_2 : Option Addr) (c0_2 : Nat) (l0_2 : List (S24)) (r1 : List (S57)) (r2 : Bool) (w : World) (hr0_2 : Kd.C k24 w A0_2 l0_2.length l0_2) (hc0_2 : l0_2.length ≤ c0_2) (h : tenetref24_normal.f k a0_0 a0_1 l0_2 = some (r1, r2)),
  Calls Try.prog 20 #[.agg #[.int .i64 a0_0, .int .i64 a0_1, .slice A0_2 l0_2.length c0_2]] w fun e w' => ∃ v0_ : Value, e = .returned (.tuple #[v0_, .bool r2]) ∧ Kd.V k57 57 w' w.heap.size (fun k_ => (w.heap.size ≤ k_)) v0_ r1 ∧ Below w.heap.size w w' := by
 induction k using Nat.strongRecOn with
 | _ k ih =>
 intro a0_0 a0_1 A0_2 c0_2 l0_2 r1 r2 w hr0_2 hc0_2 h
 cases k with
 | zero => exact absurd h (by simp [tenetref24_normal.f])
 | succ k =>
 simp only [tenetref24_normal.f] at h
 have hu24 := Try.underlying24
 have hu57 := Try.underlying57
 have HR0_2 := Am hr0_2
 have HC0_2 := Am hc0_2
 clear hr0_2 hc0_2
 have HB := Am (Below.refl w.heap.size w)
 have H : (if a0_0 = 1 then (if a0_1 = 0 then (some (([] : List (S57)), true)) else (if 8 ≤ 35184372088832 then (some ((([(⟨a0_1, (List.replicate 8 0)⟩ : S57)] : List (S57))), true)) else (none))) else (if a0_0 = 2 then (if 8 ≤ 35184372088832 then ((some (List.replicate 8 0 : List Int)).bind fun y269 => (if 0 ≤ a0_1 then (if a0_1 < (y269.length : Int) then (some ((([(⟨1, (y269.set (a0_1 : Int).toNat 1)⟩ : S57)] : List (S57))), true)) else (none)) else (none))) else (none)) else (if 0 < (l0_2.length : Int) then ((tenetref24_normal.f k ((rd_T24 l0_2 0).f0) ((rd_T24 l0_2 0).f1) ((rd_T24 l0_2 0).f2)).bind fun bt277 => (if bt277.2 = true then (if 1 < (l0_2.length : Int) then ((tenetref24_normal.f k ((rd_T24 l0_2 1).f0) ((rd_T24 l0_2 1).f1) ((rd_T24 l0_2 1).f2)).bind fun bt282 => (if bt282.2 = true then (if a0_0 = 3 then ((tenetref24_add.f k bt277.1 bt282.1).bind fun bt286 => (some (bt286.1, bt286.2))) else ((tenetref24_mul.f k bt277.1 bt282.1).bind fun bt290 => (some (bt290.1, bt290.2)))) else (some (([] : List (S57)), false)))) else (none)) else (some (([] : List (S57)), false)))) else (none)))) = some (r1, r2) := h
 clear h
 by_cases c2 : a0_0 = 1
 ·
  rw [if_pos c2] at H
  have c2b0 : (a0_0 == 1) = true := beq_iff_eq.mpr c2
  have c2b1 : (a0_0 != 1) = false := bne_eq_false_iff_eq.mpr c2
  clear c2
  by_cases c3 : a0_1 = 0
  ·
   rw [if_pos c3] at H
   have c3b0 : (a0_1 == 0) = true := beq_iff_eq.mpr c3
   have c3b1 : (a0_1 != 0) = false := bne_eq_false_iff_eq.mpr c3
   clear c3
   simp only [Option.some.injEq, Prod.mk.injEq] at H
   obtain ⟨rfl, rfl⟩ := H
   go_enter Try.func20, Try.ntmps20
   go_wp2_with (first | ((with_reducible refine gate_dst (N := 1) rfl ?_); refine box_event ?hg (N := 1) ?hd (cs := #[.int .i64 a0_0, .int .i64 a0_1, .slice A0_2 l0_2.length c0_2]) (t := 24) ?hr ?_; (case hd => rfl); (case hg => rfl); (case hr => first | (go_simp; done) | (go_simp; rfl)); intro gb262 hg w4 hbox hb; have n0_ := Am (below_step (by repeat (first | (with_reducible first | exact HB.out | apply pA | apply pN | apply pD) | exact HB.out)) hb); have n1_ := Am (hbox); have n2_ := Am ((by rw [hg]; exact (below_size (by repeat (first | (with_reducible first | exact HB.out | apply pA | apply pN | apply pD) | exact HB.out))) : w.heap.size ≤ gb262)); have n3_ := Am ((by rw [hg]; exact (below_size (by repeat (first | (with_reducible first | exact HB.out | apply pA | apply pN | apply pD) | exact HB.out))) : w.heap.size ≤ gb262)); clear HB; have HB := n0_; have BK262 := n1_; have GW262 := n2_; have GE262 := n3_; clear n0_ n1_ n2_ n3_; clear hb hbox hg; have hcz5_0 : w4.cell? ⟨gb262, 0, none⟩ = some (.int .i64 a0_0) := (blk_cell BK262.out 0).trans rfl; have hcz5_1 : w4.cell? ⟨gb262, 1, none⟩ = some (.int .i64 a0_1) := (blk_cell BK262.out 1).trans rfl; have hcz5_2 : w4.cell? ⟨gb262, 2, none⟩ = some (.slice A0_2 l0_2.length c0_2) := (blk_cell BK262.out 2).trans rfl; have hfz5_0 := blk_frozen BK262.out 0; have hfz5_1 := blk_frozen BK262.out 1; have hfz5_2 := blk_frozen BK262.out 2))
   go_ret2
   exact ⟨_, by first | rfl | (simp [errW_none, errW_some] <;> rfl) | (simp [*, errW_none, errW_some] <;> rfl), (by exact Kd.V_nil _ _ _ _ _), by repeat (first | (with_reducible first | exact HB.out | apply pA | apply pN | apply pD | refine pS ?_ GE262.out) | exact HB.out)⟩
  ·
   rw [if_neg c3] at H
   have c3b0 : (a0_1 == 0) = false := beq_eq_false_iff_ne.mpr c3
   have c3b1 : (a0_1 != 0) = true := bne_iff_ne.mpr c3
   by_cases c6 : 8 ≤ 35184372088832
   ·
    rw [if_pos c6] at H
    have c6b0 := eq_true c6
    have c6b1 : decide (8 ≤ 35184372088832) = true := decide_eq_true c6
    clear c6
    obtain ⟨y263, hy263⟩ : ∃ y_ : List Int, y_ = (List.replicate 8 0) := ⟨_, rfl⟩
    replace H : (some ((([(⟨a0_1, y263⟩ : S57)] : List (S57))), true)) = some (r1, r2) := by first | (rw [hy263]; with_reducible exact H) | (have H2_ := (Option.bind_some _ _).symm.trans H; rw [hy263]; with_reducible exact H2_) | (have H2_ := (Option.bind_some _ _).symm.trans H; with_reducible exact H2_) | with_reducible exact H | (rw [hy263]; exact H) | exact H
    have Ny263 := Am hy263
    clear hy263
    obtain ⟨y266, hy266⟩ : ∃ y_ : List (S57), y_ = (([(⟨a0_1, y263⟩ : S57)] : List (S57))) := ⟨_, rfl⟩
    replace H : (some (y266, true)) = some (r1, r2) := by first | (rw [hy266]; with_reducible exact H) | (have H2_ := (Option.bind_some _ _).symm.trans H; rw [hy266]; with_reducible exact H2_) | (have H2_ := (Option.bind_some _ _).symm.trans H; with_reducible exact H2_) | with_reducible exact H | (rw [hy266]; exact H) | exact H
    have Ny266 := Am hy266
    clear hy266
    simp only [Option.some.injEq, Prod.mk.injEq] at H
    obtain ⟨rfl, rfl⟩ := H
    go_enter Try.func20, Try.ntmps20
    try go_wp2_with (first | ((with_reducible refine gate_dst (N := 1) rfl ?_); refine box_event ?hg (N := 1) ?hd (cs := #[.int .i64 a0_0, .int .i64 a0_1, .slice A0_2 l0_2.length c0_2]) (t := 24) ?hr ?_; (case hd => rfl); (case hg => rfl); (case hr => first | (go_simp; done) | (go_simp; rfl)); intro gb262 hg w7 hbox hb; have n0_ := Am (below_step (by repeat (first | (with_reducible first | exact HB.out | apply pA | apply pN | apply pD) | exact HB.out)) hb); have n1_ := Am (hbox); have n2_ := Am ((by rw [hg]; exact (below_size (by repeat (first | (with_reducible first | exact HB.out | apply pA | apply pN | apply pD) | exact HB.out))) : w.heap.size ≤ gb262)); have n3_ := Am ((by rw [hg]; exact (below_size (by repeat (first | (with_reducible first | exact HB.out | apply pA | apply pN | apply pD) | exact HB.out))) : w.heap.size ≤ gb262)); clear HB; have HB := n0_; have BK262 := n1_; have GW262 := n2_; have GE262 := n3_; clear n0_ n1_ n2_ n3_; clear hb hbox hg; have hcz8_0 : w7.cell? ⟨gb262, 0, none⟩ = some (.int .i64 a0_0) := (blk_cell BK262.out 0).trans rfl; have hcz8_1 : w7.cell? ⟨gb262, 1, none⟩ = some (.int .i64 a0_1) := (blk_cell BK262.out 1).trans rfl; have hcz8_2 : w7.cell? ⟨gb262, 2, none⟩ = some (.slice A0_2 l0_2.length c0_2) := (blk_cell BK262.out 2).trans rfl; have hfz8_0 := blk_frozen BK262.out 0; have hfz8_1 := blk_frozen BK262.out 1; have hfz8_2 := blk_frozen BK262.out 2))
    have n0_ := Am (bD BK262.out)
    have n1_ := Am (pD HB.out)
    clear BK262
    clear HB
    have BK262 := n0_
    have HB := n1_
    clear n0_ n1_
    refine start_ (n := 7) (S := fun w' => w'.cell? ⟨gb262, 0, none⟩ = some (.int .i64 a0_0) ∧ w'.cell? ⟨gb262, 1, none⟩ = some (.int .i64 a0_1) ∧ w'.cell? ⟨gb262, 2, none⟩ = some (.slice A0_2 l0_2.length c0_2)) (ds := []) #[false, false, false, false, false, false, false] (by kernel_rfl) rfl rfl ⟨(blk_cell BK262.out 0).trans rfl, (blk_cell BK262.out 1).trans rfl, (blk_cell BK262.out 2).trans rfl⟩ (fun hHeld => ?_)
    generalize w7.drew = w9 at BK262 HB hHeld ⊢
    refine pure_ (i := 0) (N := some 16) (v := ?_) (a' := ?_) #[true, false, false, false, false, false, false] rfl rfl (by kernel_rfl) (fun _ _ _ h => h) (Or.inl ⟨by rfl, ?_⟩) ?_ ?_
    rotate_left
    ·
     intro w'
     go_simp
     with_reducible rfl
    rotate_left
    ·
     simp only [Act.put, List.setIfInBounds_toArray, List.set_cons_zero, List.set_cons_succ, i64_w, i32_w]
     rfl
    refine take_ (i := 1) (N := some 17) (v := ?_) (a' := ?_) #[true, true, false, false, false, false, false] rfl rfl (by kernel_rfl) (fun _ _ _ h => h) (Or.inl ⟨by rfl, ?_⟩) hHeld ?_ ?_
    rotate_left
    ·
     rintro w' ⟨s0, s1, s2⟩
     go_simp
     with_reducible rfl
    rotate_left
    ·
     simp only [Act.put, List.setIfInBounds_toArray, List.set_cons_zero, List.set_cons_succ, i64_w, i32_w]
     rfl
    refine one_ (i := 2) (N := some 18) #[true, true, true, false, false, false, false] rfl rfl (by kernel_rfl) (by decide) (fun K hK => ?_)
    refine Kd.R_make_step (Kd.int .i64) _ 3 (by rfl) (N := 18) rfl 33 _ _ rfl 8 rfl rfl Try.underlying33 (.int .i64 0) 8 info3 rfl (by decide) (by omega) 0 (ok := fun _ => True) (okp := fun _ => True) rfl (fun _ hk => hk) trivial (by omega) (by omega) (Below.refl _ _) (Nat.le_refl _) ?_
    intro v264 w10 ho11 hb hg_ hnew_
    clear hg_ hnew_
    (first | rw [← Ny263.out] at ho11 | (simp only [Int.reduceToNat] at ho11; rw [← Ny263.out] at ho11))
    have n0_ := Am (Kd.R_lower (Kd.R_newM (M := fun k_ => (w.heap.size ≤ k_)) ho11 (below_size (by repeat (first | (with_reducible first | exact HB.out | apply pA | apply pN | apply pD | refine pS ?_ GE262.out) | exact HB.out))) (fun k_ h_ => h_)) (below_size (by repeat (first | (with_reducible first | exact HB.out | apply pA | apply pN | apply pD | refine pS ?_ GE262.out) | exact HB.out))))
    have n1_ := Am (blk_below (g := gb262) (o := .cells #[.int .i64 a0_0, .int .i64 a0_1, .slice A0_2 l0_2.length c0_2] 24 (0, 0)) (by (with_reducible repeat (first | refine bN ?_ _ | refine bD ?_ | refine bA ?_ _)); exact BK262.out) hb)
    have n2_ := Am (below_step (by repeat (first | (with_reducible first | exact HB.out | apply pA | apply pN | apply pD | refine pS ?_ GE262.out) | exact HB.out)) hb)
    clear BK262
    clear HB
    have HO265 := n0_
    have BK262 := n1_
    have HB := n2_
    clear n0_ n1_ n2_
    clear hb ho11
    obtain ⟨Ao12, co12, eo12⟩ := Kd.R_slice HO265.out
    (first | subst eo12 | (injection eo12 with f1_ f2_ f3_; have f4_ := f1_.symm; have f5_ := f3_.symm; clear f1_ f2_ f3_; subst f4_; subst f5_))
    refine hK.out _ _ ⟨(blk_cell BK262.out 0).trans rfl, (blk_cell BK262.out 1).trans rfl, (blk_cell BK262.out 2).trans rfl⟩ (fun hHeld => ?_)
    clear hK K
    refine norm_ (a' := ?_) ?_ ?_
    rotate_left
    ·
     show Act.put _ (some 18) _ = _
     simp only [Act.put, List.setIfInBounds_toArray, List.set_cons_zero, List.set_cons_succ, i64_w, i32_w]
     rfl
    refine pure_ (i := 3) (N := some 19) (v := ?_) (a' := ?_) #[true, true, true, true, false, false, false] rfl rfl (by kernel_rfl) (fun _ _ _ h => h) (Or.inl ⟨by rfl, ?_⟩) ?_ ?_
    rotate_left
    ·
     intro w'
     go_simp
     with_reducible rfl
    rotate_left
    ·
     simp only [Act.put, List.setIfInBounds_toArray, List.set_cons_zero, List.set_cons_succ, i64_w, i32_w]
     rfl
    refine one_ (i := 4) (N := some 20) #[true, true, true, true, true, false, false] rfl rfl (by kernel_rfl) (by decide) (fun K hK => ?_)
    refine Kd.N_lit_step k57 _ 57 ?hg (N' := 20) ?hd (xs := ([(⟨a0_1, y263⟩ : S57)] : List (S57))) (inner := [.int .i64 a0_1, .slice Ao12 y263.length co12]) (ok := (fun k_ => (w.heap.size ≤ k_) ∧ k_ ≠ gb262)) (okp := (fun k_ => (w.heap.size ≤ k_) ∧ k_ ≠ gb262)) ?hr ?hp (fun _ hk => hk) ((show ∀ k_, w10.heap.size ≤ k_ → (fun k_ => (w.heap.size ≤ k_) ∧ k_ ≠ gb262) k_ from fun k_ hk => ⟨(Nat.le_trans (below_size (by repeat (first | (with_reducible first | exact HB.out | apply pA | apply pN | apply pD | refine pS ?_ GE262.out) | exact HB.out))) hk), Kd.freshB (g := gb262) (o := .cells #[.int .i64 a0_0, .int .i64 a0_1, .slice A0_2 l0_2.length c0_2] 24 (0, 0)) (by (with_reducible repeat (first | refine bN ?_ _ | refine bD ?_ | refine bA ?_ _)); exact BK262.out) k_ hk⟩) _ (Nat.le_refl _)) (Below.refl _ _) (Nat.le_refl _) (by simp) ?_; (case hd => rfl); (case hg => rfl); (case hr => first | (go_simp; done) | (go_simp; rfl)); (case hp => exact (Reps.c2 (show Kd.FK k57 _ _ (⟨a0_1, y263⟩ : S57) [.int .i64 a0_1, .slice Ao12 y263.length co12] from (k57_mkF _ _ (⟨a0_1, y263⟩ : S57) (Kd.R_reads' (Kd.R_mono (ok' := (fun k_ => (w.heap.size ≤ k_) ∧ k_ ≠ gb262)) (Kd.R_types (HO265.out) BK262.out (by decide)) (fun k_ hk => ⟨hk.1.1, hk.2⟩))).2.1 (Kd.R_F (Kd.R_mono (ok' := (fun k_ => (w.heap.size ≤ k_) ∧ k_ ≠ gb262)) (Kd.R_types (HO265.out) BK262.out (by decide)) (fun k_ hk => ⟨hk.1.1, hk.2⟩))))) (Reps.none _ _)))
    intro v267 w13 ho14 hb hg_ hnew_
    clear hg_ hnew_
    (first | rw [← Ny266.out] at ho14 | (simp only [Int.reduceToNat] at ho14; rw [← Ny266.out] at ho14))
    have n0_ := Am (Kd.N_lower ho14 (below_size (by repeat (first | (with_reducible first | exact HB.out | apply pA | apply pN | apply pD | refine pS ?_ GE262.out) | exact HB.out))))
    have n1_ := Am (blk_below (g := gb262) (o := .cells #[.int .i64 a0_0, .int .i64 a0_1, .slice A0_2 l0_2.length c0_2] 24 (0, 0)) (by (with_reducible repeat (first | refine bN ?_ _ | refine bD ?_ | refine bA ?_ _)); exact BK262.out) hb)
    have n2_ := Am (below_step (by repeat (first | (with_reducible first | exact HB.out | apply pA | apply pN | apply pD | refine pS ?_ GE262.out) | exact HB.out)) hb)
    clear BK262
    clear HB
    clear HO265
    have HO268 := n0_
    have BK262 := n1_
    have HB := n2_
    clear n0_ n1_ n2_
    clear hb ho14
    refine hK.out _ _ ⟨(blk_cell BK262.out 0).trans rfl, (blk_cell BK262.out 1).trans rfl, (blk_cell BK262.out 2).trans rfl⟩ (fun hHeld => ?_)
    clear hK K
    refine norm_ (a' := ?_) ?_ ?_
    rotate_left
    ·
     show Act.put _ (some 20) _ = _
     simp only [Act.put, List.setIfInBounds_toArray, List.set_cons_zero, List.set_cons_succ, i64_w, i32_w]
     rfl
    refine pure_ (i := 5) (N := some 2) (v := ?_) (a' := ?_) #[true, true, true, true, true, true, false] rfl rfl (by kernel_rfl) (fun _ _ _ h => h) (Or.inl ⟨by rfl, ?_⟩) ?_ ?_
    rotate_left
    ·
     intro w'
     go_simp
     with_reducible rfl
    rotate_left
    ·
     simp only [Act.put, List.setIfInBounds_toArray, List.set_cons_zero, List.set_cons_succ, i64_w, i32_w]
     rfl
    refine pure_ (i := 6) (N := some 3) (v := ?_) (a' := ?_) #[true, true, true, true, true, true, true] rfl rfl (by kernel_rfl) (fun _ _ _ h => h) (Or.inl ⟨by rfl, ?_⟩) ?_ ?_
    rotate_left
    ·
     intro w'
     go_simp
     with_reducible rfl
    rotate_left
    ·
     simp only [Act.put, List.setIfInBounds_toArray, List.set_cons_zero, List.set_cons_succ, i64_w, i32_w]
     rfl
    refine done_ (by kernel_rfl) ?_
    try go_wp2
    go_ret2
    exact ⟨_, by first | rfl | (simp [errW_none, errW_some] <;> rfl) | (simp [*, errW_none, errW_some] <;> rfl), Kd.N_V (by (with_reducible repeat (first | apply Kd.N_alloc | apply Kd.N_drewN | apply Kd.N_drew)); exact Kd.N_mono HO268.out (fun _ hk => hk.1)), by repeat (first | (with_reducible first | exact HB.out | apply pA | apply pN | apply pD | refine pS ?_ GE262.out) | exact HB.out)⟩
   ·
    rw [if_neg c6] at H
    exact absurd H (by simp)
 ·
  rw [if_neg c2] at H
  have c2b0 : (a0_0 == 1) = false := beq_eq_false_iff_ne.mpr c2
  have c2b1 : (a0_0 != 1) = true := bne_iff_ne.mpr c2
  by_cases c15 : a0_0 = 2
  ·
   rw [if_pos c15] at H
   have c15b0 : (a0_0 == 2) = true := beq_iff_eq.mpr c15
   have c15b1 : (a0_0 != 2) = false := bne_eq_false_iff_eq.mpr c15
   clear c15
   by_cases c16 : 8 ≤ 35184372088832
   ·
    rw [if_pos c16] at H
    have c16b0 := eq_true c16
    have c16b1 : decide (8 ≤ 35184372088832) = true := decide_eq_true c16
    clear c16
    obtain ⟨y269, hy269⟩ : ∃ y_ : List Int, y_ = (List.replicate 8 0) := ⟨_, rfl⟩
    replace H : (if 0 ≤ a0_1 then (if a0_1 < (y269.length : Int) then (some ((([(⟨1, (y269.set (a0_1 : Int).toNat 1)⟩ : S57)] : List (S57))), true)) else (none)) else (none)) = some (r1, r2) := by first | (rw [hy269]; with_reducible exact H) | (have H2_ := (Option.bind_some _ _).symm.trans H; rw [hy269]; with_reducible exact H2_) | (have H2_ := (Option.bind_some _ _).symm.trans H; with_reducible exact H2_) | with_reducible exact H | (rw [hy269]; exact H) | exact H
    have Ny269 := Am hy269
    clear hy269
    by_cases c17 : 0 ≤ a0_1
    ·
     rw [if_pos c17] at H
     have c17b0 : decide (0 ≤ a0_1) = true := decide_eq_true c17
     clear c17
     by_cases c18 : a0_1 < (y269.length : Int)
     ·
      rw [if_pos c18] at H
      have c18b0 : decide (a0_1 < (y269.length : Int)) = true := decide_eq_true c18
      clear c18
      obtain ⟨y272, hy272⟩ : ∃ y_ : List Int, y_ = (y269.set (a0_1 : Int).toNat 1) := ⟨_, rfl⟩
      replace H : (some ((([(⟨1, y272⟩ : S57)] : List (S57))), true)) = some (r1, r2) := by first | (rw [hy272]; with_reducible exact H) | (have H2_ := (Option.bind_some _ _).symm.trans H; rw [hy272]; with_reducible exact H2_) | (have H2_ := (Option.bind_some _ _).symm.trans H; with_reducible exact H2_) | with_reducible exact H | (rw [hy272]; exact H) | exact H
      have Ny272 := Am hy272
      clear hy272
      obtain ⟨y273, hy273⟩ : ∃ y_ : List (S57), y_ = (([(⟨1, y272⟩ : S57)] : List (S57))) := ⟨_, rfl⟩
      replace H : (some (y273, true)) = some (r1, r2) := by first | (rw [hy273]; with_reducible exact H) | (have H2_ := (Option.bind_some _ _).symm.trans H; rw [hy273]; with_reducible exact H2_) | (have H2_ := (Option.bind_some _ _).symm.trans H; with_reducible exact H2_) | with_reducible exact H | (rw [hy273]; exact H) | exact H
      have Ny273 := Am hy273
      clear hy273
      simp only [Option.some.injEq, Prod.mk.injEq] at H
      obtain ⟨rfl, rfl⟩ := H
      go_enter Try.func20, Try.ntmps20
      go_wp2_with (first | ((with_reducible refine gate_dst (N := 1) rfl ?_); refine box_event ?hg (N := 1) ?hd (cs := #[.int .i64 a0_0, .int .i64 a0_1, .slice A0_2 l0_2.length c0_2]) (t := 24) ?hr ?_; (case hd => rfl); (case hg => rfl); (case hr => first | (go_simp; done) | (go_simp; rfl)); intro gb262 hg w20 hbox hb; have n0_ := Am (below_step (by repeat (first | (with_reducible first | exact HB.out | apply pA | apply pN | apply pD) | exact HB.out)) hb); have n1_ := Am (hbox); have n2_ := Am ((by rw [hg]; exact (below_size (by repeat (first | (with_reducible first | exact HB.out | apply pA | apply pN | apply pD) | exact HB.out))) : w.heap.size ≤ gb262)); have n3_ := Am ((by rw [hg]; exact (below_size (by repeat (first | (with_reducible first | exact HB.out | apply pA | apply pN | apply pD) | exact HB.out))) : w.heap.size ≤ gb262)); clear HB; have HB := n0_; have BK262 := n1_; have GW262 := n2_; have GE262 := n3_; clear n0_ n1_ n2_ n3_; clear hb hbox hg; have hcz21_0 : w20.cell? ⟨gb262, 0, none⟩ = some (.int .i64 a0_0) := (blk_cell BK262.out 0).trans rfl; have hcz21_1 : w20.cell? ⟨gb262, 1, none⟩ = some (.int .i64 a0_1) := (blk_cell BK262.out 1).trans rfl; have hcz21_2 : w20.cell? ⟨gb262, 2, none⟩ = some (.slice A0_2 l0_2.length c0_2) := (blk_cell BK262.out 2).trans rfl; have hfz21_0 := blk_frozen BK262.out 0; have hfz21_1 := blk_frozen BK262.out 1; have hfz21_2 := blk_frozen BK262.out 2) | ((with_reducible refine gate_dst (N := 23) rfl ?_); refine Kd.R_make (Kd.int .i64) _ 3 rfl (N := 23) rfl 33 _ _ rfl 8 rfl rfl Try.underlying33 (.int .i64 0) 8 info3 rfl (by decide) (by omega) 0 (ok := fun _ => True) (okp := fun _ => True) rfl (fun _ hk => hk) trivial (by omega) (by omega) (Below.refl _ _) (Nat.le_refl _) ?_; intro v270 w22 ho23 hb hg_ hnew_; clear hg_ hnew_; (first | rw [← Ny269.out] at ho23 | (simp only [Int.reduceToNat] at ho23; rw [← Ny269.out] at ho23)); have n0_ := Am (Kd.R_lower (Kd.R_newM (M := fun k_ => (w.heap.size ≤ k_)) ho23 (below_size (by repeat (first | (with_reducible first | exact HB.out | apply pA | apply pN | apply pD | refine pS ?_ GE262.out) | exact HB.out))) (fun k_ h_ => h_)) (below_size (by repeat (first | (with_reducible first | exact HB.out | apply pA | apply pN | apply pD | refine pS ?_ GE262.out) | exact HB.out)))); have n1_ := Am (blk_below (g := gb262) (o := .cells #[.int .i64 a0_0, .int .i64 a0_1, .slice A0_2 l0_2.length c0_2] 24 (0, 0)) (by (with_reducible repeat (first | refine bN ?_ _ | refine bD ?_ | refine bA ?_ _)); exact BK262.out) hb); have n2_ := Am (below_step (by repeat (first | (with_reducible first | exact HB.out | apply pA | apply pN | apply pD | refine pS ?_ GE262.out) | exact HB.out)) hb); clear BK262; clear HB; have HO271 := n0_; have BK262 := n1_; have HB := n2_; clear n0_ n1_ n2_; clear hb ho23; have hcz24_0 : w22.cell? ⟨gb262, 0, none⟩ = some (.int .i64 a0_0) := (blk_cell BK262.out 0).trans rfl; have hcz24_1 : w22.cell? ⟨gb262, 1, none⟩ = some (.int .i64 a0_1) := (blk_cell BK262.out 1).trans rfl; have hcz24_2 : w22.cell? ⟨gb262, 2, none⟩ = some (.slice A0_2 l0_2.length c0_2) := (blk_cell BK262.out 2).trans rfl; have hfz24_0 := blk_frozen BK262.out 0; have hfz24_1 := blk_frozen BK262.out 1; have hfz24_2 := blk_frozen BK262.out 2; have p19 : 0 ≤ (a0_1 : Int) := of_decide_eq_true (by first | (with_reducible assumption) | assumption); have q19 : (a0_1 : Int) < ((y269.length : Int) : Int) := of_decide_eq_true (by first | (with_reducible assumption) | assumption); obtain ⟨go19, co19, eo19, gb19, gl19, cl19, HG19⟩ := Kd.R_form HO271.out (by omega); (first | cases eo19 | (injection eo19 with ea_ en_ ec_; (first | subst ea_ | (injection ea_ with ea_; subst ea_)); subst ec_; clear en_)); have GB19 := Am gb19; have GG19 := Am HG19; clear gb19 gl19 HG19; obtain ⟨hx19_0, hf19_0⟩ := Kd.R_celln 0 HO271.out (a0_1 : Int) p19 q19; replace p19 := eq_true p19; replace q19 := eq_true q19; have n_ := Am (Kd.R_mono (ok' := (fun k_ => (w.heap.size ≤ k_))) HO271.out (fun k_ hk => hk.1)); clear HO271; have HO271 := n_; clear n_; obtain ⟨hy25_, hz25_⟩ := Kd.R_celln 0 HO271.out (a0_1 : Int) (of_decide_eq_true (by first | (with_reducible assumption) | assumption)) (of_decide_eq_true (by first | (with_reducible assumption) | assumption)); have HP25 := Kd.R_putg HO271.out (a0_1 : Int) 1) | ((with_reducible refine gate_store (t := 3) (p := 27) rfl ?_); refine store_event (t := 3) (p := 27) (v := ?vo_w26) (w1 := (w22.setCell ⟨go19, (a0_1 : Int).toNat, none⟩ (.int .i64 1))) ?hg ?ho ?hn ?hr ?_; (case ho => rfl); (case hg => rfl); (case hn => rfl); (case hr => first | (go_simp; done) | (go_simp; rfl)); intro w26 hw; have hg : w22.grownBy w26 (some go19) := (by rw [hw]; exact HP25.2); have hp_ : Kd.R (Kd.int .i64) 3 w26 w.heap.size (fun k_ => (w.heap.size ≤ k_)) (.slice (some ⟨go19, 0, none⟩) y269.length co19) y272 := (by rw [hw, Ny272.out]; exact HP25.1); clear HP25; have n0_ := Am (blk_grown (g := gb262) (o := .cells #[.int .i64 a0_0, .int .i64 a0_1, .slice A0_2 l0_2.length c0_2] 24 (0, 0)) (by (with_reducible repeat (first | refine bN ?_ _ | refine bD ?_ | refine bA ?_ _)); exact BK262.out) hg (Kd.R_ne HO271.out BK262.out (by decide))); have n1_ := Am (hp_); have n2_ := Am ((by rw [hw]; exact pS (HB.out) GB19.out : Below w.heap.size w w26)); clear BK262; clear HO271; clear HB; have BK262 := n0_; have HO271 := n1_; have HB := n2_; clear n0_ n1_ n2_; clear hg hw hp_) | ((with_reducible refine gate_dst (N := 30) rfl ?_); refine Kd.N_lit k57 _ 57 ?hg (N' := 30) ?hd (xs := ([(⟨1, y272⟩ : S57)] : List (S57))) (inner := [.int .i64 1, .slice (some ⟨go19, 0, none⟩) y269.length co19]) (ok := (fun k_ => (w.heap.size ≤ k_) ∧ k_ ≠ gb262)) (okp := (fun k_ => (w.heap.size ≤ k_) ∧ k_ ≠ gb262)) ?hr ?hp (fun _ hk => hk) ((show ∀ k_, w26.heap.size ≤ k_ → (fun k_ => (w.heap.size ≤ k_) ∧ k_ ≠ gb262) k_ from fun k_ hk => ⟨(Nat.le_trans (below_size (by repeat (first | (with_reducible first | exact HB.out | apply pA | apply pN | apply pD | refine pS ?_ GE262.out) | exact HB.out))) hk), Kd.freshB (g := gb262) (o := .cells #[.int .i64 a0_0, .int .i64 a0_1, .slice A0_2 l0_2.length c0_2] 24 (0, 0)) (by (with_reducible repeat (first | refine bN ?_ _ | refine bD ?_ | refine bA ?_ _)); exact BK262.out) k_ hk⟩) _ (Nat.le_refl _)) (Below.refl _ _) (Nat.le_refl _) (by simp) ?_; (case hd => rfl); (case hg => rfl); (case hr => first | (go_simp; done) | (go_simp; rfl)); (case hp => exact (Reps.c2 (show Kd.FK k57 _ _ (⟨1, y272⟩ : S57) [.int .i64 1, .slice (some ⟨go19, 0, none⟩) y269.length co19] from (by have HO_ := HO271.out; rw [show y269.length = y272.length from (by rw [Ny272.out, List.length_set])] at HO_ ⊢; exact (k57_mkF _ _ (⟨1, y272⟩ : S57) (Kd.R_reads' (Kd.R_mono (ok' := (fun k_ => (w.heap.size ≤ k_) ∧ k_ ≠ gb262)) (Kd.R_types (HO_) BK262.out (by decide)) (fun k_ hk => ⟨hk.1, hk.2⟩))).2.1 (Kd.R_F (Kd.R_mono (ok' := (fun k_ => (w.heap.size ≤ k_) ∧ k_ ≠ gb262)) (Kd.R_types (HO_) BK262.out (by decide)) (fun k_ hk => ⟨hk.1, hk.2⟩)))))) (Reps.none _ _))); intro v274 w27 ho28 hb hg_ hnew_; clear hg_ hnew_; (first | rw [← Ny273.out] at ho28 | (simp only [Int.reduceToNat] at ho28; rw [← Ny273.out] at ho28)); have n0_ := Am (Kd.N_lower ho28 (below_size (by repeat (first | (with_reducible first | exact HB.out | apply pA | apply pN | apply pD | refine pS ?_ GE262.out) | exact HB.out)))); have n1_ := Am (blk_below (g := gb262) (o := .cells #[.int .i64 a0_0, .int .i64 a0_1, .slice A0_2 l0_2.length c0_2] 24 (0, 0)) (by (with_reducible repeat (first | refine bN ?_ _ | refine bD ?_ | refine bA ?_ _)); exact BK262.out) hb); have n2_ := Am (below_step (by repeat (first | (with_reducible first | exact HB.out | apply pA | apply pN | apply pD | refine pS ?_ GE262.out) | exact HB.out)) hb); clear BK262; clear HB; clear HO271; have HO275 := n0_; have BK262 := n1_; have HB := n2_; clear n0_ n1_ n2_; clear hb ho28))
      go_ret2
      exact ⟨_, by first | rfl | (simp [errW_none, errW_some] <;> rfl) | (simp [*, errW_none, errW_some] <;> rfl), Kd.N_V (by (with_reducible repeat (first | apply Kd.N_alloc | apply Kd.N_drewN | apply Kd.N_drew)); exact Kd.N_mono HO275.out (fun _ hk => hk.1)), by repeat (first | (with_reducible first | exact HB.out | apply pA | apply pN | apply pD | refine pS ?_ GE262.out) | exact HB.out)⟩
     ·
      rw [if_neg c18] at H
      exact absurd H (by simp)
    ·
     rw [if_neg c17] at H
     exact absurd H (by simp)
   ·
    rw [if_neg c16] at H
    exact absurd H (by simp)
  ·
   rw [if_neg c15] at H
   have c15b0 : (a0_0 == 2) = false := beq_eq_false_iff_ne.mpr c15
   have c15b1 : (a0_0 != 2) = true := bne_iff_ne.mpr c15
   by_cases c29 : 0 < (l0_2.length : Int)
   ·
    rw [if_pos c29] at H
    have c29b0 : decide (0 < (l0_2.length : Int)) = true := decide_eq_true c29
    have c29b1 : decide (0 < l0_2.length) = true := decide_eq_true (by omega)
    clear c29
    replace H := Option.bind_eq_some_iff.mp H
    obtain ⟨⟨t277, t280⟩, A300, H⟩ := H
    replace H : (if t280 = true then (if 1 < (l0_2.length : Int) then ((tenetref24_normal.f k ((rd_T24 l0_2 1).f0) ((rd_T24 l0_2 1).f1) ((rd_T24 l0_2 1).f2)).bind fun bt282 => (if bt282.2 = true then (if a0_0 = 3 then ((tenetref24_add.f k t277 bt282.1).bind fun bt286 => (some (bt286.1, bt286.2))) else ((tenetref24_mul.f k t277 bt282.1).bind fun bt290 => (some (bt290.1, bt290.2)))) else (some (([] : List (S57)), false)))) else (none)) else (some (([] : List (S57)), false))) = some (r1, r2) := H
    have A30 := Am A300
    clear A300
    by_cases c31 : t280 = true
    ·
     subst c31
     have H1 : (if 1 < (l0_2.length : Int) then ((tenetref24_normal.f k ((rd_T24 l0_2 1).f0) ((rd_T24 l0_2 1).f1) ((rd_T24 l0_2 1).f2)).bind fun bt282 => (if bt282.2 = true then (if a0_0 = 3 then ((tenetref24_add.f k t277 bt282.1).bind fun bt286 => (some (bt286.1, bt286.2))) else ((tenetref24_mul.f k t277 bt282.1).bind fun bt290 => (some (bt290.1, bt290.2)))) else (some (([] : List (S57)), false)))) else (none)) = some (r1, r2) := by rw [if_pos rfl] at H; exact H
     clear H
     have H := H1
     clear H1
     by_cases c32 : 1 < (l0_2.length : Int)
     ·
      rw [if_pos c32] at H
      have c32b0 : decide (1 < (l0_2.length : Int)) = true := decide_eq_true c32
      have c32b1 : decide (1 < l0_2.length) = true := decide_eq_true (by omega)
      clear c32
      replace H := Option.bind_eq_some_iff.mp H
      obtain ⟨⟨t282, t285⟩, A330, H⟩ := H
      replace H : (if t285 = true then (if a0_0 = 3 then ((tenetref24_add.f k t277 t282).bind fun bt286 => (some (bt286.1, bt286.2))) else ((tenetref24_mul.f k t277 t282).bind fun bt290 => (some (bt290.1, bt290.2)))) else (some (([] : List (S57)), false))) = some (r1, r2) := H
      have A33 := Am A330
      clear A330
      by_cases c34 : t285 = true
      ·
       subst c34
       have H1 : (if a0_0 = 3 then ((tenetref24_add.f k t277 t282).bind fun bt286 => (some (bt286.1, bt286.2))) else ((tenetref24_mul.f k t277 t282).bind fun bt290 => (some (bt290.1, bt290.2)))) = some (r1, r2) := by rw [if_pos rfl] at H; exact H
       clear H
       have H := H1
       clear H1
       by_cases c35 : a0_0 = 3
       ·
        rw [if_pos c35] at H
        have c35b0 : (a0_0 == 3) = true := beq_iff_eq.mpr c35
        have c35b1 : (a0_0 != 3) = false := bne_eq_false_iff_eq.mpr c35
        clear c35
        replace H := Option.bind_eq_some_iff.mp H
        obtain ⟨⟨t286, t289⟩, A360, H⟩ := H
        replace H : (some (t286, t289)) = some (r1, r2) := H
        have A36 := Am A360
        clear A360
        simp only [Option.some.injEq, Prod.mk.injEq] at H
        obtain ⟨rfl, rfl⟩ := H
        go_enter Try.func20, Try.ntmps20
        go_wp2_with (first | ((with_reducible refine gate_dst (N := 1) rfl ?_); refine box_event ?hg (N := 1) ?hd (cs := #[.int .i64 a0_0, .int .i64 a0_1, .slice A0_2 l0_2.length c0_2]) (t := 24) ?hr ?_; (case hd => rfl); (case hg => rfl); (case hr => first | (go_simp; done) | (go_simp; rfl)); intro gb262 hg w37 hbox hb; have n0_ := Am (below_step (by repeat (first | (with_reducible first | exact HB.out | apply pA | apply pN | apply pD) | exact HB.out)) hb); have n1_ := Am (hbox); have n2_ := Am ((by rw [hg]; exact (below_size (by repeat (first | (with_reducible first | exact HB.out | apply pA | apply pN | apply pD) | exact HB.out))) : w.heap.size ≤ gb262)); have n3_ := Am ((by rw [hg]; exact (below_size (by repeat (first | (with_reducible first | exact HB.out | apply pA | apply pN | apply pD) | exact HB.out))) : w.heap.size ≤ gb262)); clear HB; have HB := n0_; have BK262 := n1_; have GW262 := n2_; have GE262 := n3_; clear n0_ n1_ n2_ n3_; clear hb hbox hg; have hcz38_0 : w37.cell? ⟨gb262, 0, none⟩ = some (.int .i64 a0_0) := (blk_cell BK262.out 0).trans rfl; have hcz38_1 : w37.cell? ⟨gb262, 1, none⟩ = some (.int .i64 a0_1) := (blk_cell BK262.out 1).trans rfl; have hcz38_2 : w37.cell? ⟨gb262, 2, none⟩ = some (.slice A0_2 l0_2.length c0_2) := (blk_cell BK262.out 2).trans rfl; have hfz38_0 := blk_frozen BK262.out 0; have hfz38_1 := blk_frozen BK262.out 1; have hfz38_2 := blk_frozen BK262.out 2; have p276 : 0 ≤ (0 : Int) := (by omega); have q276 : 0 < (l0_2.length : Int) := of_decide_eq_true (by first | (with_reducible assumption) | assumption); obtain ⟨ad276, A276_2, c276_2, e276, hx276_0, hx276_1, hx276_2, hl276_2, hi276_2⟩ := at_T24 HR0_2.out 0 p276 q276; cases e276; have qi276 : (0 < l0_2.length) = True := eq_true (by omega); (try rw [show ((0 : Int)).toNat = 0 from rfl] at hx276_0); (try rw [show 0 * 3 = 0 from rfl] at hx276_0); (try rw [Addr.add_zero'] at hx276_0); (try rw [show ((0 : Int)).toNat = 0 from rfl] at hx276_1); (try rw [show 0 * 3 = 0 from rfl] at hx276_1); (try rw [Addr.add_zero'] at hx276_1); (try rw [show ((0 : Int)).toNat = 0 from rfl] at hx276_2); (try rw [show 0 * 3 = 0 from rfl] at hx276_2); (try rw [Addr.add_zero'] at hx276_2); replace hx276_0 := (HB.out.cell (wB w _ hx276_0)).trans hx276_0; replace hx276_1 := (HB.out.cell (wB w _ hx276_1)).trans hx276_1; replace hx276_2 := (HB.out.cell (wB w _ hx276_2)).trans hx276_2; have HR276_2 := Am hi276_2; have HC276_2 := Am hl276_2; clear hi276_2 hl276_2; replace p276 := eq_true p276; replace q276 := eq_true q276) | ((with_reducible refine gate_callee (f := 20) rfl ?_); refine goesL_ (some 36) rfl rfl Try.func20 (by kernel_rfl) rfl #[.agg #[.int .i64 ((rd_T24 l0_2 0).f0), .int .i64 ((rd_T24 l0_2 0).f1), .slice A276_2 ((rd_T24 l0_2 0).f2).length c276_2]] rfl (by (try simp only [List.map_toArray, List.map_cons, List.map_nil]); first | done | rfl | (simp only [List.length_drop, List.length_take]; rfl)) ?_; (with_reducible refine (ih k (by omega) ((rd_T24 l0_2 0).f0) ((rd_T24 l0_2 0).f1) _ _ ((rd_T24 l0_2 0).f2) t277 true _ ?side1 ?side2 A30.out).mono ?_); (case side1 => repeat (first | exact (Kd.C_below HR276_2.out HB.out) | (with_reducible refine Kd.C_alloc ?_ _) | (with_reducible refine Kd.C_drewN ?_ _) | (with_reducible refine Kd.C_drew ?_))); (case side2 => exact HC276_2.out); rintro e w39 ⟨v278, rfl, ho0, hb⟩; refine ⟨_, rfl, ?_⟩; have n0_ := Am (Kd.V_lower (Kd.V_mono (ok' := fun k_ => (w.heap.size ≤ k_) ∧ k_ ≠ gb262) ho0 (fun k_ hk_ => ⟨(Nat.le_trans (below_size (by repeat (first | (with_reducible first | exact HB.out | apply pA | apply pN | apply pD | refine pS ?_ GE262.out) | exact HB.out))) hk_), (Kd.freshB (g := gb262) (o := .cells #[.int .i64 a0_0, .int .i64 a0_1, .slice (some ad276) l0_2.length c0_2] 24 (0, 0)) (by (with_reducible repeat (first | refine bN ?_ _ | refine bD ?_ | refine bA ?_ _)); exact BK262.out) k_ hk_)⟩)) (below_size (by repeat (first | (with_reducible first | exact HB.out | apply pA | apply pN | apply pD | refine pS ?_ GE262.out) | exact HB.out)))); have n1_ := Am (blk_below (g := gb262) (o := .cells #[.int .i64 a0_0, .int .i64 a0_1, .slice (some ad276) l0_2.length c0_2] 24 (0, 0)) (by (with_reducible repeat (first | refine bN ?_ _ | refine bD ?_ | refine bA ?_ _)); exact BK262.out) hb); have n2_ := Am (below_step (by repeat (first | (with_reducible first | exact HB.out | apply pA | apply pN | apply pD | refine pS ?_ GE262.out) | exact HB.out)) hb); clear BK262; clear HB; have HO279 := n0_; have BK262 := n1_; have HB := n2_; clear n0_ n1_ n2_; (try clear hb); (try clear hb2); (try clear hk); (try clear hi); (try clear ho0); have hcz40_0 : w39.cell? ⟨gb262, 0, none⟩ = some (.int .i64 a0_0) := (blk_cell BK262.out 0).trans rfl; have hcz40_1 : w39.cell? ⟨gb262, 1, none⟩ = some (.int .i64 a0_1) := (blk_cell BK262.out 1).trans rfl; have hcz40_2 : w39.cell? ⟨gb262, 2, none⟩ = some (.slice (some ad276) l0_2.length c0_2) := (blk_cell BK262.out 2).trans rfl; have hfz40_0 := blk_frozen BK262.out 0; have hfz40_1 := blk_frozen BK262.out 1; have hfz40_2 := blk_frozen BK262.out 2; have p281 : 0 ≤ (1 : Int) := (by omega); have q281 : 1 < (l0_2.length : Int) := of_decide_eq_true (by first | (with_reducible assumption) | assumption); obtain ⟨ad281, A281_2, c281_2, e281, hx281_0, hx281_1, hx281_2, hl281_2, hi281_2⟩ := at_T24 HR0_2.out 1 p281 q281; obtain rfl : ad276 = ad281 := (by injection e281); (try simp only [show (1 : Int).toNat = 1 from rfl, Nat.reduceMul, Nat.reduceEqDiff, Go.Addr.add, ↓reduceIte] at hx281_0); (try simp only [show (1 : Int).toNat = 1 from rfl, Nat.reduceMul, Nat.reduceEqDiff, Go.Addr.add, ↓reduceIte] at hx281_1); (try simp only [show (1 : Int).toNat = 1 from rfl, Nat.reduceMul, Nat.reduceEqDiff, Go.Addr.add, ↓reduceIte] at hx281_2); have qi281 : (1 < l0_2.length) = True := eq_true (by omega); (try rw [show ((1 : Int)).toNat = 1 from rfl] at hx281_0); (try rw [show 1 * 3 = 3 from rfl] at hx281_0); (try rw [show ((1 : Int)).toNat = 1 from rfl] at hx281_1); (try rw [show 1 * 3 = 3 from rfl] at hx281_1); (try rw [show ((1 : Int)).toNat = 1 from rfl] at hx281_2); (try rw [show 1 * 3 = 3 from rfl] at hx281_2); replace hx281_0 := (HB.out.cell (wB w _ hx281_0)).trans hx281_0; replace hx281_1 := (HB.out.cell (wB w _ hx281_1)).trans hx281_1; replace hx281_2 := (HB.out.cell (wB w _ hx281_2)).trans hx281_2; have HR281_2 := Am hi281_2; have HC281_2 := Am hl281_2; clear hi281_2 hl281_2; replace p281 := eq_true p281; replace q281 := eq_true q281) | ((with_reducible refine gate_callee (f := 20) rfl ?_); refine goesL_ (some 46) rfl rfl Try.func20 (by kernel_rfl) rfl #[.agg #[.int .i64 ((rd_T24 l0_2 1).f0), .int .i64 ((rd_T24 l0_2 1).f1), .slice A281_2 ((rd_T24 l0_2 1).f2).length c281_2]] rfl (by (try simp only [List.map_toArray, List.map_cons, List.map_nil]); first | done | rfl | (simp only [List.length_drop, List.length_take]; rfl)) ?_; (with_reducible refine (ih k (by omega) ((rd_T24 l0_2 1).f0) ((rd_T24 l0_2 1).f1) _ _ ((rd_T24 l0_2 1).f2) t282 true _ ?side1 ?side2 A33.out).mono ?_); (case side1 => repeat (first | exact (Kd.C_below HR281_2.out HB.out) | (with_reducible refine Kd.C_alloc ?_ _) | (with_reducible refine Kd.C_drewN ?_ _) | (with_reducible refine Kd.C_drew ?_))); (case side2 => exact HC281_2.out); rintro e w41 ⟨v283, rfl, ho0, hb⟩; refine ⟨_, rfl, ?_⟩; have n0_ := Am (Kd.V_below (by (with_reducible repeat (first | apply Kd.V_alloc | apply Kd.V_drewN | apply Kd.V_drew)); exact HO279.out) hb); have n1_ := Am (Kd.V_lower (Kd.V_mono (ok' := fun k_ => (w.heap.size ≤ k_) ∧ k_ ≠ gb262) ho0 (fun k_ hk_ => ⟨(Nat.le_trans (below_size (by repeat (first | (with_reducible first | exact HB.out | apply pA | apply pN | apply pD | refine pS ?_ GE262.out) | exact HB.out))) hk_), (Kd.freshB (g := gb262) (o := .cells #[.int .i64 a0_0, .int .i64 a0_1, .slice (some ad276) l0_2.length c0_2] 24 (0, 0)) (by (with_reducible repeat (first | refine bN ?_ _ | refine bD ?_ | refine bA ?_ _)); exact BK262.out) k_ hk_)⟩)) (below_size (by repeat (first | (with_reducible first | exact HB.out | apply pA | apply pN | apply pD | refine pS ?_ GE262.out) | exact HB.out)))); have n2_ := Am (blk_below (g := gb262) (o := .cells #[.int .i64 a0_0, .int .i64 a0_1, .slice (some ad276) l0_2.length c0_2] 24 (0, 0)) (by (with_reducible repeat (first | refine bN ?_ _ | refine bD ?_ | refine bA ?_ _)); exact BK262.out) hb); have n3_ := Am (below_step (by repeat (first | (with_reducible first | exact HB.out | apply pA | apply pN | apply pD | refine pS ?_ GE262.out) | exact HB.out)) hb); clear HO279; clear BK262; clear HB; have HO279 := n0_; have HO284 := n1_; have BK262 := n2_; have HB := n3_; clear n0_ n1_ n2_ n3_; (try clear hb); (try clear hb2); (try clear hk); (try clear hi); (try clear ho0); have hcz42_0 : w41.cell? ⟨gb262, 0, none⟩ = some (.int .i64 a0_0) := (blk_cell BK262.out 0).trans rfl; have hcz42_1 : w41.cell? ⟨gb262, 1, none⟩ = some (.int .i64 a0_1) := (blk_cell BK262.out 1).trans rfl; have hcz42_2 : w41.cell? ⟨gb262, 2, none⟩ = some (.slice (some ad276) l0_2.length c0_2) := (blk_cell BK262.out 2).trans rfl; have hfz42_0 := blk_frozen BK262.out 0; have hfz42_1 := blk_frozen BK262.out 1; have hfz42_2 := blk_frozen BK262.out 2; obtain ⟨Ao43, co43, eo43⟩ := Kd.V_slice HO279.out; subst eo43; obtain ⟨Ao44, co44, eo44⟩ := Kd.V_slice HO284.out; subst eo44) | ((with_reducible refine gate_callee (f := 29) rfl ?_); refine goesL_ (some 56) rfl rfl Try.func29 (by kernel_rfl) rfl #[.slice Ao43 t277.length co43, .slice Ao44 t282.length co44] rfl (by (try simp only [List.map_toArray, List.map_cons, List.map_nil]); first | done | rfl | (simp only [List.length_drop, List.length_take]; rfl)) ?_; (with_reducible refine (tenetref24_add.calls k (fun k_ => ((w.heap.size ≤ k_) ∧ k_ ≠ gb262)) _ _ t277 (fun k_ => ((w.heap.size ≤ k_) ∧ k_ ≠ gb262)) _ _ t282 t286 t289 _ ?side1 ?side2 A36.out).mono ?_); (case side1 => exact HO279.out); (case side2 => exact HO284.out); rintro e w45 ⟨v287, rfl, ho0, hb⟩; refine ⟨_, rfl, ?_⟩; have n0_ := Am (Kd.V_below (by (with_reducible repeat (first | apply Kd.V_alloc | apply Kd.V_drewN | apply Kd.V_drew)); exact HO279.out) hb); have n1_ := Am (Kd.V_below (by (with_reducible repeat (first | apply Kd.V_alloc | apply Kd.V_drewN | apply Kd.V_drew)); exact HO284.out) hb); have n2_ := Am (Kd.V_lower (Kd.V_mono (ok' := fun k_ => (w.heap.size ≤ k_) ∧ k_ ≠ gb262) ho0 (fun k_ hk_ => ⟨Or.elim hk_ (fun hs_ => Or.elim hs_ (fun hs_ => hs_.1) (fun hs_ => hs_.1)) (fun hn_ => (Nat.le_trans (below_size (by repeat (first | (with_reducible first | exact HB.out | apply pA | apply pN | apply pD | refine pS ?_ GE262.out) | exact HB.out))) hn_)), Or.elim hk_ (fun hs_ => Or.elim hs_ (fun hs_ => hs_.2) (fun hs_ => hs_.2)) (fun hn_ => (Kd.freshB (g := gb262) (o := .cells #[.int .i64 a0_0, .int .i64 a0_1, .slice (some ad276) l0_2.length c0_2] 24 (0, 0)) (by (with_reducible repeat (first | refine bN ?_ _ | refine bD ?_ | refine bA ?_ _)); exact BK262.out) k_ hn_))⟩)) (below_size (by repeat (first | (with_reducible first | exact HB.out | apply pA | apply pN | apply pD | refine pS ?_ GE262.out) | exact HB.out)))); have n3_ := Am (blk_below (g := gb262) (o := .cells #[.int .i64 a0_0, .int .i64 a0_1, .slice (some ad276) l0_2.length c0_2] 24 (0, 0)) (by (with_reducible repeat (first | refine bN ?_ _ | refine bD ?_ | refine bA ?_ _)); exact BK262.out) hb); have n4_ := Am (below_step (by repeat (first | (with_reducible first | exact HB.out | apply pA | apply pN | apply pD | refine pS ?_ GE262.out) | exact HB.out)) hb); clear HO279; clear HO284; clear BK262; clear HB; have HO279 := n0_; have HO284 := n1_; have HO288 := n2_; have BK262 := n3_; have HB := n4_; clear n0_ n1_ n2_ n3_ n4_; (try clear hb); (try clear hb2); (try clear hk); (try clear hi); (try clear ho0)))
        go_ret2
        exact ⟨_, by first | rfl | (simp [errW_none, errW_some] <;> rfl) | (simp [*, errW_none, errW_some] <;> rfl), by (with_reducible repeat (first | apply Kd.V_alloc | apply Kd.V_drewN | apply Kd.V_drew)); exact Kd.V_mono HO288.out (fun _ hk => hk.1), by repeat (first | (with_reducible first | exact HB.out | apply pA | apply pN | apply pD | refine pS ?_ GE262.out) | exact HB.out)⟩
       ·
        rw [if_neg c35] at H
        have c35b0 : (a0_0 == 3) = false := beq_eq_false_iff_ne.mpr c35
        have c35b1 : (a0_0 != 3) = true := bne_iff_ne.mpr c35
        replace H := Option.bind_eq_some_iff.mp H
        obtain ⟨⟨t290, t293⟩, A460, H⟩ := H
        replace H : (some (t290, t293)) = some (r1, r2) := H
        have A46 := Am A460
        clear A460
        simp only [Option.some.injEq, Prod.mk.injEq] at H
        obtain ⟨rfl, rfl⟩ := H
        go_enter Try.func20, Try.ntmps20
        go_wp2_with (first | ((with_reducible refine gate_dst (N := 1) rfl ?_); refine box_event ?hg (N := 1) ?hd (cs := #[.int .i64 a0_0, .int .i64 a0_1, .slice A0_2 l0_2.length c0_2]) (t := 24) ?hr ?_; (case hd => rfl); (case hg => rfl); (case hr => first | (go_simp; done) | (go_simp; rfl)); intro gb262 hg w47 hbox hb; have n0_ := Am (below_step (by repeat (first | (with_reducible first | exact HB.out | apply pA | apply pN | apply pD) | exact HB.out)) hb); have n1_ := Am (hbox); have n2_ := Am ((by rw [hg]; exact (below_size (by repeat (first | (with_reducible first | exact HB.out | apply pA | apply pN | apply pD) | exact HB.out))) : w.heap.size ≤ gb262)); have n3_ := Am ((by rw [hg]; exact (below_size (by repeat (first | (with_reducible first | exact HB.out | apply pA | apply pN | apply pD) | exact HB.out))) : w.heap.size ≤ gb262)); clear HB; have HB := n0_; have BK262 := n1_; have GW262 := n2_; have GE262 := n3_; clear n0_ n1_ n2_ n3_; clear hb hbox hg; have hcz48_0 : w47.cell? ⟨gb262, 0, none⟩ = some (.int .i64 a0_0) := (blk_cell BK262.out 0).trans rfl; have hcz48_1 : w47.cell? ⟨gb262, 1, none⟩ = some (.int .i64 a0_1) := (blk_cell BK262.out 1).trans rfl; have hcz48_2 : w47.cell? ⟨gb262, 2, none⟩ = some (.slice A0_2 l0_2.length c0_2) := (blk_cell BK262.out 2).trans rfl; have hfz48_0 := blk_frozen BK262.out 0; have hfz48_1 := blk_frozen BK262.out 1; have hfz48_2 := blk_frozen BK262.out 2; have p276 : 0 ≤ (0 : Int) := (by omega); have q276 : 0 < (l0_2.length : Int) := of_decide_eq_true (by first | (with_reducible assumption) | assumption); obtain ⟨ad276, A276_2, c276_2, e276, hx276_0, hx276_1, hx276_2, hl276_2, hi276_2⟩ := at_T24 HR0_2.out 0 p276 q276; cases e276; have qi276 : (0 < l0_2.length) = True := eq_true (by omega); (try rw [show ((0 : Int)).toNat = 0 from rfl] at hx276_0); (try rw [show 0 * 3 = 0 from rfl] at hx276_0); (try rw [Addr.add_zero'] at hx276_0); (try rw [show ((0 : Int)).toNat = 0 from rfl] at hx276_1); (try rw [show 0 * 3 = 0 from rfl] at hx276_1); (try rw [Addr.add_zero'] at hx276_1); (try rw [show ((0 : Int)).toNat = 0 from rfl] at hx276_2); (try rw [show 0 * 3 = 0 from rfl] at hx276_2); (try rw [Addr.add_zero'] at hx276_2); replace hx276_0 := (HB.out.cell (wB w _ hx276_0)).trans hx276_0; replace hx276_1 := (HB.out.cell (wB w _ hx276_1)).trans hx276_1; replace hx276_2 := (HB.out.cell (wB w _ hx276_2)).trans hx276_2; have HR276_2 := Am hi276_2; have HC276_2 := Am hl276_2; clear hi276_2 hl276_2; replace p276 := eq_true p276; replace q276 := eq_true q276) | ((with_reducible refine gate_callee (f := 20) rfl ?_); refine goesL_ (some 36) rfl rfl Try.func20 (by kernel_rfl) rfl #[.agg #[.int .i64 ((rd_T24 l0_2 0).f0), .int .i64 ((rd_T24 l0_2 0).f1), .slice A276_2 ((rd_T24 l0_2 0).f2).length c276_2]] rfl (by (try simp only [List.map_toArray, List.map_cons, List.map_nil]); first | done | rfl | (simp only [List.length_drop, List.length_take]; rfl)) ?_; (with_reducible refine (ih k (by omega) ((rd_T24 l0_2 0).f0) ((rd_T24 l0_2 0).f1) _ _ ((rd_T24 l0_2 0).f2) t277 true _ ?side1 ?side2 A30.out).mono ?_); (case side1 => repeat (first | exact (Kd.C_below HR276_2.out HB.out) | (with_reducible refine Kd.C_alloc ?_ _) | (with_reducible refine Kd.C_drewN ?_ _) | (with_reducible refine Kd.C_drew ?_))); (case side2 => exact HC276_2.out); rintro e w49 ⟨v278, rfl, ho0, hb⟩; refine ⟨_, rfl, ?_⟩; have n0_ := Am (Kd.V_lower (Kd.V_mono (ok' := fun k_ => (w.heap.size ≤ k_) ∧ k_ ≠ gb262) ho0 (fun k_ hk_ => ⟨(Nat.le_trans (below_size (by repeat (first | (with_reducible first | exact HB.out | apply pA | apply pN | apply pD | refine pS ?_ GE262.out) | exact HB.out))) hk_), (Kd.freshB (g := gb262) (o := .cells #[.int .i64 a0_0, .int .i64 a0_1, .slice (some ad276) l0_2.length c0_2] 24 (0, 0)) (by (with_reducible repeat (first | refine bN ?_ _ | refine bD ?_ | refine bA ?_ _)); exact BK262.out) k_ hk_)⟩)) (below_size (by repeat (first | (with_reducible first | exact HB.out | apply pA | apply pN | apply pD | refine pS ?_ GE262.out) | exact HB.out)))); have n1_ := Am (blk_below (g := gb262) (o := .cells #[.int .i64 a0_0, .int .i64 a0_1, .slice (some ad276) l0_2.length c0_2] 24 (0, 0)) (by (with_reducible repeat (first | refine bN ?_ _ | refine bD ?_ | refine bA ?_ _)); exact BK262.out) hb); have n2_ := Am (below_step (by repeat (first | (with_reducible first | exact HB.out | apply pA | apply pN | apply pD | refine pS ?_ GE262.out) | exact HB.out)) hb); clear BK262; clear HB; have HO279 := n0_; have BK262 := n1_; have HB := n2_; clear n0_ n1_ n2_; (try clear hb); (try clear hb2); (try clear hk); (try clear hi); (try clear ho0); have hcz50_0 : w49.cell? ⟨gb262, 0, none⟩ = some (.int .i64 a0_0) := (blk_cell BK262.out 0).trans rfl; have hcz50_1 : w49.cell? ⟨gb262, 1, none⟩ = some (.int .i64 a0_1) := (blk_cell BK262.out 1).trans rfl; have hcz50_2 : w49.cell? ⟨gb262, 2, none⟩ = some (.slice (some ad276) l0_2.length c0_2) := (blk_cell BK262.out 2).trans rfl; have hfz50_0 := blk_frozen BK262.out 0; have hfz50_1 := blk_frozen BK262.out 1; have hfz50_2 := blk_frozen BK262.out 2; have p281 : 0 ≤ (1 : Int) := (by omega); have q281 : 1 < (l0_2.length : Int) := of_decide_eq_true (by first | (with_reducible assumption) | assumption); obtain ⟨ad281, A281_2, c281_2, e281, hx281_0, hx281_1, hx281_2, hl281_2, hi281_2⟩ := at_T24 HR0_2.out 1 p281 q281; obtain rfl : ad276 = ad281 := (by injection e281); (try simp only [show (1 : Int).toNat = 1 from rfl, Nat.reduceMul, Nat.reduceEqDiff, Go.Addr.add, ↓reduceIte] at hx281_0); (try simp only [show (1 : Int).toNat = 1 from rfl, Nat.reduceMul, Nat.reduceEqDiff, Go.Addr.add, ↓reduceIte] at hx281_1); (try simp only [show (1 : Int).toNat = 1 from rfl, Nat.reduceMul, Nat.reduceEqDiff, Go.Addr.add, ↓reduceIte] at hx281_2); have qi281 : (1 < l0_2.length) = True := eq_true (by omega); (try rw [show ((1 : Int)).toNat = 1 from rfl] at hx281_0); (try rw [show 1 * 3 = 3 from rfl] at hx281_0); (try rw [show ((1 : Int)).toNat = 1 from rfl] at hx281_1); (try rw [show 1 * 3 = 3 from rfl] at hx281_1); (try rw [show ((1 : Int)).toNat = 1 from rfl] at hx281_2); (try rw [show 1 * 3 = 3 from rfl] at hx281_2); replace hx281_0 := (HB.out.cell (wB w _ hx281_0)).trans hx281_0; replace hx281_1 := (HB.out.cell (wB w _ hx281_1)).trans hx281_1; replace hx281_2 := (HB.out.cell (wB w _ hx281_2)).trans hx281_2; have HR281_2 := Am hi281_2; have HC281_2 := Am hl281_2; clear hi281_2 hl281_2; replace p281 := eq_true p281; replace q281 := eq_true q281) | ((with_reducible refine gate_callee (f := 20) rfl ?_); refine goesL_ (some 46) rfl rfl Try.func20 (by kernel_rfl) rfl #[.agg #[.int .i64 ((rd_T24 l0_2 1).f0), .int .i64 ((rd_T24 l0_2 1).f1), .slice A281_2 ((rd_T24 l0_2 1).f2).length c281_2]] rfl (by (try simp only [List.map_toArray, List.map_cons, List.map_nil]); first | done | rfl | (simp only [List.length_drop, List.length_take]; rfl)) ?_; (with_reducible refine (ih k (by omega) ((rd_T24 l0_2 1).f0) ((rd_T24 l0_2 1).f1) _ _ ((rd_T24 l0_2 1).f2) t282 true _ ?side1 ?side2 A33.out).mono ?_); (case side1 => repeat (first | exact (Kd.C_below HR281_2.out HB.out) | (with_reducible refine Kd.C_alloc ?_ _) | (with_reducible refine Kd.C_drewN ?_ _) | (with_reducible refine Kd.C_drew ?_))); (case side2 => exact HC281_2.out); rintro e w51 ⟨v283, rfl, ho0, hb⟩; refine ⟨_, rfl, ?_⟩; have n0_ := Am (Kd.V_below (by (with_reducible repeat (first | apply Kd.V_alloc | apply Kd.V_drewN | apply Kd.V_drew)); exact HO279.out) hb); have n1_ := Am (Kd.V_lower (Kd.V_mono (ok' := fun k_ => (w.heap.size ≤ k_) ∧ k_ ≠ gb262) ho0 (fun k_ hk_ => ⟨(Nat.le_trans (below_size (by repeat (first | (with_reducible first | exact HB.out | apply pA | apply pN | apply pD | refine pS ?_ GE262.out) | exact HB.out))) hk_), (Kd.freshB (g := gb262) (o := .cells #[.int .i64 a0_0, .int .i64 a0_1, .slice (some ad276) l0_2.length c0_2] 24 (0, 0)) (by (with_reducible repeat (first | refine bN ?_ _ | refine bD ?_ | refine bA ?_ _)); exact BK262.out) k_ hk_)⟩)) (below_size (by repeat (first | (with_reducible first | exact HB.out | apply pA | apply pN | apply pD | refine pS ?_ GE262.out) | exact HB.out)))); have n2_ := Am (blk_below (g := gb262) (o := .cells #[.int .i64 a0_0, .int .i64 a0_1, .slice (some ad276) l0_2.length c0_2] 24 (0, 0)) (by (with_reducible repeat (first | refine bN ?_ _ | refine bD ?_ | refine bA ?_ _)); exact BK262.out) hb); have n3_ := Am (below_step (by repeat (first | (with_reducible first | exact HB.out | apply pA | apply pN | apply pD | refine pS ?_ GE262.out) | exact HB.out)) hb); clear HO279; clear BK262; clear HB; have HO279 := n0_; have HO284 := n1_; have BK262 := n2_; have HB := n3_; clear n0_ n1_ n2_ n3_; (try clear hb); (try clear hb2); (try clear hk); (try clear hi); (try clear ho0); have hcz52_0 : w51.cell? ⟨gb262, 0, none⟩ = some (.int .i64 a0_0) := (blk_cell BK262.out 0).trans rfl; have hcz52_1 : w51.cell? ⟨gb262, 1, none⟩ = some (.int .i64 a0_1) := (blk_cell BK262.out 1).trans rfl; have hcz52_2 : w51.cell? ⟨gb262, 2, none⟩ = some (.slice (some ad276) l0_2.length c0_2) := (blk_cell BK262.out 2).trans rfl; have hfz52_0 := blk_frozen BK262.out 0; have hfz52_1 := blk_frozen BK262.out 1; have hfz52_2 := blk_frozen BK262.out 2; obtain ⟨Ao53, co53, eo53⟩ := Kd.V_slice HO279.out; subst eo53; obtain ⟨Ao54, co54, eo54⟩ := Kd.V_slice HO284.out; subst eo54) | ((with_reducible refine gate_callee (f := 30) rfl ?_); refine goesL_ (some 61) rfl rfl Try.func30 (by kernel_rfl) rfl #[.slice Ao53 t277.length co53, .slice Ao54 t282.length co54] rfl (by (try simp only [List.map_toArray, List.map_cons, List.map_nil]); first | done | rfl | (simp only [List.length_drop, List.length_take]; rfl)) ?_; (with_reducible refine (tenetref24_mul.calls k _ _ t277 _ _ t282 t290 t293 _ ?side1 ?side2 ?side3 ?side4 A46.out).mono ?_); (case side1 => repeat (first | exact (Kd.V_reads' HO279.out).2.2 | (with_reducible refine Kd.C_alloc ?_ _) | (with_reducible refine Kd.C_drewN ?_ _) | (with_reducible refine Kd.C_drew ?_))); (case side2 => exact (Kd.V_reads' HO279.out).2.1); (case side3 => repeat (first | exact (Kd.V_reads' HO284.out).2.2 | (with_reducible refine Kd.C_alloc ?_ _) | (with_reducible refine Kd.C_drewN ?_ _) | (with_reducible refine Kd.C_drew ?_))); (case side4 => exact (Kd.V_reads' HO284.out).2.1); rintro e w55 ⟨v291, rfl, ho0, hb⟩; refine ⟨_, rfl, ?_⟩; have n0_ := Am (Kd.V_elder' (by (with_reducible repeat (first | apply Kd.V_alloc | apply Kd.V_drewN | apply Kd.V_drew)); exact HO279.out) (Kd.N_base ho0) hb); have n1_ := Am (Kd.V_elder' (by (with_reducible repeat (first | apply Kd.V_alloc | apply Kd.V_drewN | apply Kd.V_drew)); exact HO284.out) (Kd.N_base ho0) hb); have n2_ := Am (Kd.N_lower (Kd.N_mono (ok' := fun k_ => (w.heap.size ≤ k_) ∧ k_ ≠ gb262) ho0 (fun k_ hk_ => ⟨(Nat.le_trans (below_size (by repeat (first | (with_reducible first | exact HB.out | apply pA | apply pN | apply pD | refine pS ?_ GE262.out) | exact HB.out))) hk_), (Kd.freshB (g := gb262) (o := .cells #[.int .i64 a0_0, .int .i64 a0_1, .slice (some ad276) l0_2.length c0_2] 24 (0, 0)) (by (with_reducible repeat (first | refine bN ?_ _ | refine bD ?_ | refine bA ?_ _)); exact BK262.out) k_ hk_)⟩)) (below_size (by repeat (first | (with_reducible first | exact HB.out | apply pA | apply pN | apply pD | refine pS ?_ GE262.out) | exact HB.out)))); have n3_ := Am (blk_below (g := gb262) (o := .cells #[.int .i64 a0_0, .int .i64 a0_1, .slice (some ad276) l0_2.length c0_2] 24 (0, 0)) (by (with_reducible repeat (first | refine bN ?_ _ | refine bD ?_ | refine bA ?_ _)); exact BK262.out) hb); have n4_ := Am (below_step (by repeat (first | (with_reducible first | exact HB.out | apply pA | apply pN | apply pD | refine pS ?_ GE262.out) | exact HB.out)) hb); clear HO279; clear HO284; clear BK262; clear HB; have HO279 := n0_; have HO284 := n1_; have HO292 := n2_; have BK262 := n3_; have HB := n4_; clear n0_ n1_ n2_ n3_ n4_; (try clear hb); (try clear hb2); (try clear hk); (try clear hi); (try clear ho0)))
        go_ret2
        exact ⟨_, by first | rfl | (simp [errW_none, errW_some] <;> rfl) | (simp [*, errW_none, errW_some] <;> rfl), Kd.N_V (by (with_reducible repeat (first | apply Kd.N_alloc | apply Kd.N_drewN | apply Kd.N_drew)); exact Kd.N_mono HO292.out (fun _ hk => hk.1)), by repeat (first | (with_reducible first | exact HB.out | apply pA | apply pN | apply pD | refine pS ?_ GE262.out) | exact HB.out)⟩
      ·
       replace c34 := Bool.eq_false_iff.mpr c34
       subst c34
       have H1 : (some (([] : List (S57)), false)) = some (r1, r2) := by rw [if_neg (show ¬ (false = true) by decide)] at H; exact H
       clear H
       have H := H1
       clear H1
       simp only [Option.some.injEq, Prod.mk.injEq] at H
       obtain ⟨rfl, rfl⟩ := H
       go_enter Try.func20, Try.ntmps20
       go_wp2_with (first | ((with_reducible refine gate_dst (N := 1) rfl ?_); refine box_event ?hg (N := 1) ?hd (cs := #[.int .i64 a0_0, .int .i64 a0_1, .slice A0_2 l0_2.length c0_2]) (t := 24) ?hr ?_; (case hd => rfl); (case hg => rfl); (case hr => first | (go_simp; done) | (go_simp; rfl)); intro gb262 hg w56 hbox hb; have n0_ := Am (below_step (by repeat (first | (with_reducible first | exact HB.out | apply pA | apply pN | apply pD) | exact HB.out)) hb); have n1_ := Am (hbox); have n2_ := Am ((by rw [hg]; exact (below_size (by repeat (first | (with_reducible first | exact HB.out | apply pA | apply pN | apply pD) | exact HB.out))) : w.heap.size ≤ gb262)); have n3_ := Am ((by rw [hg]; exact (below_size (by repeat (first | (with_reducible first | exact HB.out | apply pA | apply pN | apply pD) | exact HB.out))) : w.heap.size ≤ gb262)); clear HB; have HB := n0_; have BK262 := n1_; have GW262 := n2_; have GE262 := n3_; clear n0_ n1_ n2_ n3_; clear hb hbox hg; have hcz57_0 : w56.cell? ⟨gb262, 0, none⟩ = some (.int .i64 a0_0) := (blk_cell BK262.out 0).trans rfl; have hcz57_1 : w56.cell? ⟨gb262, 1, none⟩ = some (.int .i64 a0_1) := (blk_cell BK262.out 1).trans rfl; have hcz57_2 : w56.cell? ⟨gb262, 2, none⟩ = some (.slice A0_2 l0_2.length c0_2) := (blk_cell BK262.out 2).trans rfl; have hfz57_0 := blk_frozen BK262.out 0; have hfz57_1 := blk_frozen BK262.out 1; have hfz57_2 := blk_frozen BK262.out 2; have p276 : 0 ≤ (0 : Int) := (by omega); have q276 : 0 < (l0_2.length : Int) := of_decide_eq_true (by first | (with_reducible assumption) | assumption); obtain ⟨ad276, A276_2, c276_2, e276, hx276_0, hx276_1, hx276_2, hl276_2, hi276_2⟩ := at_T24 HR0_2.out 0 p276 q276; cases e276; have qi276 : (0 < l0_2.length) = True := eq_true (by omega); (try rw [show ((0 : Int)).toNat = 0 from rfl] at hx276_0); (try rw [show 0 * 3 = 0 from rfl] at hx276_0); (try rw [Addr.add_zero'] at hx276_0); (try rw [show ((0 : Int)).toNat = 0 from rfl] at hx276_1); (try rw [show 0 * 3 = 0 from rfl] at hx276_1); (try rw [Addr.add_zero'] at hx276_1); (try rw [show ((0 : Int)).toNat = 0 from rfl] at hx276_2); (try rw [show 0 * 3 = 0 from rfl] at hx276_2); (try rw [Addr.add_zero'] at hx276_2); replace hx276_0 := (HB.out.cell (wB w _ hx276_0)).trans hx276_0; replace hx276_1 := (HB.out.cell (wB w _ hx276_1)).trans hx276_1; replace hx276_2 := (HB.out.cell (wB w _ hx276_2)).trans hx276_2; have HR276_2 := Am hi276_2; have HC276_2 := Am hl276_2; clear hi276_2 hl276_2; replace p276 := eq_true p276; replace q276 := eq_true q276) | ((with_reducible refine gate_callee (f := 20) rfl ?_); refine goesL_ (some 36) rfl rfl Try.func20 (by kernel_rfl) rfl #[.agg #[.int .i64 ((rd_T24 l0_2 0).f0), .int .i64 ((rd_T24 l0_2 0).f1), .slice A276_2 ((rd_T24 l0_2 0).f2).length c276_2]] rfl (by (try simp only [List.map_toArray, List.map_cons, List.map_nil]); first | done | rfl | (simp only [List.length_drop, List.length_take]; rfl)) ?_; (with_reducible refine (ih k (by omega) ((rd_T24 l0_2 0).f0) ((rd_T24 l0_2 0).f1) _ _ ((rd_T24 l0_2 0).f2) t277 true _ ?side1 ?side2 A30.out).mono ?_); (case side1 => repeat (first | exact (Kd.C_below HR276_2.out HB.out) | (with_reducible refine Kd.C_alloc ?_ _) | (with_reducible refine Kd.C_drewN ?_ _) | (with_reducible refine Kd.C_drew ?_))); (case side2 => exact HC276_2.out); rintro e w58 ⟨v278, rfl, ho0, hb⟩; refine ⟨_, rfl, ?_⟩; have n0_ := Am (Kd.V_lower (Kd.V_mono (ok' := fun k_ => (w.heap.size ≤ k_) ∧ k_ ≠ gb262) ho0 (fun k_ hk_ => ⟨(Nat.le_trans (below_size (by repeat (first | (with_reducible first | exact HB.out | apply pA | apply pN | apply pD | refine pS ?_ GE262.out) | exact HB.out))) hk_), (Kd.freshB (g := gb262) (o := .cells #[.int .i64 a0_0, .int .i64 a0_1, .slice (some ad276) l0_2.length c0_2] 24 (0, 0)) (by (with_reducible repeat (first | refine bN ?_ _ | refine bD ?_ | refine bA ?_ _)); exact BK262.out) k_ hk_)⟩)) (below_size (by repeat (first | (with_reducible first | exact HB.out | apply pA | apply pN | apply pD | refine pS ?_ GE262.out) | exact HB.out)))); have n1_ := Am (blk_below (g := gb262) (o := .cells #[.int .i64 a0_0, .int .i64 a0_1, .slice (some ad276) l0_2.length c0_2] 24 (0, 0)) (by (with_reducible repeat (first | refine bN ?_ _ | refine bD ?_ | refine bA ?_ _)); exact BK262.out) hb); have n2_ := Am (below_step (by repeat (first | (with_reducible first | exact HB.out | apply pA | apply pN | apply pD | refine pS ?_ GE262.out) | exact HB.out)) hb); clear BK262; clear HB; have HO279 := n0_; have BK262 := n1_; have HB := n2_; clear n0_ n1_ n2_; (try clear hb); (try clear hb2); (try clear hk); (try clear hi); (try clear ho0); have hcz59_0 : w58.cell? ⟨gb262, 0, none⟩ = some (.int .i64 a0_0) := (blk_cell BK262.out 0).trans rfl; have hcz59_1 : w58.cell? ⟨gb262, 1, none⟩ = some (.int .i64 a0_1) := (blk_cell BK262.out 1).trans rfl; have hcz59_2 : w58.cell? ⟨gb262, 2, none⟩ = some (.slice (some ad276) l0_2.length c0_2) := (blk_cell BK262.out 2).trans rfl; have hfz59_0 := blk_frozen BK262.out 0; have hfz59_1 := blk_frozen BK262.out 1; have hfz59_2 := blk_frozen BK262.out 2; have p281 : 0 ≤ (1 : Int) := (by omega); have q281 : 1 < (l0_2.length : Int) := of_decide_eq_true (by first | (with_reducible assumption) | assumption); obtain ⟨ad281, A281_2, c281_2, e281, hx281_0, hx281_1, hx281_2, hl281_2, hi281_2⟩ := at_T24 HR0_2.out 1 p281 q281; obtain rfl : ad276 = ad281 := (by injection e281); (try simp only [show (1 : Int).toNat = 1 from rfl, Nat.reduceMul, Nat.reduceEqDiff, Go.Addr.add, ↓reduceIte] at hx281_0); (try simp only [show (1 : Int).toNat = 1 from rfl, Nat.reduceMul, Nat.reduceEqDiff, Go.Addr.add, ↓reduceIte] at hx281_1); (try simp only [show (1 : Int).toNat = 1 from rfl, Nat.reduceMul, Nat.reduceEqDiff, Go.Addr.add, ↓reduceIte] at hx281_2); have qi281 : (1 < l0_2.length) = True := eq_true (by omega); (try rw [show ((1 : Int)).toNat = 1 from rfl] at hx281_0); (try rw [show 1 * 3 = 3 from rfl] at hx281_0); (try rw [show ((1 : Int)).toNat = 1 from rfl] at hx281_1); (try rw [show 1 * 3 = 3 from rfl] at hx281_1); (try rw [show ((1 : Int)).toNat = 1 from rfl] at hx281_2); (try rw [show 1 * 3 = 3 from rfl] at hx281_2); replace hx281_0 := (HB.out.cell (wB w _ hx281_0)).trans hx281_0; replace hx281_1 := (HB.out.cell (wB w _ hx281_1)).trans hx281_1; replace hx281_2 := (HB.out.cell (wB w _ hx281_2)).trans hx281_2; have HR281_2 := Am hi281_2; have HC281_2 := Am hl281_2; clear hi281_2 hl281_2; replace p281 := eq_true p281; replace q281 := eq_true q281) | ((with_reducible refine gate_callee (f := 20) rfl ?_); refine goesL_ (some 46) rfl rfl Try.func20 (by kernel_rfl) rfl #[.agg #[.int .i64 ((rd_T24 l0_2 1).f0), .int .i64 ((rd_T24 l0_2 1).f1), .slice A281_2 ((rd_T24 l0_2 1).f2).length c281_2]] rfl (by (try simp only [List.map_toArray, List.map_cons, List.map_nil]); first | done | rfl | (simp only [List.length_drop, List.length_take]; rfl)) ?_; (with_reducible refine (ih k (by omega) ((rd_T24 l0_2 1).f0) ((rd_T24 l0_2 1).f1) _ _ ((rd_T24 l0_2 1).f2) t282 false _ ?side1 ?side2 A33.out).mono ?_); (case side1 => repeat (first | exact (Kd.C_below HR281_2.out HB.out) | (with_reducible refine Kd.C_alloc ?_ _) | (with_reducible refine Kd.C_drewN ?_ _) | (with_reducible refine Kd.C_drew ?_))); (case side2 => exact HC281_2.out); rintro e w60 ⟨v283, rfl, ho0, hb⟩; refine ⟨_, rfl, ?_⟩; have n0_ := Am (Kd.V_below (by (with_reducible repeat (first | apply Kd.V_alloc | apply Kd.V_drewN | apply Kd.V_drew)); exact HO279.out) hb); have n1_ := Am (Kd.V_lower (Kd.V_mono (ok' := fun k_ => (w.heap.size ≤ k_) ∧ k_ ≠ gb262) ho0 (fun k_ hk_ => ⟨(Nat.le_trans (below_size (by repeat (first | (with_reducible first | exact HB.out | apply pA | apply pN | apply pD | refine pS ?_ GE262.out) | exact HB.out))) hk_), (Kd.freshB (g := gb262) (o := .cells #[.int .i64 a0_0, .int .i64 a0_1, .slice (some ad276) l0_2.length c0_2] 24 (0, 0)) (by (with_reducible repeat (first | refine bN ?_ _ | refine bD ?_ | refine bA ?_ _)); exact BK262.out) k_ hk_)⟩)) (below_size (by repeat (first | (with_reducible first | exact HB.out | apply pA | apply pN | apply pD | refine pS ?_ GE262.out) | exact HB.out)))); have n2_ := Am (blk_below (g := gb262) (o := .cells #[.int .i64 a0_0, .int .i64 a0_1, .slice (some ad276) l0_2.length c0_2] 24 (0, 0)) (by (with_reducible repeat (first | refine bN ?_ _ | refine bD ?_ | refine bA ?_ _)); exact BK262.out) hb); have n3_ := Am (below_step (by repeat (first | (with_reducible first | exact HB.out | apply pA | apply pN | apply pD | refine pS ?_ GE262.out) | exact HB.out)) hb); clear HO279; clear BK262; clear HB; have HO279 := n0_; have HO284 := n1_; have BK262 := n2_; have HB := n3_; clear n0_ n1_ n2_ n3_; (try clear hb); (try clear hb2); (try clear hk); (try clear hi); (try clear ho0)))
       go_ret2
       exact ⟨_, by first | rfl | (simp [errW_none, errW_some] <;> rfl) | (simp [*, errW_none, errW_some] <;> rfl), (by exact Kd.V_nil _ _ _ _ _), by repeat (first | (with_reducible first | exact HB.out | apply pA | apply pN | apply pD | refine pS ?_ GE262.out) | exact HB.out)⟩
     ·
      rw [if_neg c32] at H
      exact absurd H (by simp)
    ·
     replace c31 := Bool.eq_false_iff.mpr c31
     subst c31
     have H1 : (some (([] : List (S57)), false)) = some (r1, r2) := by rw [if_neg (show ¬ (false = true) by decide)] at H; exact H
     clear H
     have H := H1
     clear H1
     simp only [Option.some.injEq, Prod.mk.injEq] at H
     obtain ⟨rfl, rfl⟩ := H
     go_enter Try.func20, Try.ntmps20
     go_wp2_with (first | ((with_reducible refine gate_dst (N := 1) rfl ?_); refine box_event ?hg (N := 1) ?hd (cs := #[.int .i64 a0_0, .int .i64 a0_1, .slice A0_2 l0_2.length c0_2]) (t := 24) ?hr ?_; (case hd => rfl); (case hg => rfl); (case hr => first | (go_simp; done) | (go_simp; rfl)); intro gb262 hg w61 hbox hb; have n0_ := Am (below_step (by repeat (first | (with_reducible first | exact HB.out | apply pA | apply pN | apply pD) | exact HB.out)) hb); have n1_ := Am (hbox); have n2_ := Am ((by rw [hg]; exact (below_size (by repeat (first | (with_reducible first | exact HB.out | apply pA | apply pN | apply pD) | exact HB.out))) : w.heap.size ≤ gb262)); have n3_ := Am ((by rw [hg]; exact (below_size (by repeat (first | (with_reducible first | exact HB.out | apply pA | apply pN | apply pD) | exact HB.out))) : w.heap.size ≤ gb262)); clear HB; have HB := n0_; have BK262 := n1_; have GW262 := n2_; have GE262 := n3_; clear n0_ n1_ n2_ n3_; clear hb hbox hg; have hcz62_0 : w61.cell? ⟨gb262, 0, none⟩ = some (.int .i64 a0_0) := (blk_cell BK262.out 0).trans rfl; have hcz62_1 : w61.cell? ⟨gb262, 1, none⟩ = some (.int .i64 a0_1) := (blk_cell BK262.out 1).trans rfl; have hcz62_2 : w61.cell? ⟨gb262, 2, none⟩ = some (.slice A0_2 l0_2.length c0_2) := (blk_cell BK262.out 2).trans rfl; have hfz62_0 := blk_frozen BK262.out 0; have hfz62_1 := blk_frozen BK262.out 1; have hfz62_2 := blk_frozen BK262.out 2; have p276 : 0 ≤ (0 : Int) := (by omega); have q276 : 0 < (l0_2.length : Int) := of_decide_eq_true (by first | (with_reducible assumption) | assumption); obtain ⟨ad276, A276_2, c276_2, e276, hx276_0, hx276_1, hx276_2, hl276_2, hi276_2⟩ := at_T24 HR0_2.out 0 p276 q276; cases e276; have qi276 : (0 < l0_2.length) = True := eq_true (by omega); (try rw [show ((0 : Int)).toNat = 0 from rfl] at hx276_0); (try rw [show 0 * 3 = 0 from rfl] at hx276_0); (try rw [Addr.add_zero'] at hx276_0); (try rw [show ((0 : Int)).toNat = 0 from rfl] at hx276_1); (try rw [show 0 * 3 = 0 from rfl] at hx276_1); (try rw [Addr.add_zero'] at hx276_1); (try rw [show ((0 : Int)).toNat = 0 from rfl] at hx276_2); (try rw [show 0 * 3 = 0 from rfl] at hx276_2); (try rw [Addr.add_zero'] at hx276_2); replace hx276_0 := (HB.out.cell (wB w _ hx276_0)).trans hx276_0; replace hx276_1 := (HB.out.cell (wB w _ hx276_1)).trans hx276_1; replace hx276_2 := (HB.out.cell (wB w _ hx276_2)).trans hx276_2; have HR276_2 := Am hi276_2; have HC276_2 := Am hl276_2; clear hi276_2 hl276_2; replace p276 := eq_true p276; replace q276 := eq_true q276) | ((with_reducible refine gate_callee (f := 20) rfl ?_); refine goesL_ (some 36) rfl rfl Try.func20 (by kernel_rfl) rfl #[.agg #[.int .i64 ((rd_T24 l0_2 0).f0), .int .i64 ((rd_T24 l0_2 0).f1), .slice A276_2 ((rd_T24 l0_2 0).f2).length c276_2]] rfl (by (try simp only [List.map_toArray, List.map_cons, List.map_nil]); first | done | rfl | (simp only [List.length_drop, List.length_take]; rfl)) ?_; (with_reducible refine (ih k (by omega) ((rd_T24 l0_2 0).f0) ((rd_T24 l0_2 0).f1) _ _ ((rd_T24 l0_2 0).f2) t277 false _ ?side1 ?side2 A30.out).mono ?_); (case side1 => repeat (first | exact (Kd.C_below HR276_2.out HB.out) | (with_reducible refine Kd.C_alloc ?_ _) | (with_reducible refine Kd.C_drewN ?_ _) | (with_reducible refine Kd.C_drew ?_))); (case side2 => exact HC276_2.out); rintro e w63 ⟨v278, rfl, ho0, hb⟩; refine ⟨_, rfl, ?_⟩; have n0_ := Am (Kd.V_lower (Kd.V_mono (ok' := fun k_ => (w.heap.size ≤ k_) ∧ k_ ≠ gb262) ho0 (fun k_ hk_ => ⟨(Nat.le_trans (below_size (by repeat (first | (with_reducible first | exact HB.out | apply pA | apply pN | apply pD | refine pS ?_ GE262.out) | exact HB.out))) hk_), (Kd.freshB (g := gb262) (o := .cells #[.int .i64 a0_0, .int .i64 a0_1, .slice (some ad276) l0_2.length c0_2] 24 (0, 0)) (by (with_reducible repeat (first | refine bN ?_ _ | refine bD ?_ | refine bA ?_ _)); exact BK262.out) k_ hk_)⟩)) (below_size (by repeat (first | (with_reducible first | exact HB.out | apply pA | apply pN | apply pD | refine pS ?_ GE262.out) | exact HB.out)))); have n1_ := Am (blk_below (g := gb262) (o := .cells #[.int .i64 a0_0, .int .i64 a0_1, .slice (some ad276) l0_2.length c0_2] 24 (0, 0)) (by (with_reducible repeat (first | refine bN ?_ _ | refine bD ?_ | refine bA ?_ _)); exact BK262.out) hb); have n2_ := Am (below_step (by repeat (first | (with_reducible first | exact HB.out | apply pA | apply pN | apply pD | refine pS ?_ GE262.out) | exact HB.out)) hb); clear BK262; clear HB; have HO279 := n0_; have BK262 := n1_; have HB := n2_; clear n0_ n1_ n2_; (try clear hb); (try clear hb2); (try clear hk); (try clear hi); (try clear ho0)))
     go_ret2
     exact ⟨_, by first | rfl | (simp [errW_none, errW_some] <;> rfl) | (simp [*, errW_none, errW_some] <;> rfl), (by exact Kd.V_nil _ _ _ _ _), by repeat (first | (with_reducible first | exact HB.out | apply pA | apply pN | apply pD | refine pS ?_ GE262.out) | exact HB.out)⟩
   ·
    rw [if_neg c29] at H
    exact absurd H (by simp)

end Go.Proofs.Ytjnplfbggklkfaa.Rg

-- Written by a program of this claim's session: print.py's form, some functions told by hand.
namespace Go.Proofs.Ytjnplfbggklkfaa.Rg
open Go.RowKit Go.Proofs.YtjnplfbggklkfaaW.PrintWords Go.Proofs.YtjnplfbggklkfaaW.PrintLast Go.Proofs.YtjnplfbggklkfaaW.PrintMore
attribute [local go_sem] max2_int min2_int max_two min_two max_three min_three max_four min_four   -- for this text's walks alone
set_option linter.unusedVariables false
set_option linter.unusedSimpArgs false

/-! ### tenetref24_EqMonos: function 21 -/
mutual
def tenetref24_EqMonos.l0 : Nat → List (S57) → List (S57) → Int → Option (Bool)
 | 0, _, _, _ => none
 | k + 1, x0, x1, x5 => if x5 < (x0.length : Int) then (if 0 ≤ x5 then (if x5 < (x1.length : Int) then (if ((rd_T57 x0 x5).f0) = ((rd_T57 x1 x5).f0) then (tenetref24_EqMonos.j1 k x0 x1 x5 ((((rd_T57 x0 x5).f1).length : Int) != (((rd_T57 x1 x5).f1).length : Int))) else (tenetref24_EqMonos.j1 k x0 x1 x5 true)) else (none)) else (none)) else (some true)
def tenetref24_EqMonos.j1 : Nat → List (S57) → List (S57) → Int → Bool → Option (Bool)
 | 0, _, _, _, _ => none
 | k + 1, x0, x1, x5, x43 => if x43 = true then (some false) else (tenetref24_EqMonos.l1 k x0 x1 x5 0)
def tenetref24_EqMonos.l1 : Nat → List (S57) → List (S57) → Int → Int → Option (Bool)
 | 0, _, _, _, _ => none
 | k + 1, x0, x1, x5, x6 => if 0 ≤ x5 then (if x5 < (x0.length : Int) then (if x6 < (((rd_T57 x0 x5).f1).length : Int) then (if 0 ≤ x6 then (if x5 < (x1.length : Int) then (if x6 < (((rd_T57 x1 x5).f1).length : Int) then (if (rd ((rd_T57 x0 x5).f1) x6) = (rd ((rd_T57 x1 x5).f1) x6) then (tenetref24_EqMonos.l1 k x0 x1 x5 (wrap64 (x6 + 1))) else (some false)) else (none)) else (none)) else (none)) else (tenetref24_EqMonos.l0 k x0 x1 (wrap64 (x5 + 1)))) else (none)) else (none)
end
def tenetref24_EqMonos.f (k : Nat) (l0 : List (S57)) (l1 : List (S57)) : Option (Bool) := if (l0.length : Int) = (l1.length : Int) then (tenetref24_EqMonos.l0 k l0 l1 0) else (some false)
theorem tenetref24_EqMonos.mono_l : ∀ k, (∀ y0 y1 y2, LeO (tenetref24_EqMonos.l0 k y0 y1 y2) (tenetref24_EqMonos.l0 (k + 1) y0 y1 y2)) ∧ (∀ y0 y1 y2 y3, LeO (tenetref24_EqMonos.j1 k y0 y1 y2 y3) (tenetref24_EqMonos.j1 (k + 1) y0 y1 y2 y3)) ∧ (∀ y0 y1 y2 y3, LeO (tenetref24_EqMonos.l1 k y0 y1 y2 y3) (tenetref24_EqMonos.l1 (k + 1) y0 y1 y2 y3))
 | 0 => ⟨fun _ _ _ r h => by simp [tenetref24_EqMonos.l0] at h, fun _ _ _ _ r h => by simp [tenetref24_EqMonos.j1] at h, fun _ _ _ _ r h => by simp [tenetref24_EqMonos.l1] at h⟩
 | k + 1 => by
  obtain ⟨ih0, ih1, ih2⟩ := tenetref24_EqMonos.mono_l k
  refine ⟨?_, ?_, ?_⟩
  ·
   intro y0 y1 y2
   unfold tenetref24_EqMonos.l0
   repeat' first
   | (with_reducible exact ih0 _ _ _)
   | (with_reducible exact ih1 _ _ _ _)
   | (with_reducible exact ih2 _ _ _ _)
   | (with_reducible exact LeO.refl _)
   | (with_reducible exact LeO.none _)
   | (with_reducible refine LeO.ite ?_ ?_)
   | (with_reducible refine LeO.bind ?_ (fun _ => ?_))
   | exact ih0 _ _ _
   | exact ih1 _ _ _ _
   | exact ih2 _ _ _ _
   | exact LeO.none _
   | refine LeO.ite ?_ ?_
   | refine LeO.bind ?_ (fun _ => ?_)
  ·
   intro y0 y1 y2 y3
   unfold tenetref24_EqMonos.j1
   repeat' first
   | (with_reducible exact ih0 _ _ _)
   | (with_reducible exact ih1 _ _ _ _)
   | (with_reducible exact ih2 _ _ _ _)
   | (with_reducible exact LeO.refl _)
   | (with_reducible exact LeO.none _)
   | (with_reducible refine LeO.ite ?_ ?_)
   | (with_reducible refine LeO.bind ?_ (fun _ => ?_))
   | exact ih0 _ _ _
   | exact ih1 _ _ _ _
   | exact ih2 _ _ _ _
   | exact LeO.none _
   | refine LeO.ite ?_ ?_
   | refine LeO.bind ?_ (fun _ => ?_)
  ·
   intro y0 y1 y2 y3
   unfold tenetref24_EqMonos.l1
   repeat' first
   | (with_reducible exact ih0 _ _ _)
   | (with_reducible exact ih1 _ _ _ _)
   | (with_reducible exact ih2 _ _ _ _)
   | (with_reducible exact LeO.refl _)
   | (with_reducible exact LeO.none _)
   | (with_reducible refine LeO.ite ?_ ?_)
   | (with_reducible refine LeO.bind ?_ (fun _ => ?_))
   | exact ih0 _ _ _
   | exact ih1 _ _ _ _
   | exact ih2 _ _ _ _
   | exact LeO.none _
   | refine LeO.ite ?_ ?_
   | refine LeO.bind ?_ (fun _ => ?_)
theorem tenetref24_EqMonos.mono : ∀ a0 a1 k, LeO (tenetref24_EqMonos.f k a0 a1) (tenetref24_EqMonos.f (k + 1) a0 a1) := by
 intro a0 a1 k
 obtain ⟨ih0, ih1, ih2⟩ := tenetref24_EqMonos.mono_l k
 unfold tenetref24_EqMonos.f
 repeat' first
   | (with_reducible exact ih0 _ _ _)
   | (with_reducible exact ih1 _ _ _ _)
   | (with_reducible exact ih2 _ _ _ _)
   | (with_reducible exact LeO.refl _)
   | (with_reducible exact LeO.none _)
   | (with_reducible refine LeO.ite ?_ ?_)
   | (with_reducible refine LeO.bind ?_ (fun _ => ?_))
   | exact ih0 _ _ _
   | exact ih1 _ _ _ _
   | exact ih2 _ _ _ _
   | exact LeO.none _
   | refine LeO.ite ?_ ?_
   | refine LeO.bind ?_ (fun _ => ?_)
set_option maxHeartbeats 8000000 in
set_option maxRecDepth 100000 in
theorem tenetref24_EqMonos.calls (k : Nat) (A0 : Option Addr) (c0 : Nat) (l0 : List (S57)) (A1 : Option Addr) (c1 : Nat) (l1 : List (S57)) (r : Bool) (w : World) (hr0 : Kd.C k57 w A0 l0.length l0) (hc0 : l0.length ≤ c0) (hr1 : Kd.C k57 w A1 l1.length l1) (hc1 : l1.length ≤ c1) (h : tenetref24_EqMonos.f k l0 l1 = some r) :
  Calls Try.prog 21 #[.slice A0 l0.length c0, .slice A1 l1.length c1] w fun e w' => e = .returned (.bool r) ∧ Drawn0 w w' := by
 have HR0 := Am hr0
 have HC0 := Am hc0
 clear hr0 hc0
 have HR1 := Am hr1
 have HC1 := Am hc1
 clear hr1 hc1
 have H : (if (l0.length : Int) = (l1.length : Int) then (tenetref24_EqMonos.l0 k l0 l1 0) else (some false)) = some r := h
 clear h
 by_cases c3 : (l0.length : Int) = (l1.length : Int)
 ·
  rw [if_pos c3] at H
  have c3b0 : ((l0.length : Int) == (l1.length : Int)) = true := beq_iff_eq.mpr c3
  have c3b1 : ((l0.length : Int) != (l1.length : Int)) = false := bne_eq_false_iff_eq.mpr c3
  have c3b2 : (l0.length == l1.length) = true := by first | simpa using c3 | (simp at c3 ⊢; omega)
  clear c3
  have H' := Am H
  clear H
  go_enter Try.func21, Try.ntmps21
  go_wp2
  repeat (go_quiet (fail); try go_wp2)
  go_loopg [5] k (fun kq v5 w' => ∃ (x5_1 : Int), v5 = .int .i64 x5_1 ∧ Aside0 (tenetref24_EqMonos.l0 kq l0 l1 x5_1 = some r) ∧ Aside0 (kq ≤ k) ∧ Drawn0 w w')
  case atStart => exact ⟨(0), (by first | rfl | (simp; done) | (simp [*]; done)), H', ⟨Nat.le_refl _⟩, by repeat (first | exact Drawn0.refl _ | apply Drawn0.step)⟩
  case round =>
   clear H'
   try clear c1
   try clear c2
   try clear p2
   try clear c3
   try clear c3b0
   try clear c3b1
   try clear c3b2
   obtain ⟨x5_1, rfl, HA, HK1, ⟨m1, rfl⟩⟩ := hrel
   cases gk with
   | zero => exact absurd HA.out (by simp [tenetref24_EqMonos.l0])
   | succ k1 =>
    have H := HA.out
    clear HA
    simp only [tenetref24_EqMonos.l0] at H
    by_cases c4 : x5_1 < (l0.length : Int)
    ·
     rw [if_pos c4] at H
     have c4b0 : decide (x5_1 < (l0.length : Int)) = true := decide_eq_true c4
     clear c4
     have HC5 := Am H
     clear H
     go_upto_region 6 with (fail)
     repeat (go_quiet (fail); go_upto_region 6 with (fail))
     go_cut [43] (fun v43 wc => ∃ (kq : Nat) (x43_4 : Bool), v43 = .bool x43_4 ∧ Aside0 (tenetref24_EqMonos.j1 kq l0 l1 x5_1 x43_4 = some r) ∧ Aside0 (kq ≤ k1) ∧ Drawn0 w wc)
     case first =>
      have H := HC5.out
      clear HC5
      by_cases c6 : 0 ≤ x5_1
      ·
       rw [if_pos c6] at H
       have c6b0 : decide (0 ≤ x5_1) = true := decide_eq_true c6
       clear c6
       (first | rw [c6b0] | (simp only [i64_w, i32_w]; rw [c6b0]) | skip)
       by_cases c7 : x5_1 < (l1.length : Int)
       ·
        rw [if_pos c7] at H
        have c7b0 : decide (x5_1 < (l1.length : Int)) = true := decide_eq_true c7
        clear c7
        by_cases c8 : ((rd_T57 l0 x5_1).f0) = ((rd_T57 l1 x5_1).f0)
        ·
         rw [if_pos c8] at H
         have c8b0 : (((rd_T57 l0 x5_1).f0) == ((rd_T57 l1 x5_1).f0)) = true := beq_iff_eq.mpr c8
         have c8b1 : (((rd_T57 l0 x5_1).f0) != ((rd_T57 l1 x5_1).f0)) = false := bne_eq_false_iff_eq.mpr c8
         clear c8
         have H' := Am H
         clear H
         have p294 : 0 ≤ (x5_1 : Int) := of_decide_eq_true (by first | (with_reducible assumption) | assumption)
         have q294 : x5_1 < (l0.length : Int) := of_decide_eq_true (by first | (with_reducible assumption) | assumption)
         obtain ⟨ad294, A294_1, c294_1, e294, hx294_0, hx294_1, hl294_1, hi294_1⟩ := at_T57 HR0.out x5_1 p294 q294
         cases e294
         have HR294_1 := Am hi294_1
         have HC294_1 := Am hl294_1
         clear hi294_1 hl294_1
         replace p294 := eq_true p294
         replace q294 := eq_true q294
         have p295 : 0 ≤ (x5_1 : Int) := of_decide_eq_true (by first | (with_reducible assumption) | assumption)
         have q295 : x5_1 < (l1.length : Int) := of_decide_eq_true (by first | (with_reducible assumption) | assumption)
         obtain ⟨ad295, A295_1, c295_1, e295, hx295_0, hx295_1, hl295_1, hi295_1⟩ := at_T57 HR1.out x5_1 p295 q295
         cases e295
         have HR295_1 := Am hi295_1
         have HC295_1 := Am hl295_1
         clear hi295_1 hl295_1
         replace p295 := eq_true p295
         replace q295 := eq_true q295
         have p296 : 0 ≤ (x5_1 : Int) := of_decide_eq_true (by first | (with_reducible assumption) | assumption)
         have q296 : x5_1 < (l0.length : Int) := of_decide_eq_true (by first | (with_reducible assumption) | assumption)
         obtain ⟨ad296, A296_1, c296_1, e296, hx296_0, hx296_1, hl296_1, hi296_1⟩ := at_T57 HR0.out x5_1 p296 q296
         obtain rfl : ad294 = ad296 := (by injection e296)
         have HR296_1 := Am hi296_1
         have HC296_1 := Am hl296_1
         clear hi296_1 hl296_1
         replace p296 := eq_true p296
         replace q296 := eq_true q296
         have ea_ := Option.some.inj (hx294_1.symm.trans hx296_1)
         injection ea_ with ea_ en_ ec_
         subst ea_
         subst ec_
         clear en_
         have p297 : 0 ≤ (x5_1 : Int) := of_decide_eq_true (by first | (with_reducible assumption) | assumption)
         have q297 : x5_1 < (l1.length : Int) := of_decide_eq_true (by first | (with_reducible assumption) | assumption)
         obtain ⟨ad297, A297_1, c297_1, e297, hx297_0, hx297_1, hl297_1, hi297_1⟩ := at_T57 HR1.out x5_1 p297 q297
         obtain rfl : ad295 = ad297 := (by injection e297)
         have HR297_1 := Am hi297_1
         have HC297_1 := Am hl297_1
         clear hi297_1 hl297_1
         replace p297 := eq_true p297
         replace q297 := eq_true q297
         have ea_ := Option.some.inj (hx295_1.symm.trans hx297_1)
         injection ea_ with ea_ en_ ec_
         subst ea_
         subst ec_
         clear en_
         go_wp2
         repeat (go_quiet (fail); try go_wp2)
         go_meet
         case rel => exact ⟨_, (((((rd_T57 l0 x5_1).f1).length : Int) != (((rd_T57 l1 x5_1).f1).length : Int))), (by first | rfl | (simp; done) | (simp [*]; done)), H', ⟨by have := HK1.out; first | omega | exact Nat.le_refl _⟩, by repeat (first | exact Drawn0.refl _ | apply Drawn0.step)⟩
        ·
         rw [if_neg c8] at H
         have c8b0 : (((rd_T57 l0 x5_1).f0) == ((rd_T57 l1 x5_1).f0)) = false := beq_eq_false_iff_ne.mpr c8
         have c8b1 : (((rd_T57 l0 x5_1).f0) != ((rd_T57 l1 x5_1).f0)) = true := bne_iff_ne.mpr c8
         have H' := Am H
         clear H
         have p294 : 0 ≤ (x5_1 : Int) := of_decide_eq_true (by first | (with_reducible assumption) | assumption)
         have q294 : x5_1 < (l0.length : Int) := of_decide_eq_true (by first | (with_reducible assumption) | assumption)
         obtain ⟨ad294, A294_1, c294_1, e294, hx294_0, hx294_1, hl294_1, hi294_1⟩ := at_T57 HR0.out x5_1 p294 q294
         cases e294
         have HR294_1 := Am hi294_1
         have HC294_1 := Am hl294_1
         clear hi294_1 hl294_1
         replace p294 := eq_true p294
         replace q294 := eq_true q294
         have p295 : 0 ≤ (x5_1 : Int) := of_decide_eq_true (by first | (with_reducible assumption) | assumption)
         have q295 : x5_1 < (l1.length : Int) := of_decide_eq_true (by first | (with_reducible assumption) | assumption)
         obtain ⟨ad295, A295_1, c295_1, e295, hx295_0, hx295_1, hl295_1, hi295_1⟩ := at_T57 HR1.out x5_1 p295 q295
         cases e295
         have HR295_1 := Am hi295_1
         have HC295_1 := Am hl295_1
         clear hi295_1 hl295_1
         replace p295 := eq_true p295
         replace q295 := eq_true q295
         go_wp2
         repeat (go_quiet (fail); try go_wp2)
         go_meet
         case rel => exact ⟨_, (true), (by first | rfl | (simp; done) | (simp [*]; done)), H', ⟨by have := HK1.out; first | omega | exact Nat.le_refl _⟩, by repeat (first | exact Drawn0.refl _ | apply Drawn0.step)⟩
       ·
        rw [if_neg c7] at H
        exact absurd H (by simp)
      ·
       rw [if_neg c6] at H
       exact absurd H (by simp)
     case rest =>
      clear HC5
      try clear c1
      try clear c2
      try clear p2
      try clear q2
      try clear hx2
      try clear c3
      try clear c3b0
      try clear c3b1
      try clear c3b2
      try clear c4
      try clear c4b0
      try clear c6
      try clear c6b0
      try clear c7
      try clear c7b0
      try clear c8
      try clear c8b0
      try clear c8b1
      try clear hx294_0
      try clear hx294_1
      try clear hx295_0
      try clear hx295_1
      try clear hx296_0
      try clear hx296_1
      try clear hx297_0
      try clear hx297_1
      try clear p2
      try clear p294
      try clear p295
      try clear p296
      try clear p297
      try clear q294
      try clear q295
      try clear q296
      try clear q297
      obtain ⟨kq, x43_4, rfl, HA, HJ4, ⟨mc4, rfl⟩⟩ := hcut
      cases kq with
      | zero => exact absurd HA.out (by simp [tenetref24_EqMonos.j1])
      | succ kj4 =>
       have H := HA.out
       clear HA
       simp only [tenetref24_EqMonos.j1] at H
       by_cases c9 : x43_4 = true
       ·
        subst c9
        have H1 : (some false) = some r := by rw [if_pos rfl] at H; exact H
        clear H
        have H := H1
        clear H1
        obtain rfl := Option.some.inj H
        go_wp2
        repeat (go_quiet (fail); try go_wp2)
        go_ret
        exact ⟨by first | rfl | (simp; done) | (simp [*]; done), by repeat (first | exact Drawn0.refl _ | apply Drawn0.step)⟩
       ·
        replace c9 := Bool.eq_false_iff.mpr c9
        subst c9
        have H1 : (tenetref24_EqMonos.l1 kj4 l0 l1 x5_1 0) = some r := by rw [if_neg (show ¬ (false = true) by decide)] at H; exact H
        clear H
        have H := H1
        clear H1
        have H' := Am H
        clear H
        go_wp2
        repeat (go_quiet (fail); try go_wp2)
        go_loopg [6] kj4 (fun kq v6 w' => ∃ (x6_3 : Int), v6 = .int .i64 x6_3 ∧ Aside0 (tenetref24_EqMonos.l1 kq l0 l1 x5_1 x6_3 = some r) ∧ Aside0 (kq ≤ kj4) ∧ Drawn0 w w')
        case atStart => exact ⟨(0), (by first | rfl | (simp; done) | (simp [*]; done)), H', ⟨Nat.le_refl _⟩, by repeat (first | exact Drawn0.refl _ | apply Drawn0.step)⟩
        case round =>
         clear H'
         try clear c1
         try clear c2
         try clear p2
         try clear q2
         try clear hx2
         try clear c3
         try clear c3b0
         try clear c3b1
         try clear c3b2
         try clear c4
         try clear c4b0
         try clear c6
         try clear c6b0
         try clear c7
         try clear c7b0
         try clear c8
         try clear c8b0
         try clear c8b1
         try clear c9
         try clear hx294_0
         try clear hx294_1
         try clear hx295_0
         try clear hx295_1
         try clear hx296_0
         try clear hx296_1
         try clear hx297_0
         try clear hx297_1
         try clear p2
         try clear p294
         try clear p295
         try clear p296
         try clear p297
         try clear q2
         try clear q294
         try clear q295
         try clear q296
         try clear q297
         obtain ⟨x6_3, rfl, HA, HK3, ⟨m3, rfl⟩⟩ := hrel
         cases gk with
         | zero => exact absurd HA.out (by simp [tenetref24_EqMonos.l1])
         | succ k3 =>
          have H := HA.out
          clear HA
          simp only [tenetref24_EqMonos.l1] at H
          by_cases c10 : 0 ≤ x5_1
          ·
           rw [if_pos c10] at H
           have c10b0 : decide (0 ≤ x5_1) = true := decide_eq_true c10
           clear c10
           by_cases c11 : x5_1 < (l0.length : Int)
           ·
            rw [if_pos c11] at H
            have c11b0 : decide (x5_1 < (l0.length : Int)) = true := decide_eq_true c11
            clear c11
            by_cases c12 : x6_3 < (((rd_T57 l0 x5_1).f1).length : Int)
            ·
             rw [if_pos c12] at H
             have c12b0 : decide (x6_3 < (((rd_T57 l0 x5_1).f1).length : Int)) = true := decide_eq_true c12
             clear c12
             by_cases c13 : 0 ≤ x6_3
             ·
              rw [if_pos c13] at H
              have c13b0 : decide (0 ≤ x6_3) = true := decide_eq_true c13
              clear c13
              by_cases c14 : x5_1 < (l1.length : Int)
              ·
               rw [if_pos c14] at H
               have c14b0 : decide (x5_1 < (l1.length : Int)) = true := decide_eq_true c14
               clear c14
               by_cases c15 : x6_3 < (((rd_T57 l1 x5_1).f1).length : Int)
               ·
                rw [if_pos c15] at H
                have c15b0 : decide (x6_3 < (((rd_T57 l1 x5_1).f1).length : Int)) = true := decide_eq_true c15
                clear c15
                by_cases c16 : (rd ((rd_T57 l0 x5_1).f1) x6_3) = (rd ((rd_T57 l1 x5_1).f1) x6_3)
                ·
                 rw [if_pos c16] at H
                 have c16b0 : ((rd ((rd_T57 l0 x5_1).f1) x6_3) == (rd ((rd_T57 l1 x5_1).f1) x6_3)) = true := beq_iff_eq.mpr c16
                 have c16b1 : ((rd ((rd_T57 l0 x5_1).f1) x6_3) != (rd ((rd_T57 l1 x5_1).f1) x6_3)) = false := bne_eq_false_iff_eq.mpr c16
                 clear c16
                 have H' := Am H
                 clear H
                 have p298 : 0 ≤ (x5_1 : Int) := of_decide_eq_true (by first | (with_reducible assumption) | assumption)
                 have q298 : x5_1 < (l0.length : Int) := of_decide_eq_true (by first | (with_reducible assumption) | assumption)
                 obtain ⟨ad298, A298_1, c298_1, e298, hx298_0, hx298_1, hl298_1, hi298_1⟩ := at_T57 HR0.out x5_1 p298 q298
                 cases e298
                 have HR298_1 := Am hi298_1
                 have HC298_1 := Am hl298_1
                 clear hi298_1 hl298_1
                 replace p298 := eq_true p298
                 replace q298 := eq_true q298
                 have p299 : 0 ≤ (x5_1 : Int) := of_decide_eq_true (by first | (with_reducible assumption) | assumption)
                 have q299 : x5_1 < (l0.length : Int) := of_decide_eq_true (by first | (with_reducible assumption) | assumption)
                 obtain ⟨ad299, A299_1, c299_1, e299, hx299_0, hx299_1, hl299_1, hi299_1⟩ := at_T57 HR0.out x5_1 p299 q299
                 obtain rfl : ad298 = ad299 := (by injection e299)
                 have HR299_1 := Am hi299_1
                 have HC299_1 := Am hl299_1
                 clear hi299_1 hl299_1
                 replace p299 := eq_true p299
                 replace q299 := eq_true q299
                 have ea_ := Option.some.inj (hx298_1.symm.trans hx299_1)
                 injection ea_ with ea_ en_ ec_
                 subst ea_
                 subst ec_
                 clear en_
                 have p300 : 0 ≤ (x6_3 : Int) := of_decide_eq_true (by first | (with_reducible assumption) | assumption)
                 have q300 : x6_3 < (((rd_T57 l0 x5_1).f1).length : Int) := of_decide_eq_true (by first | (with_reducible assumption) | assumption)
                 obtain ⟨ad300, e300, hx300_0⟩ := Kd.at_int HR299_1.out x6_3 p300 q300
                 cases e300
                 replace p300 := eq_true p300
                 replace q300 := eq_true q300
                 have p301 : 0 ≤ (x5_1 : Int) := of_decide_eq_true (by first | (with_reducible assumption) | assumption)
                 have q301 : x5_1 < (l1.length : Int) := of_decide_eq_true (by first | (with_reducible assumption) | assumption)
                 obtain ⟨ad301, A301_1, c301_1, e301, hx301_0, hx301_1, hl301_1, hi301_1⟩ := at_T57 HR1.out x5_1 p301 q301
                 cases e301
                 have HR301_1 := Am hi301_1
                 have HC301_1 := Am hl301_1
                 clear hi301_1 hl301_1
                 replace p301 := eq_true p301
                 replace q301 := eq_true q301
                 have p302 : 0 ≤ (x6_3 : Int) := of_decide_eq_true (by first | (with_reducible assumption) | assumption)
                 have q302 : x6_3 < (((rd_T57 l1 x5_1).f1).length : Int) := of_decide_eq_true (by first | (with_reducible assumption) | assumption)
                 obtain ⟨ad302, e302, hx302_0⟩ := Kd.at_int HR301_1.out x6_3 p302 q302
                 cases e302
                 replace p302 := eq_true p302
                 replace q302 := eq_true q302
                 go_wp2
                 repeat (go_quiet (fail); try go_wp2)
                 go_roundg k3
                 case measure => have := HK1.out; have := HJ4.out; have := HK3.out; omega
                 case rel => exact ⟨(wrap64 (x6_3 + 1)), (by first | rfl | (simp; done) | (simp [*]; done)), H', ⟨by have := HK1.out; have := HJ4.out; have := HK3.out; omega⟩, by repeat (first | exact Drawn0.refl _ | apply Drawn0.step)⟩
                ·
                 rw [if_neg c16] at H
                 have c16b0 : ((rd ((rd_T57 l0 x5_1).f1) x6_3) == (rd ((rd_T57 l1 x5_1).f1) x6_3)) = false := beq_eq_false_iff_ne.mpr c16
                 have c16b1 : ((rd ((rd_T57 l0 x5_1).f1) x6_3) != (rd ((rd_T57 l1 x5_1).f1) x6_3)) = true := bne_iff_ne.mpr c16
                 obtain rfl := Option.some.inj H
                 have p298 : 0 ≤ (x5_1 : Int) := of_decide_eq_true (by first | (with_reducible assumption) | assumption)
                 have q298 : x5_1 < (l0.length : Int) := of_decide_eq_true (by first | (with_reducible assumption) | assumption)
                 obtain ⟨ad298, A298_1, c298_1, e298, hx298_0, hx298_1, hl298_1, hi298_1⟩ := at_T57 HR0.out x5_1 p298 q298
                 cases e298
                 have HR298_1 := Am hi298_1
                 have HC298_1 := Am hl298_1
                 clear hi298_1 hl298_1
                 replace p298 := eq_true p298
                 replace q298 := eq_true q298
                 have p299 : 0 ≤ (x5_1 : Int) := of_decide_eq_true (by first | (with_reducible assumption) | assumption)
                 have q299 : x5_1 < (l0.length : Int) := of_decide_eq_true (by first | (with_reducible assumption) | assumption)
                 obtain ⟨ad299, A299_1, c299_1, e299, hx299_0, hx299_1, hl299_1, hi299_1⟩ := at_T57 HR0.out x5_1 p299 q299
                 obtain rfl : ad298 = ad299 := (by injection e299)
                 have HR299_1 := Am hi299_1
                 have HC299_1 := Am hl299_1
                 clear hi299_1 hl299_1
                 replace p299 := eq_true p299
                 replace q299 := eq_true q299
                 have ea_ := Option.some.inj (hx298_1.symm.trans hx299_1)
                 injection ea_ with ea_ en_ ec_
                 subst ea_
                 subst ec_
                 clear en_
                 have p300 : 0 ≤ (x6_3 : Int) := of_decide_eq_true (by first | (with_reducible assumption) | assumption)
                 have q300 : x6_3 < (((rd_T57 l0 x5_1).f1).length : Int) := of_decide_eq_true (by first | (with_reducible assumption) | assumption)
                 obtain ⟨ad300, e300, hx300_0⟩ := Kd.at_int HR299_1.out x6_3 p300 q300
                 cases e300
                 replace p300 := eq_true p300
                 replace q300 := eq_true q300
                 have p301 : 0 ≤ (x5_1 : Int) := of_decide_eq_true (by first | (with_reducible assumption) | assumption)
                 have q301 : x5_1 < (l1.length : Int) := of_decide_eq_true (by first | (with_reducible assumption) | assumption)
                 obtain ⟨ad301, A301_1, c301_1, e301, hx301_0, hx301_1, hl301_1, hi301_1⟩ := at_T57 HR1.out x5_1 p301 q301
                 cases e301
                 have HR301_1 := Am hi301_1
                 have HC301_1 := Am hl301_1
                 clear hi301_1 hl301_1
                 replace p301 := eq_true p301
                 replace q301 := eq_true q301
                 have p302 : 0 ≤ (x6_3 : Int) := of_decide_eq_true (by first | (with_reducible assumption) | assumption)
                 have q302 : x6_3 < (((rd_T57 l1 x5_1).f1).length : Int) := of_decide_eq_true (by first | (with_reducible assumption) | assumption)
                 obtain ⟨ad302, e302, hx302_0⟩ := Kd.at_int HR301_1.out x6_3 p302 q302
                 cases e302
                 replace p302 := eq_true p302
                 replace q302 := eq_true q302
                 go_wp2
                 repeat (go_quiet (fail); try go_wp2)
                 go_ret
                 exact ⟨by first | rfl | (simp; done) | (simp [*]; done), by repeat (first | exact Drawn0.refl _ | apply Drawn0.step)⟩
               ·
                rw [if_neg c15] at H
                exact absurd H (by simp)
              ·
               rw [if_neg c14] at H
               exact absurd H (by simp)
             ·
              rw [if_neg c13] at H
              exact absurd H (by simp)
            ·
             rw [if_neg c12] at H
             have c12b0 : decide (x6_3 < (((rd_T57 l0 x5_1).f1).length : Int)) = false := decide_eq_false c12
             clear c12
             have H' := Am H
             clear H
             have p298 : 0 ≤ (x5_1 : Int) := of_decide_eq_true (by first | (with_reducible assumption) | assumption)
             have q298 : x5_1 < (l0.length : Int) := of_decide_eq_true (by first | (with_reducible assumption) | assumption)
             obtain ⟨ad298, A298_1, c298_1, e298, hx298_0, hx298_1, hl298_1, hi298_1⟩ := at_T57 HR0.out x5_1 p298 q298
             cases e298
             have HR298_1 := Am hi298_1
             have HC298_1 := Am hl298_1
             clear hi298_1 hl298_1
             replace p298 := eq_true p298
             replace q298 := eq_true q298
             go_wp2
             repeat (go_quiet (fail); try go_wp2)
             go_roundg k3
             case measure => have := HK1.out; have := HJ4.out; have := HK3.out; omega
             case rel => exact ⟨(wrap64 (x5_1 + 1)), (by first | rfl | (simp; done) | (simp [*]; done)), H', ⟨by have := HK1.out; have := HJ4.out; have := HK3.out; omega⟩, by repeat (first | exact Drawn0.refl _ | apply Drawn0.step)⟩
           ·
            rw [if_neg c11] at H
            exact absurd H (by simp)
          ·
           rw [if_neg c10] at H
           exact absurd H (by simp)
    ·
     rw [if_neg c4] at H
     have c4b0 : decide (x5_1 < (l0.length : Int)) = false := decide_eq_false c4
     clear c4
     obtain rfl := Option.some.inj H
     go_wp2
     repeat (go_quiet (fail); try go_wp2)
     go_ret
     exact ⟨by first | rfl | (simp; done) | (simp [*]; done), by repeat (first | exact Drawn0.refl _ | apply Drawn0.step)⟩
 ·
  rw [if_neg c3] at H
  have c3b0 : ((l0.length : Int) == (l1.length : Int)) = false := beq_eq_false_iff_ne.mpr c3
  have c3b1 : ((l0.length : Int) != (l1.length : Int)) = true := bne_iff_ne.mpr c3
  have c3b2 : (l0.length == l1.length) = false := by first | simpa using c3 | (simp at c3 ⊢; omega)
  obtain rfl := Option.some.inj H
  go_enter Try.func21, Try.ntmps21
  go_wp2
  repeat (go_quiet (fail); try go_wp2)
  go_ret
  exact ⟨by first | rfl | (simp; done) | (simp [*]; done), by repeat (first | exact Drawn0.refl _ | apply Drawn0.step)⟩

end Go.Proofs.Ytjnplfbggklkfaa.Rg

/- The reference's times, mul, normal and EqMonos: what they come to. No walk here. -/
namespace Go.Proofs.Ytjnplfbggklkfaa
open Go.RowKit Go.Proofs.YtjnplfbggklkfaaW.PrintWords Go.Proofs.YtjnplfbggklkfaaW.PrintLast Go.Proofs.YtjnplfbggklkfaaW.PrintMore Go.Proofs.Ytjnplfbggklkfaa.Rg
set_option linter.unusedVariables false
set_option linter.unusedSimpArgs false

/-- A monomial that no normal form may bear. -/
def over (m : List Int × Int) : Prop := m.2 > 1000000000000000 ∨ ∃ v ∈ m.1, 60 < v
instance (m : List Int × Int) : Decidable (over m) := by unfold over; exact inferInstance
theorem times_loop (a b c : Int) (u v : List Int) (hu : u.length = 8) (hv : v.length = 8) (bu : ∀ x ∈ u, 0 ≤ x ∧ x ≤ 60) (bv : ∀ x ∈ v, 0 ≤ x ∧ x ≤ 60) : ∀ (j i : Nat), i + j = 8 →
    Ev fun k => tenetref24_times.l0 k (i : Int) a u b v c ((vadd u v).take i) = some (if ∃ x ∈ (vadd u v).drop i, 60 < x then (0, [], false) else (c, vadd u v, true))
  | 0, i, h => by
    have hl := vadd_len hu hv
    refine Ev.succ (Ev.all fun k => ?_)
    unfold tenetref24_times.l0
    try dsimp only
    rw [if_neg (by omega), List.drop_eq_nil_of_le (by omega), if_neg (by simp), List.take_of_length_le (by omega)]
  | j + 1, i, h => by
    have hl := vadd_len hu hv
    obtain ⟨p, hp, rp⟩ := rd_dropI (l := u) (i := i) (by omega)
    obtain ⟨q, hq, rq⟩ := rd_dropI (l := v) (i := i) (by omega)
    have mp : p ∈ u := List.mem_of_mem_drop (i := i) (by rw [hp]; simp)
    have mq : q ∈ v := List.mem_of_mem_drop (i := i) (by rw [hq]; simp)
    have hd : (vadd u v).drop i = (p + q) :: (vadd u v).drop (i + 1) := by
      unfold vadd
      rw [List.drop_zipWith, List.drop_zipWith, hp, hq]
      rfl
    have ht : (vadd u v).take (i + 1) = (vadd u v).take i ++ [p + q] := by
      have : (vadd u v)[i]? = some (p + q) := by
        rw [← List.head?_drop, hd]
        rfl
      rw [List.take_add_one, this]
      rfl
    have hlt : ((vadd u v).take i).length = i := by simp; omega
    have b1 := bu p mp
    have b2 := bv q mq
    refine Ev.succ ((times_loop a b c u v hu hv bu bv j (i + 1) (by omega)).mono fun k e => ?_)
    unfold tenetref24_times.l0
    try dsimp only
    rw [if_pos (by omega), if_pos (by omega), if_pos (by omega), if_pos (by omega), rp, rq, w64 (n := p + q) (by omega) (by omega), hd]
    by_cases h60 : p + q > 60
    · rw [if_pos h60, if_pos ⟨p + q, by simp, h60⟩]
    · rw [if_neg h60, if_pos (by omega), w64 (by omega) (by omega), ← ht]
      have e' : tenetref24_times.l0 k ((i : Int) + 1) a u b v c ((vadd u v).take (i + 1)) = _ := e
      rw [e']
      congr 1
      have : (∃ x ∈ (vadd u v).drop (i + 1), 60 < x) ↔ ∃ x ∈ (p + q) :: (vadd u v).drop (i + 1), 60 < x := by
        constructor
        · rintro ⟨x, h1, h2⟩
          exact ⟨x, by simp [h1], h2⟩
        · rintro ⟨x, h1, h2⟩
          rcases List.mem_cons.1 h1 with rfl | h1
          · omega
          · exact ⟨x, h1, h2⟩
      by_cases hx : ∃ x ∈ (vadd u v).drop (i + 1), 60 < x
      · rw [if_pos hx, if_pos (this.1 hx)]
      · rw [if_neg hx, if_neg (fun h => hx (this.2 h))]
theorem times_eq {a b : Int} {u v : List Int} (hu : u.length = 8) (hv : v.length = 8) (bu : ∀ x ∈ u, 0 ≤ x ∧ x ≤ 60) (bv : ∀ x ∈ v, 0 ≤ x ∧ x ≤ 60) (ha : 0 < a) (ha2 : a ≤ 1000000000000000) (hb : 0 < b) (hb2 : b ≤ 1000000000000000) :
    Ev fun k => tenetref24_times.f k a u b v = some (if over (vadd u v, a * b) then (0, [], false) else (a * b, vadd u v, true)) := by
  refine (times_loop a b (a * b) u v hu hv bu bv 8 0 rfl).mono fun k e => ?_
  unfold tenetref24_times.f
  have hd1 : 0 ≤ (1000000000000000 : Int) / b := Int.ediv_nonneg (by omega) (by omega)
  have hd2 : (1000000000000000 : Int) / b ≤ 1000000000000000 := Int.ediv_le_self _ (by omega)
  rw [if_neg (by omega), w64 (n := 1000000000000000 / b) (by omega) (by omega)]
  have hiff : a ≤ 1000000000000000 / b ↔ a * b ≤ 1000000000000000 := Int.le_ediv_iff_mul_le hb
  by_cases h1 : a * b ≤ 1000000000000000
  · have := hiff.2 h1
    have hp := Int.mul_pos ha hb
    rw [if_neg (by omega), w64 (n := a * b) (by omega) (by omega)]
    have e' : tenetref24_times.l0 k 0 a u b v (a * b) [] = _ := e
    rw [e', List.drop_zero]
    congr 1
    by_cases hx : ∃ x ∈ vadd u v, 60 < x
    · rw [if_pos hx, if_pos (.inr hx)]
    · rw [if_neg hx, if_neg]
      rintro (h | h)
      · simp only at h
        omega
      · exact hx h
  · have : ¬ a ≤ 1000000000000000 / b := fun h => h1 (hiff.1 h)
    rw [if_pos (by omega), if_pos (.inl (by simp only; omega))]
theorem foldS_cons (acc : List S57) (m : List Int × Int) (ms : Asc) : foldS acc (m :: ms) = if over m then none else (insertS acc m.2 m.1).bind fun r => foldS r ms := by
  rw [foldS]
  by_cases h : over m
  · rw [if_pos h, if_pos (show m.2 > 1000000000000000 ∨ ∃ v ∈ m.1, 60 < v from h)]
  · rw [if_neg h, if_neg (show ¬ (m.2 > 1000000000000000 ∨ ∃ v ∈ m.1, 60 < v) from h)]
theorem mul_inner (l r : List S57) (hr : Okay r) (rest : Asc) (p : S57) (i : Nat) (hp : p.f1.length = 8 ∧ 0 < p.f0 ∧ p.f0 ≤ 1000000000000000 ∧ ∀ v ∈ p.f1, 0 ≤ v ∧ v ≤ 60) (hrl : r.length ≤ 200) (hil : i < l.length) (hll : l.length ≤ 200) (hrd : rd_T57 l (i : Int) = p)
    (H : ∀ acc, Okay acc → acc.length + rest.length ≤ 1000000 → Ev fun k => tenetref24_mul.l0 k l r acc ((i + 1 : Nat) : Int) = some (finS (foldS acc rest))) :
    ∀ (t : List S57) (j : Nat) (acc : List S57), r.drop j = t → j ≤ r.length → Okay acc → acc.length + t.length + rest.length ≤ 1000000 → Ev fun k => tenetref24_mul.l1 k l r acc (i : Int) (j : Int) = some (finS (foldS acc ((asc t).map (mulM (p.f1, p.f0)) ++ rest)))
  | [], j, acc, ht, hj, ok, hl => by
    have hlen : r.length ≤ j := by simpa using ht
    refine Ev.succ ((H acc ok (by simpa using hl)).mono fun k e => ?_)
    unfold tenetref24_mul.l1
    try dsimp only
    rw [if_neg (by omega), w64 (by omega) (by omega)]
    exact e
  | q :: t, j, acc, ht, hj, ok, hl => by
    obtain ⟨hjl, hq, hd, _⟩ := rd_drop57 ht
    have hm : q ∈ r := by
      have : q ∈ r.drop j := by rw [ht]; simp
      exact List.mem_of_mem_drop this
    have hqe := hr.ent q hm
    have htm := times_eq hp.1 hqe.1 hp.2.2.2 hqe.2.2.2 hp.2.1 hp.2.2.1 hqe.2.1 hqe.2.2.1
    have hlist : (asc (q :: t)).map (mulM (p.f1, p.f0)) ++ rest = (vadd p.f1 q.f1, p.f0 * q.f0) :: ((asc t).map (mulM (p.f1, p.f0)) ++ rest) := rfl
    rw [hlist, foldS_cons]
    simp at hl
    by_cases ho : over (vadd p.f1 q.f1, p.f0 * q.f0)
    · rw [if_pos ho] at htm ⊢
      refine Ev.succ (htm.mono fun k htm => ?_)
      unfold tenetref24_mul.l1
      try dsimp only
      rw [if_pos (by omega), if_pos (by omega), if_pos (by omega), if_pos (by omega), hrd, hq, htm, Option.bind_some]
      rfl
    · rw [if_neg ho] at htm ⊢
      have h1 : p.f0 * q.f0 ≤ 1000000000000000 := by
        by_cases h : p.f0 * q.f0 ≤ 1000000000000000
        · exact h
        · exact absurd (.inl (by simp only; omega)) ho
      have h2 : 0 < p.f0 * q.f0 := Int.mul_pos hp.2.1 hqe.2.1
      have h8 := vadd_len hp.1 hqe.1
      have h3 : ∀ v ∈ vadd p.f1 q.f1, 0 ≤ v ∧ v ≤ 60 := fun v hv => by
        constructor
        · obtain ⟨n, hn⟩ := List.mem_iff_getElem?.1 hv
          unfold vadd at hn
          rw [List.getElem?_zipWith] at hn
          cases hx : p.f1[n]? with
          | none => simp [hx] at hn
          | some x =>
            cases hy : q.f1[n]? with
            | none => simp [hx, hy] at hn
            | some y =>
              simp only [hx, hy, Option.some.injEq] at hn
              have := (hp.2.2.2 x (List.mem_of_getElem? hx)).1
              have := (hqe.2.2.2 y (List.mem_of_getElem? hy)).1
              omega
        · by_cases h : v ≤ 60
          · exact h
          · exact absurd (.inr ⟨v, hv, by omega⟩) ho
      have hin := into_eq (l := acc) (c := p.f0 * q.f0) (e := vadd p.f1 q.f1) (by omega) h2 h1 h8 ok
      cases hi2 : insertS acc (p.f0 * q.f0) (vadd p.f1 q.f1) with
      | none =>
        rw [hi2] at hin
        try simp only [hi2]
        refine Ev.succ ((htm.and hin).mono fun k ⟨htm, hin⟩ => ?_)
        unfold tenetref24_mul.l1
        try dsimp only
        rw [if_pos (by omega), if_pos (by omega), if_pos (by omega), if_pos (by omega), hrd, hq, htm, Option.bind_some, if_pos rfl]
        simp only
        rw [hin]
        rfl
      | some acc' =>
        rw [hi2] at hin
        try simp only [hi2]
        obtain ⟨i1, _, _, i4⟩ := insertS_some ok h8 h2 h1 h3 hi2
        have ih := mul_inner l r hr rest p i hp hrl hil hll hrd H t (j + 1) acc' hd (by omega) i1 (by omega)
        refine Ev.succ ((htm.and (hin.and ih)).mono fun k ⟨htm, hin, ih⟩ => ?_)
        unfold tenetref24_mul.l1
        try dsimp only
        rw [if_pos (by omega), if_pos (by omega), if_pos (by omega), if_pos (by omega), hrd, hq, htm, Option.bind_some, if_pos rfl]
        simp only
        rw [hin, Option.bind_some, w64 (n := (j : Int) + 1) (by omega) (by omega)]
        exact ih
theorem mulL_cons (p : S57) (s : List S57) (b : Asc) : mulL (asc (p :: s)) b = b.map (mulM (p.f1, p.f0)) ++ mulL (asc s) b := rfl
theorem mulL_len (a b : Asc) : (mulL a b).length = a.length * b.length := by
  induction a with
  | nil => simp [mulL]
  | cons p a ih =>
    have : mulL (p :: a) b = b.map (mulM p) ++ mulL a b := rfl
    rw [this, List.length_append, ih, List.length_map, List.length_cons, Nat.succ_mul]
    omega
theorem asc_len (l : List S57) : (asc l).length = l.length := by simp [asc]
theorem mul_outer (l r : List S57) (hl : Okay l) (hr : Okay r) (hll : l.length ≤ 200) (hrl : r.length ≤ 200) : ∀ (s : List S57) (i : Nat) (acc : List S57), l.drop i = s → i ≤ l.length → Okay acc → acc.length + (mulL (asc s) (asc r)).length ≤ 1000000 →
    Ev fun k => tenetref24_mul.l0 k l r acc (i : Int) = some (finS (foldS acc (mulL (asc s) (asc r))))
  | [], i, acc, hs, hi, ok, hb => by
    have hlen : l.length ≤ i := by simpa using hs
    refine Ev.succ (Ev.all fun k => ?_)
    unfold tenetref24_mul.l0
    try dsimp only
    rw [if_neg (by omega)]
    rfl
  | p :: s, i, acc, hs, hi, ok, hb => by
    obtain ⟨hil, hrd, hd, _⟩ := rd_drop57 hs
    have hm : p ∈ l := by
      have : p ∈ l.drop i := by rw [hs]; simp
      exact List.mem_of_mem_drop this
    rw [mulL_cons] at hb ⊢
    rw [List.length_append, List.length_map, asc_len] at hb
    have h := mul_inner l r hr (mulL (asc s) (asc r)) p i (hl.ent p hm) hrl hil hll hrd (fun acc ok hb => mul_outer l r hl hr hll hrl s (i + 1) acc hd (by omega) ok hb) r 0 acc rfl (by omega) ok (by omega)
    refine Ev.succ (h.mono fun k h => ?_)
    unfold tenetref24_mul.l0
    try dsimp only
    rw [if_pos (by omega)]
    exact h
theorem mul_eq {l r : List S57} (hl : Okay l) (hr : Okay r) (h1 : l.length ≤ 200) (h2 : r.length ≤ 200) : Ev fun k => tenetref24_mul.f k l r = some (finS (foldS [] (mulL (asc l) (asc r)))) := by
  have hb : (mulL (asc l) (asc r)).length ≤ 40000 := by
    rw [mulL_len, asc_len, asc_len]
    exact Nat.mul_le_mul h1 h2
  exact mul_outer l r hl hr h1 h2 l 0 [] rfl (by omega) Okay.nil (by simp; omega)
end Go.Proofs.Ytjnplfbggklkfaa
