/- The graphs of a closure that loop and in which nothing becomes smaller: bad and its closure. -/
import Derived.Test.YtdinmdjdkhlgcaaLoops
namespace Go.Proofs.Ytdinmdjdkhlgcaa
open Go.RowKit
set_option linter.unusedVariables false
set_option linter.unusedSimpArgs false

/-- The cells of a graph and the calls that it is made of. -/
def mC (g : Gr) (s : Value) : List Value := gC g ++ [s]
abbrev mV (g : Gr) (s : Value) : Value := .agg (mC g s).toArray
theorem mC_len {g : Gr} (h : g.Ok) (s : Value) : (mC g s).length = 39 := by simp [mC, gC_len h]
theorem mC_take {g : Gr} {s : Value} {j : Nat} {v : Value} (hj : (gC g)[j]? = some v) : (mC g s)[j]? = some v := by
  unfold mC
  rw [List.getElem?_append_left (List.getElem?_eq_some_iff.1 hj).1]
  exact hj
theorem mC_last {g : Gr} (h : g.Ok) (s : Value) : (mC g s)[38]? = some s := by
  unfold mC
  rw [List.getElem?_append_right (by rw [gC_len h]; omega), gC_len h]
  rfl
theorem rangeM {w : World} {b o : Nat} {g : Gr} {s : Value} (h : w.rangeAt b o (mC g s)) : w.rangeAt b o (gC g) := fun j v hj => h j v (mC_take hj)
theorem range_new (w : World) (cs : List Value) (t : Nat) : (w.alloc (.cells cs.toArray t)).rangeAt w.heap.size 0 cs := by
  intro j v hj
  rw [Nat.zero_add, cell_of_row _ _ _ _ _ _ (heap_alloc_new w (.cells cs.toArray t))]
  simpa using hj
theorem info80 : (Try.prog.info? 80).map (·.size) = some 39 := by kernel_rfl
/-- Bad: it loops, and nothing becomes smaller. -/
def Gr.bad (g : Gr) : Bool := g.loops && !g.desc
set_option maxHeartbeats 4000000 in
set_option maxRecDepth 100000 in
theorem badf_calls (g : Gr) (okg : g.Ok) (s : Value) (w : World) : Calls Try.prog 54 #[mV g s] w fun e w' => e = .returned (.bool g.bad) ∧ Below w.heap.size w w' := by
  have hu80 := Try.underlying80
  have hu78 := Try.underlying78
  have HRA := Lib.hid (rangeM (range_new w (mC g s) 80))
  have HL := Lib.hid fun w5 => loops_calls g okg w5
  have HD := Lib.hid fun w5 => descends_calls g okg w5
  have hi : (Try.prog.info? 78).map (·.size) = some (gC g).length := by rw [gC_len okg]; exact info78
  have B0 := Lib.hid (show Below w.heap.size w (w.alloc (.cells (mC g s).toArray 80)) from (Below.refl _ _).alloc (Nat.le_refl _) _)
  have E : Hid (g.bad = (g.loops && !g.desc)) := Lib.hid rfl
  generalize g.bad = rr at *
  obtain ⟨ms, hms⟩ : ∃ ms, ms = (mC g s).toArray := ⟨_, rfl⟩
  simp only [mV, ← hms] at *
  obtain ⟨gs, hgs⟩ : ∃ gs, gs = gC g := ⟨_, rfl⟩
  simp only [gV, ← hgs] at *
  clear hms hgs okg
  go_enter Try.func54, Try.ntmps54
  go_upto_region 1 with fail
  cases hlo : g.loops with
  | true =>
    rw [hlo] at HL E
    clear hlo
    let R : Nat → Value → World → Prop := fun i v w' => match i with
      | 0 => v = .pointer (some ⟨w.heap.size, 0, none⟩)
      | 1 => v = .agg gs.toArray
      | 2 => v = .bool true
      | 3 => v = .bool true
      | 4 => v = .pointer (some ⟨w.heap.size, 0, none⟩)
      | 5 => v = .agg gs.toArray
      | 6 => v = .bool g.desc
      | 7 => v = .bool (!g.desc)
      | 8 => v = .bool (!g.desc)
      | 9 => v = .bool (!g.desc)
      | _ => True
    refine wp_region_row (I := fun w' => Below (w.alloc (.cells ms 80)).heap.size (w.alloc (.cells ms 80)) w') (R := R) (T := fun _ _ => True) (by kernel_rfl) (by kernel_rfl) ?_ ?_ ?_ ?_
    · intro j v w1 w2 _ h
      rcases j with _ | _ | _ | _ | _ | _ | _ | _ | _ | _ | j <;> exact h
    · exact Below.refl _ _
    · intro i hlt a w1 up
      have HI := Lib.hid hlt
      clear hlt
      have UP := Lib.hid up
      clear up
      rcases i with _ | _ | _ | _ | _ | _ | _ | _ | _ | _ | i
      · have h1 : a.tmps.getD 1 undef = .pointer (some ⟨w.heap.size, 0, none⟩) := UP.out.before 1 (by kernel_rfl)
        exact wpOp_value (v := .pointer (some ⟨w.heap.size, 0, none⟩)) rfl (by kernel_rfl) (by go_simp) ⟨_, rfl, trivial, UP.out.inv, rfl⟩
      · have h3 : a.tmps.getD 3 undef = .pointer (some ⟨w.heap.size, 0, none⟩) := UP.out.dep 0 (by kernel_rfl)
        exact wpOp_load rfl rfl (by kernel_rfl) h3 (run_loadAt_mid w1 _ 0 78 gs _ (rangeB UP.out.inv HRA.out) hu78 rfl hi) ⟨_, rfl, trivial, UP.out.inv, rfl⟩
      · have h4 : a.tmps.getD 4 undef = .agg gs.toArray := UP.out.dep 1 (by kernel_rfl)
        refine wpOp_call (f := 55) (args := #[.agg gs.toArray]) (R := fun v w' => v = .bool true ∧ Below w1.heap.size w1 w') rfl (by kernel_rfl) (by go_simp) ((HL.out w1).mono ?_) ?_
        · rintro e w2 ⟨rfl, hb⟩
          exact ⟨_, rfl, rfl, hb⟩
        · rintro v w2 ⟨rfl, hb⟩
          exact ⟨_, rfl, trivial, below_then UP.out.inv hb, rfl⟩
      · have h5 : a.tmps.getD 5 undef = .bool true := UP.out.dep 2 (by kernel_rfl)
        exact wpOp_value (v := .bool true) rfl (by kernel_rfl) (by go_simp) ⟨_, rfl, trivial, UP.out.inv, rfl⟩
      · have hg : a.tmps.getD 6 undef = .bool true := UP.out.dep 3 (by kernel_rfl)
        have h1 : a.tmps.getD 1 undef = .pointer (some ⟨w.heap.size, 0, none⟩) := UP.out.before 1 (by kernel_rfl)
        exact wpOp_value (v := .pointer (some ⟨w.heap.size, 0, none⟩)) rfl (wanted_yes rfl (by kernel_rfl) hg) (by go_simp) ⟨_, rfl, trivial, UP.out.inv, rfl⟩
      · have hg : a.tmps.getD 6 undef = .bool true := UP.out.dep 3 (by kernel_rfl)
        have h7 : a.tmps.getD 7 undef = .pointer (some ⟨w.heap.size, 0, none⟩) := UP.out.dep 4 (by kernel_rfl)
        exact wpOp_load rfl rfl (wanted_yes rfl (by kernel_rfl) hg) h7 (run_loadAt_mid w1 _ 0 78 gs _ (rangeB UP.out.inv HRA.out) hu78 rfl hi) ⟨_, rfl, trivial, UP.out.inv, rfl⟩
      · have hg : a.tmps.getD 6 undef = .bool true := UP.out.dep 3 (by kernel_rfl)
        have h8 : a.tmps.getD 8 undef = .agg gs.toArray := UP.out.dep 5 (by kernel_rfl)
        refine wpOp_call (f := 56) (args := #[.agg gs.toArray]) (R := fun v w' => v = .bool g.desc ∧ Below w1.heap.size w1 w') rfl (wanted_yes rfl (by kernel_rfl) hg) (by go_simp) ((HD.out w1).mono ?_) ?_
        · rintro e w2 ⟨rfl, hb⟩
          exact ⟨_, rfl, rfl, hb⟩
        · rintro v w2 ⟨rfl, hb⟩
          exact ⟨_, rfl, trivial, below_then UP.out.inv hb, rfl⟩
      · have hg : a.tmps.getD 6 undef = .bool true := UP.out.dep 3 (by kernel_rfl)
        have h9 : a.tmps.getD 9 undef = .bool g.desc := UP.out.dep 6 (by kernel_rfl)
        exact wpOp_value (v := .bool (!g.desc)) rfl (wanted_yes rfl (by kernel_rfl) hg) (by go_simp) ⟨_, rfl, trivial, UP.out.inv, rfl⟩
      · have h6 : a.tmps.getD 6 undef = .bool true := UP.out.dep 3 (by kernel_rfl)
        have h10 : a.tmps.getD 10 undef = .bool (!g.desc) := UP.out.dep 7 (by kernel_rfl)
        exact wpOp_value (v := .bool (!g.desc)) rfl (by kernel_rfl) (by go_simp) ⟨_, rfl, trivial, UP.out.inv, rfl⟩
      · have h11 : a.tmps.getD 11 undef = .bool (!g.desc) := UP.out.dep 8 (by kernel_rfl)
        exact wpOp_value (v := .bool (!g.desc)) rfl (by kernel_rfl) (by go_simp) ⟨_, rfl, trivial, UP.out.inv, rfl⟩
      · exact absurd HI.out (by simp)
    · intro vs w' hinv hR
      have r0 : vs 0 = .pointer (some ⟨w.heap.size, 0, none⟩) := hR 0 (by decide)
      have r1 : vs 1 = .agg gs.toArray := hR 1 (by decide)
      have r2 : vs 2 = .bool true := hR 2 (by decide)
      have r3 : vs 3 = .bool true := hR 3 (by decide)
      have r4 : vs 4 = .pointer (some ⟨w.heap.size, 0, none⟩) := hR 4 (by decide)
      have r5 : vs 5 = .agg gs.toArray := hR 5 (by decide)
      have r6 : vs 6 = .bool g.desc := hR 6 (by decide)
      have r7 : vs 7 = .bool (!g.desc) := hR 7 (by decide)
      have r8 : vs 8 = .bool (!g.desc) := hR 8 (by decide)
      have r9 : vs 9 = .bool (!g.desc) := hR 9 (by decide)
      simp only [putFrom, Act.put, List.setIfInBounds_toArray, List.set_cons_zero, List.set_cons_succ, r0, r1, r2, r3, r4, r5, r6, r7, r8, r9]
      have HV := Lib.hid hinv
      have HR := Lib.hid hR
      clear hinv hR r0 r1 r2 r3 r4 r5 r6 r7 r8 r9
      go_wp2
      go_ret
      exact ⟨by rw [E.out]; simp, below_then B0.out HV.out⟩
  | false =>
    rw [hlo] at HL E
    clear hlo
    let R : Nat → Value → World → Prop := fun i v w' => match i with
      | 0 => v = .pointer (some ⟨w.heap.size, 0, none⟩)
      | 1 => v = .agg gs.toArray
      | 2 => v = .bool false
      | 3 => v = .bool false
      | 4 => v = undef
      | 5 => v = undef
      | 6 => v = undef
      | 7 => v = undef
      | 8 => v = .bool false
      | 9 => v = .bool false
      | _ => True
    refine wp_region_row (I := fun w' => Below (w.alloc (.cells ms 80)).heap.size (w.alloc (.cells ms 80)) w') (R := R) (T := fun _ _ => True) (by kernel_rfl) (by kernel_rfl) ?_ ?_ ?_ ?_
    · intro j v w1 w2 _ h
      rcases j with _ | _ | _ | _ | _ | _ | _ | _ | _ | _ | j <;> exact h
    · exact Below.refl _ _
    · intro i hlt a w1 up
      have HI := Lib.hid hlt
      clear hlt
      have UP := Lib.hid up
      clear up
      rcases i with _ | _ | _ | _ | _ | _ | _ | _ | _ | _ | i
      · have h1 : a.tmps.getD 1 undef = .pointer (some ⟨w.heap.size, 0, none⟩) := UP.out.before 1 (by kernel_rfl)
        exact wpOp_value (v := .pointer (some ⟨w.heap.size, 0, none⟩)) rfl (by kernel_rfl) (by go_simp) ⟨_, rfl, trivial, UP.out.inv, rfl⟩
      · have h3 : a.tmps.getD 3 undef = .pointer (some ⟨w.heap.size, 0, none⟩) := UP.out.dep 0 (by kernel_rfl)
        exact wpOp_load rfl rfl (by kernel_rfl) h3 (run_loadAt_mid w1 _ 0 78 gs _ (rangeB UP.out.inv HRA.out) hu78 rfl hi) ⟨_, rfl, trivial, UP.out.inv, rfl⟩
      · have h4 : a.tmps.getD 4 undef = .agg gs.toArray := UP.out.dep 1 (by kernel_rfl)
        refine wpOp_call (f := 55) (args := #[.agg gs.toArray]) (R := fun v w' => v = .bool false ∧ Below w1.heap.size w1 w') rfl (by kernel_rfl) (by go_simp) ((HL.out w1).mono ?_) ?_
        · rintro e w2 ⟨rfl, hb⟩
          exact ⟨_, rfl, rfl, hb⟩
        · rintro v w2 ⟨rfl, hb⟩
          exact ⟨_, rfl, trivial, below_then UP.out.inv hb, rfl⟩
      · have h5 : a.tmps.getD 5 undef = .bool false := UP.out.dep 2 (by kernel_rfl)
        exact wpOp_value (v := .bool false) rfl (by kernel_rfl) (by go_simp) ⟨_, rfl, trivial, UP.out.inv, rfl⟩
      · have hg : a.tmps.getD 6 undef = .bool false := UP.out.dep 3 (by kernel_rfl)
        exact wpOp_skip rfl (wanted_no rfl (by kernel_rfl) hg (by decide)) ⟨_, rfl, trivial, UP.out.inv, rfl⟩
      · have hg : a.tmps.getD 6 undef = .bool false := UP.out.dep 3 (by kernel_rfl)
        exact wpOp_skip rfl (wanted_no rfl (by kernel_rfl) hg (by decide)) ⟨_, rfl, trivial, UP.out.inv, rfl⟩
      · have hg : a.tmps.getD 6 undef = .bool false := UP.out.dep 3 (by kernel_rfl)
        exact wpOp_skip rfl (wanted_no rfl (by kernel_rfl) hg (by decide)) ⟨_, rfl, trivial, UP.out.inv, rfl⟩
      · have hg : a.tmps.getD 6 undef = .bool false := UP.out.dep 3 (by kernel_rfl)
        exact wpOp_skip rfl (wanted_no rfl (by kernel_rfl) hg (by decide)) ⟨_, rfl, trivial, UP.out.inv, rfl⟩
      · have h6 : a.tmps.getD 6 undef = .bool false := UP.out.dep 3 (by kernel_rfl)
        have h10 : a.tmps.getD 10 undef = undef := UP.out.dep 7 (by kernel_rfl)
        exact wpOp_value (v := .bool false) rfl (by kernel_rfl) (by go_simp) ⟨_, rfl, trivial, UP.out.inv, rfl⟩
      · have h11 : a.tmps.getD 11 undef = .bool false := UP.out.dep 8 (by kernel_rfl)
        exact wpOp_value (v := .bool false) rfl (by kernel_rfl) (by go_simp) ⟨_, rfl, trivial, UP.out.inv, rfl⟩
      · exact absurd HI.out (by simp)
    · intro vs w' hinv hR
      have r0 : vs 0 = .pointer (some ⟨w.heap.size, 0, none⟩) := hR 0 (by decide)
      have r1 : vs 1 = .agg gs.toArray := hR 1 (by decide)
      have r2 : vs 2 = .bool false := hR 2 (by decide)
      have r3 : vs 3 = .bool false := hR 3 (by decide)
      have r4 : vs 4 = undef := hR 4 (by decide)
      have r5 : vs 5 = undef := hR 5 (by decide)
      have r6 : vs 6 = undef := hR 6 (by decide)
      have r7 : vs 7 = undef := hR 7 (by decide)
      have r8 : vs 8 = .bool false := hR 8 (by decide)
      have r9 : vs 9 = .bool false := hR 9 (by decide)
      simp only [putFrom, Act.put, List.setIfInBounds_toArray, List.set_cons_zero, List.set_cons_succ, r0, r1, r2, r3, r4, r5, r6, r7, r8, r9]
      have HV := Lib.hid hinv
      have HR := Lib.hid hR
      clear hinv hR r0 r1 r2 r3 r4 r5 r6 r7 r8 r9
      go_wp2
      go_ret
      exact ⟨by rw [E.out]; simp, below_then B0.out HV.out⟩
end Go.Proofs.Ytdinmdjdkhlgcaa
