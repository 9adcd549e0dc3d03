/- Whether a graph goes from a function to itself and is itself when composed with itself. -/
import Derived.Test.YtdinmdjdkhlgcaaThen
import Derived.Deep.RegionHeld3
import Derived.Deep.QuietTactic
import Derived.BigQuiet
import Derived.Lib.SlicesS
import Derived.Test.YtdinmdjdkhlgcaaEach
import Derived.Test.YtdinmdjdkhlgcaaKey
namespace Go.Proofs.Ytdinmdjdkhlgcaa
open Go.RowKit
set_option linter.unusedVariables false
set_option linter.unusedSimpArgs false

theorem below_drewN {B : Nat} {a w : World} (h : Below B a w) (n : Nat) : Below B a (w.drewN n) := ⟨h.os, h.tape, h.output, h.size, h.block⟩
set_option maxHeartbeats 4000000 in
set_option maxRecDepth 100000 in
theorem loops_no (g : Gr) (okg : g.Ok) (hne : g.src ≠ g.dst) (w : World) : Calls Try.prog 55 #[gV g] w fun e w' => e = .returned (.bool false) ∧ Below w.heap.size w w' := by
  have hu78 := Try.underlying78
  have G0 := GrAt.new w g
  have c0 := G0.src
  have c1 := G0.dst
  have hra := G0.range
  have hlen := gC_len okg
  have hone : ∀ v ∈ gC g, v.oneCell' = true := fun v hv => by
    have h := gC_one g
    rw [List.all_toArray, List.all_eq_true] at h
    exact h v hv
  have hi : (Try.prog.info? 78).map (·.size) = some (gC g).length := by rw [hlen]; exact info78
  have B0 := Lib.hid (show Below w.heap.size w (w.alloc (gB g)) from (Below.refl _ _).alloc (Nat.le_refl _) _)
  obtain ⟨cs, hcs⟩ : ∃ cs, cs = gC g := ⟨_, rfl⟩
  simp only [gB, ← hcs] at c0 c1 B0 hra hi hlen hone
  have hne2 : (g.src.toList == g.dst.toList) = false := (Lib.bytes_beq_false_iff _ _).2 hne
  simp only [gV, ← hcs]
  clear hcs G0 okg
  go_enter Try.func55, Try.ntmps55
  go_wp2
  go_quiet (fail)
  go_wp2
  go_ret
  exact ⟨rfl, below_drewN B0.out nq⟩
/-- What a graph's block yields when it is loaded whole. -/
def Loads (w : World) (b : Nat) (cs : Array Value) : Prop := (loadVar 78 ⟨b, 0, none⟩).run Try.prog w = .ok (.agg cs) w
theorem GrAt.loads {w : World} {b : Nat} {g : Gr} (h : GrAt w b g) (ok : g.Ok) : (loadCells ⟨b, 0, none⟩ 38).run Try.prog w = .ok (gC g).toArray w := by
  have := run_loadCells_list (P := Try.prog) (w := w) ⟨b, 0, none⟩ (gC g) (fun j v hj => by
    rw [Addr.add_mid]
    exact h.range j v hj)
  rwa [gC_len ok] at this
theorem loads_of_range {w : World} {b : Nat} {cs : List Value} (h : w.rangeAt b 0 cs) (hl : cs.length = 38) : (loadCells ⟨b, 0, none⟩ 38).run Try.prog w = .ok cs.toArray w := by
  have := run_loadCells_list (P := Try.prog) (w := w) ⟨b, 0, none⟩ cs (fun j v hj => by
    rw [Addr.add_mid]
    exact h j v hj)
  rwa [hl] at this
theorem cellB {w w' : World} (hb : Below w.heap.size w w') {a : Addr} {v : Value} (h : w.cell? a = some v) : w'.cell? a = some v := (hb.cell (World.block_lt_of_cell? w _ h)).trans h
theorem rangeB {w w' : World} (hb : Below w.heap.size w w') {b : Nat} {cs : List Value} (h : w.rangeAt b 0 cs) : w'.rangeAt b 0 cs := fun j v hj => cellB hb (h j v hj)
theorem cell_drew {w : World} {a : Addr} {v : Value} (h : w.cell? a = some v) : w.drew.cell? a = some v := h
theorem range_drew {w : World} {b : Nat} {cs : List Value} (h : w.rangeAt b 0 cs) : w.drew.rangeAt b 0 cs := h
theorem below_then {a b c : World} (h : Below a.heap.size a b) (k : Below b.heap.size b c) : Below a.heap.size a c :=
  h.trans ⟨k.os, k.tape, k.output, k.size, fun j hj => k.block j (Nat.lt_of_lt_of_le hj h.size)⟩
set_option maxHeartbeats 4000000 in
set_option maxRecDepth 100000 in
theorem loops_yes (g : Gr) (okg : g.Ok) (he : g.src = g.dst) (w : World) : Calls Try.prog 55 #[gV g] w fun e w' => e = .returned (.bool (decide (g.then g = g))) ∧ Below w.heap.size w w' := by
  have hu78 := Try.underlying78
  have G0 := GrAt.new w g
  have c0 := G0.src
  have c1 := G0.dst
  have hra := G0.range
  have hlen := gC_len okg
  have hone : ∀ v ∈ gC g, v.oneCell' = true := fun v hv => by
    have h := gC_one g
    rw [List.all_toArray, List.all_eq_true] at h
    exact h v hv
  have hi : (Try.prog.info? 78).map (·.size) = some (gC g).length := by rw [hlen]; exact info78
  have B0 := Lib.hid (show Below w.heap.size w (w.alloc (gB g)) from (Below.refl _ _).alloc (Nat.le_refl _) _)
  have hld := G0.loads okg
  have HT := Lib.hid fun w5 => then_calls g g okg okg w5
  have HQ := Lib.hid fun w5 => run_eql78 (then_ok okg okg) okg w5
  obtain ⟨cs, hcs⟩ : ∃ cs, cs = gC g := ⟨_, rfl⟩
  simp only [gB, gV, ← hcs] at c0 c1 B0 hra hi hlen hone HT hld HQ
  have hne2 : (g.src.toList == g.dst.toList) = true := (Lib.bytes_beq_iff _ _).2 he
  simp only [gV, ← hcs]
  have he2 := Lib.hid he
  clear hcs G0 okg he
  go_enter Try.func55, Try.ntmps55
  go_wp2
  rename_i K hK
  let R : Nat → Value → World → Prop := fun i v w' => match i with
    | 0 => v = .pointer (some ⟨w.heap.size, 0, none⟩)
    | 1 => v = .string g.src
    | 2 => v = .pointer (some ⟨w.heap.size, 1, none⟩)
    | 3 => v = .string g.dst
    | 4 => v = .bool true
    | 5 => v = .bool true
    | 6 => v = .agg cs.toArray
    | 7 => v = .agg cs.toArray
    | 8 => v = .agg (gC (g.then g)).toArray
    | 9 => v = .agg cs.toArray
    | 10 => v = .bool (decide (g.then g = g))
    | 11 => v = .bool (decide (g.then g = g))
    | 12 => v = .bool (decide (g.then g = g))
    | _ => True
  refine wp_region_each (I := fun w' => Below (w.alloc (.cells cs.toArray 78)).heap.size (w.alloc (.cells cs.toArray 78)) w') (R := R) (T := fun _ _ => True) (by kernel_rfl) (by kernel_rfl) (by kernel_rfl) ?_ ?_ ?_ ?_
  · intro j v w1 w2 _ h
    rcases j with _ | _ | _ | _ | _ | _ | _ | _ | _ | _ | _ | _ | _ | j <;> exact h
  · exact below_drewN (Below.refl _ _) 1
  · intro i hi a w1 up
    have HI := Lib.hid hi
    clear hi
    have b1 : w1.cell? ⟨w.heap.size, 0, none⟩ = some (Value.string g.src) := cellB up.inv c0
    have b2 : w1.cell? ⟨w.heap.size, 1, none⟩ = some (Value.string g.dst) := cellB up.inv c1
    have UP := Lib.hid up
    have HRA := Lib.hid hra
    clear up c0 c1 hra
    rcases i with _ | _ | _ | _ | _ | _ | _ | _ | _ | _ | _ | _ | _ | i
    · have h1 : a.tmps.getD 1 undef = .pointer (some ⟨w.heap.size, 0, none⟩) := UP.out.before 1 (by kernel_rfl)
      refine wpOp_value (v := .pointer (some ⟨w.heap.size, 0, none⟩)) rfl (by kernel_rfl) (by go_simp) ⟨_, rfl, trivial, UP.out.inv, rfl⟩
    · have h1 : a.tmps.getD 3 undef = .pointer (some ⟨w.heap.size, 0, none⟩) := UP.out.dep 0 (by kernel_rfl)
      refine wpOp_value (v := .string g.src) rfl (by kernel_rfl) (by go_simp) ⟨_, rfl, trivial, UP.out.inv, rfl⟩
    · have h1 : a.tmps.getD 1 undef = .pointer (some ⟨w.heap.size, 0, none⟩) := UP.out.before 1 (by kernel_rfl)
      refine wpOp_value (v := .pointer (some ⟨w.heap.size, 1, none⟩)) rfl (by kernel_rfl) (by go_simp) ⟨_, rfl, trivial, UP.out.inv, rfl⟩
    · have h1 : a.tmps.getD 5 undef = .pointer (some ⟨w.heap.size, 1, none⟩) := UP.out.dep 2 (by kernel_rfl)
      refine wpOp_value (v := .string g.dst) rfl (by kernel_rfl) (by go_simp) ⟨_, rfl, trivial, UP.out.inv, rfl⟩
    · have h1 : a.tmps.getD 4 undef = .string g.src := UP.out.dep 1 (by kernel_rfl)
      have h2 : a.tmps.getD 6 undef = .string g.dst := UP.out.dep 3 (by kernel_rfl)
      refine wpOp_value (v := .bool true) rfl (by kernel_rfl) (by go_simp) ⟨_, rfl, trivial, UP.out.inv, rfl⟩
    · have h1 : a.tmps.getD 7 undef = .bool true := UP.out.dep 4 (by kernel_rfl)
      refine wpOp_value (v := .bool true) rfl (by kernel_rfl) (by go_simp) ⟨_, rfl, trivial, UP.out.inv, rfl⟩
    · have h1 : a.tmps.getD 1 undef = .pointer (some ⟨w.heap.size, 0, none⟩) := UP.out.before 1 (by kernel_rfl)
      have hg : a.tmps.getD 8 undef = .bool true := UP.out.dep 5 (by kernel_rfl)
      refine wpOp_load rfl rfl (wanted_yes rfl (by kernel_rfl) hg) h1 (run_loadAt_mid w1 _ 0 78 cs _ (rangeB UP.out.inv HRA.out) hu78 rfl hi) ⟨_, rfl, trivial, UP.out.inv, rfl⟩
    · have h1 : a.tmps.getD 1 undef = .pointer (some ⟨w.heap.size, 0, none⟩) := UP.out.before 1 (by kernel_rfl)
      have hg : a.tmps.getD 8 undef = .bool true := UP.out.dep 5 (by kernel_rfl)
      refine wpOp_load rfl rfl (wanted_yes rfl (by kernel_rfl) hg) h1 (run_loadAt_mid w1 _ 0 78 cs _ (rangeB UP.out.inv HRA.out) hu78 rfl hi) ⟨_, rfl, trivial, UP.out.inv, rfl⟩
    · have hg : a.tmps.getD 8 undef = .bool true := UP.out.dep 5 (by kernel_rfl)
      have h1 : a.tmps.getD 9 undef = .agg cs.toArray := UP.out.dep 6 (by kernel_rfl)
      have h2 : a.tmps.getD 10 undef = .agg cs.toArray := UP.out.dep 7 (by kernel_rfl)
      refine wpOp_call (f := 40) (args := #[.agg cs.toArray, .agg cs.toArray]) (R := fun v w' => v = .agg (gC (g.then g)).toArray ∧ Below w1.heap.size w1 w') rfl (wanted_yes rfl (by kernel_rfl) hg) (by go_simp) ((HT.out w1).mono ?_) ?_
      · rintro e w2 ⟨rfl, hb⟩
        exact ⟨_, rfl, rfl, hb⟩
      · rintro v w2 ⟨rfl, hb⟩
        exact ⟨_, rfl, trivial, below_then UP.out.inv hb, rfl⟩
    · have h1 : a.tmps.getD 1 undef = .pointer (some ⟨w.heap.size, 0, none⟩) := UP.out.before 1 (by kernel_rfl)
      have hg : a.tmps.getD 8 undef = .bool true := UP.out.dep 5 (by kernel_rfl)
      refine wpOp_load rfl rfl (wanted_yes rfl (by kernel_rfl) hg) h1 (run_loadAt_mid w1 _ 0 78 cs _ (rangeB UP.out.inv HRA.out) hu78 rfl hi) ⟨_, rfl, trivial, UP.out.inv, rfl⟩
    · have hg : a.tmps.getD 8 undef = .bool true := UP.out.dep 5 (by kernel_rfl)
      have h1 : a.tmps.getD 11 undef = .agg (gC (g.then g)).toArray := UP.out.dep 8 (by kernel_rfl)
      have h2 : a.tmps.getD 12 undef = .agg cs.toArray := UP.out.dep 9 (by kernel_rfl)
      exact wpOp_bin rfl rfl (wanted_yes rfl (by kernel_rfl) hg) h1 h2 (guard78 _ _ _ _ w1) (HQ.out w1) ⟨_, rfl, trivial, UP.out.inv, rfl⟩
    · have h1 : a.tmps.getD 8 undef = .bool true := UP.out.dep 5 (by kernel_rfl)
      have h2 : a.tmps.getD 13 undef = .bool (decide (g.then g = g)) := UP.out.dep 10 (by kernel_rfl)
      refine wpOp_value (v := .bool (decide (g.then g = g))) rfl (by kernel_rfl) (by go_simp) ⟨_, rfl, trivial, UP.out.inv, rfl⟩
    · have h2 : a.tmps.getD 14 undef = .bool (decide (g.then g = g)) := UP.out.dep 11 (by kernel_rfl)
      refine wpOp_value (v := .bool (decide (g.then g = g))) rfl (by kernel_rfl) (by go_simp) ⟨_, rfl, trivial, UP.out.inv, rfl⟩
    · exact absurd HI.out (by simp)
  · intro vs w' hinv hR
    have r12 : vs 12 = .bool (decide (g.then g = g)) := hR 12 (by decide)
    simp only [putFrom, Act.put, List.setIfInBounds_toArray, List.set_cons_zero, List.set_cons_succ, r12]
    have BI := Lib.hid hinv
    clear hinv hR c0 c1 hra
    go_wp2
    go_ret
    exact ⟨rfl, below_then B0.out BI.out⟩
/-- A graph goes from a function to itself and is itself when composed with itself. -/
def Gr.loops (g : Gr) : Bool := decide (g.src = g.dst) && decide (g.then g = g)
theorem loops_calls (g : Gr) (okg : g.Ok) (w : World) : Calls Try.prog 55 #[gV g] w fun e w' => e = .returned (.bool g.loops) ∧ Below w.heap.size w w' := by
  unfold Gr.loops
  by_cases h : g.src = g.dst
  · rw [decide_eq_true h, Bool.true_and]
    exact loops_yes g okg h w
  · rw [decide_eq_false h, Bool.false_and]
    exact loops_no g okg h w
end Go.Proofs.Ytdinmdjdkhlgcaa
