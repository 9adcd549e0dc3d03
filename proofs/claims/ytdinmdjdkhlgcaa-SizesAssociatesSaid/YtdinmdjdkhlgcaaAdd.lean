/- The closure add of closed. -/
import Derived.Test.YtdinmdjdkhlgcaaAddSt
namespace Go.Proofs.Ytdinmdjdkhlgcaa
open Go.RowKit
set_option linter.unusedVariables false
set_option linter.unusedSimpArgs false

abbrev addArgs (g : Gr) (s : Value) (p q r : Nat) : Array Value := #[mV g s, .pointer (some ⟨p, 0, none⟩), .pointer (some ⟨q, 0, none⟩), .pointer (some ⟨r, 0, none⟩)]
set_option maxHeartbeats 4000000 in
set_option maxRecDepth 100000 in
/-- It was seen: nothing turns. -/
theorem add_seen {B : Nat} {w : World} {p q r mb cb cap : Nat} {all queue : List (Gr × Value)} {av : Value} {n rr : Nat} (h : CS B w p q r mb cb cap all queue av n rr) {g : Gr} (okg : g.Ok) (s : Value) (hin : g ∈ all.map (·.1)) :
    Calls Try.prog 51 (addArgs g s p q r) w fun e w' => e = .returned (.bool true) ∧ Below w.heap.size w w' := by
  have hu112 := Try.underlying112
  have hu80 := Try.underlying80
  have hu78 := Try.underlying78
  have h1 := h.below (show Below w.heap.size w (w.alloc (.cells (mC g s).toArray 80)) from (Below.refl _ _).alloc (Nat.le_refl _) _)
  have B1 := Lib.hid (show Below w.heap.size w (w.alloc (.cells (mC g s).toArray 80)) from (Below.refl _ _).alloc (Nat.le_refl _) _)
  have hrow := heap_alloc_new w (.cells (mC g s).toArray 80)
  have hlook := h1.look okg
  rw [show (decide (g ∈ all.map (·.1))) = true from decide_eq_true hin] at hlook
  obtain ⟨b, hb⟩ : ∃ b, b = w.heap.size := ⟨_, rfl⟩
  obtain ⟨W1, hW1⟩ : ∃ W1, W1 = w.alloc (.cells (mC g s).toArray 80) := ⟨_, rfl⟩
  rw [← hW1] at h1 B1 hrow hlook
  rw [← hb] at hrow
  have hra := range_row hrow
  have hrg := Lib.hid (rangeM hra)
  have hi78 : (Try.prog.info? 78).map (·.size) = some (gC g).length := by rw [gC_len okg]; exact info78
  clear hin
  have H1 := Lib.hid h1
  have HLOOK := Lib.hid hlook
  have HI78 := Lib.hid hi78
  have HB := Lib.hid hb
  have OKG := Lib.hid okg
  have HROW := Lib.hid hrow
  have HRA := Lib.hid hra
  have cp : W1.cell? ⟨p, 0, none⟩ = some (.map (some mb)) := cell_of_row _ _ 0 _ _ _ h1.hp
  simp only [addArgs, mV, gV] at *
  generalize hms : mC g s = ms at *
  generalize hgs : gC g = gs at *
  have HMS := Lib.hid hms
  have HGS := Lib.hid hgs
  clear h h1 hrow hra hlook hi78 okg hms hgs
  go_enter Try.func51, Try.ntmps51
  go_upto_region 1 with fail
  rw [← hW1, ← HB.out]
  have HW1 := Lib.hid hW1
  clear hW1 hb
  refine wp_region_list ?_
  dsimp only [List.toList_toArray]
  refine wpList_val (v := .map (some mb)) (w' := W1) rfl (by go_simp) ?_
  refine wpList_val (v := .pointer (some ⟨b, 0, none⟩)) (w' := W1) rfl (by go_simp) ?_
  refine wpList_loadv rfl rfl rfl (run_loadAt_mid W1 b 0 78 gs _ hrg.out hu78 rfl HI78.out) ?_
  refine wpList_val (v := .bool true) (w' := W1) rfl (by exact run_val HLOOK.out) ?_
  refine wpList_nil ?_
  simp only [Act.put, List.setIfInBounds_toArray, List.set_cons_zero, List.set_cons_succ]
  go_wp2
  go_ret
  exact ⟨rfl, B1.out⟩
set_option maxHeartbeats 4000000 in
set_option maxRecDepth 100000 in
/-- It is new, and there are too many. -/
theorem add_full {B : Nat} {w : World} {p q r mb cb cap : Nat} {all queue : List (Gr × Value)} {av : Value} {n rr : Nat} (h : CS B w p q r mb cb cap all queue av n rr) {g : Gr} (okg : g.Ok) (s : Value) (hs1 : s.oneCell' = true) (hin : g ∉ all.map (·.1)) (hlen : all.length ≤ 2000) (hfull : all.length = 2000) :
    Calls Try.prog 51 (addArgs g s p q r) w fun e w' => e = .returned (.bool false) ∧ ∃ av', Added w w' q mb cb av av' := by
  have hB0 : B ≤ w.heap.size := Nat.le_trans h.bp (Nat.le_of_lt (lt_of_heap h.hp))
  have HB0 := Lib.hid hB0
  clear hB0
  have hu112 := Try.underlying112
  have hu80 := Try.underlying80
  have hu78 := Try.underlying78
  have h1 := h.below (show Below w.heap.size w (w.alloc (.cells (mC g s).toArray 80)) from (Below.refl _ _).alloc (Nat.le_refl _) _)
  have B1 := Lib.hid (show Below w.heap.size w (w.alloc (.cells (mC g s).toArray 80)) from (Below.refl _ _).alloc (Nat.le_refl _) _)
  have hrow := heap_alloc_new w (.cells (mC g s).toArray 80)
  have hlook := h1.look okg
  rw [show (decide (g ∈ all.map (·.1))) = false from decide_eq_false hin] at hlook
  obtain ⟨b, hb⟩ : ∃ b, b = w.heap.size := ⟨_, rfl⟩
  obtain ⟨W1, hW1⟩ : ∃ W1, W1 = w.alloc (.cells (mC g s).toArray 80) := ⟨_, rfl⟩
  rw [← hW1] at h1 B1 hrow hlook
  rw [← hb] at hrow
  have hra := range_row hrow
  have hrg := Lib.hid (rangeM hra)
  have hi78 : (Try.prog.info? 78).map (·.size) = some (gC g).length := by rw [gC_len okg]; exact info78
  have hu72 := Try.underlying72
  have HI80 : Hid ((Try.prog.info? 80).map (·.size) = some (mC g s).length) := Lib.hid (by rw [mC_len okg]; exact info80)
  have HLM := Lib.hid (mC_len okg s)
  have hbo : some b ≠ av.ownBlock := fun e => by
    have := (h.own.lt b e.symm).2
    omega
  have hBw : B ≤ W1.heap.size := Nat.le_trans h1.bp (Nat.le_of_lt (lt_of_heap h1.hp))
  obtain ⟨W2, W4, W5, gA, cA, hup, cq2, hr2, hap, hst, cq5, cr5, hr5, hc5, had5, hfin, hadd⟩ := h1.adds okg hs1 hin hrow hBw hbo hlen 72
  generalize hW6 : W5.setChan cb cap ((queue.map fun x => mV x.1 x.2).toArray.push (mV g s)) false (n + 1) rr false = W6 at hfin hadd
  have HW6 := Lib.hid hW6
  clear hW6
  have HUP := Lib.hid hup
  have HR2 := Lib.hid hr2
  have HAP := Lib.hid hap
  have HST := Lib.hid hst
  have HR5 := Lib.hid hr5
  have HC5 := Lib.hid hc5
  have HAD := Lib.hid had5
  have HFIN := Lib.hid hfin
  have HADD := Lib.hid hadd
  clear hup hr2 hap hst hr5 hc5 had5 hfin hadd hBw hbo hs1
  clear hin
  have H1 := Lib.hid h1
  have HLOOK := Lib.hid hlook
  have HI78 := Lib.hid hi78
  have HB := Lib.hid hb
  have OKG := Lib.hid okg
  have HROW := Lib.hid hrow
  have HRA := Lib.hid hra
  have cp : W1.cell? ⟨p, 0, none⟩ = some (.map (some mb)) := cell_of_row _ _ 0 _ _ _ h1.hp
  simp only [addArgs, mV, gV] at *
  generalize hms : mC g s = ms at *
  generalize hgs : gC g = gs at *
  have HMS := Lib.hid hms
  have HGS := Lib.hid hgs
  clear h h1 hrow hra hlook hi78 okg hms hgs
  go_enter Try.func51, Try.ntmps51
  go_upto_region 1 with fail
  rw [← hW1, ← HB.out]
  have HW1 := Lib.hid hW1
  clear hW1 hb
  refine wp_region_list ?_
  dsimp only [List.toList_toArray]
  refine wpList_val (v := .map (some mb)) (w' := W1) rfl (by go_simp) ?_
  refine wpList_val (v := .pointer (some ⟨b, 0, none⟩)) (w' := W1) rfl (by go_simp) ?_
  refine wpList_loadv rfl rfl rfl (run_loadAt_mid W1 b 0 78 gs _ hrg.out hu78 rfl HI78.out) ?_
  refine wpList_val (v := .bool false) (w' := W1) rfl (by exact run_val HLOOK.out) ?_
  refine wpList_nil ?_
  simp only [Act.put, List.setIfInBounds_toArray, List.set_cons_zero, List.set_cons_succ]
  go_upto_region 3 with fail
  refine wp_region_list ?_
  dsimp only [List.toList_toArray]
  refine wpList_val (v := .map (some mb)) (w' := W1) rfl (by go_simp) ?_
  refine wpList_val (v := .pointer (some ⟨b, 0, none⟩)) (w' := W1) rfl (by go_simp) ?_
  refine wpList_loadv rfl rfl rfl (run_loadAt_mid W1 b 0 78 gs _ hrg.out hu78 rfl HI78.out) ?_
  refine wpList_unit (w' := W2) rfl (by exact run_u HUP.out) ?_
  refine wpList_nil ?_
  simp only [Act.put, List.setIfInBounds_toArray, List.set_cons_zero, List.set_cons_succ]
  go_upto_region 4 with fail
  clear cp
  refine wp_region_list ?_
  dsimp only [List.toList_toArray]
  refine wpList_val (v := av) (w' := W2) rfl (by go_simp) ?_
  refine wpList_loadv rfl rfl rfl (run_loadAt_mid W2 b 0 80 ms _ HR2.out hu80 rfl HI80.out) ?_
  refine wpList_val (v := .slice (some ⟨W2.heap.size, 0, none⟩) 1 1) (w' := (W2.alloc (.cells ms.toArray 80))) rfl (exec_slice1 rfl rfl hu72 info80z (by omega) (by omega) rfl HLM.out) ?_
  refine wpList_val (v := .slice (some ⟨gA, 0, none⟩) (all.length + 1) cA) (w' := W4) rfl (exec_append rfl rfl rfl HAP.out) ?_
  refine wpList_unit (w' := W5) rfl (by exact run_u HST.out) ?_
  refine wpList_nil ?_
  simp only [Act.put, List.setIfInBounds_toArray, List.set_cons_zero, List.set_cons_succ]
  clear cq2
  have hgt : decide ((all.length : Int) + 1 > 2000) = true := decide_eq_true (by omega)
  have hgt2 : decide ((2000 : Int) < (all.length : Int) + 1) = true := decide_eq_true (by omega)
  go_wp2
  go_ret
  exact ⟨rfl, _, (Added.of_below B1.out).trans' HAD.out⟩
set_option maxHeartbeats 4000000 in
set_option maxRecDepth 100000 in
/-- It is new, and put in. -/
theorem add_new {B : Nat} {w : World} {p q r mb cb cap : Nat} {all queue : List (Gr × Value)} {av : Value} {n rr : Nat} (h : CS B w p q r mb cb cap all queue av n rr) {g : Gr} (okg : g.Ok) (s : Value) (hs1 : s.oneCell' = true) (hin : g ∉ all.map (·.1)) (hlen : all.length < 2000) (hcap : queue.length < cap) :
    Calls Try.prog 51 (addArgs g s p q r) w fun e w' => e = .returned (.bool true) ∧ ∃ av', CS B w' p q r mb cb cap (all ++ [(g, s)]) (queue ++ [(g, s)]) av' (n + 1) rr ∧ Added w w' q mb cb av av' := by
  have hlen : all.length ≤ 2000 := by omega
  have HS0 := Lib.hid h.own
  have HCAP := Lib.hid hcap
  clear hcap
  have hu112 := Try.underlying112
  have hu80 := Try.underlying80
  have hu78 := Try.underlying78
  have h1 := h.below (show Below w.heap.size w (w.alloc (.cells (mC g s).toArray 80)) from (Below.refl _ _).alloc (Nat.le_refl _) _)
  have B1 := Lib.hid (show Below w.heap.size w (w.alloc (.cells (mC g s).toArray 80)) from (Below.refl _ _).alloc (Nat.le_refl _) _)
  have hrow := heap_alloc_new w (.cells (mC g s).toArray 80)
  have hlook := h1.look okg
  rw [show (decide (g ∈ all.map (·.1))) = false from decide_eq_false hin] at hlook
  obtain ⟨b, hb⟩ : ∃ b, b = w.heap.size := ⟨_, rfl⟩
  obtain ⟨W1, hW1⟩ : ∃ W1, W1 = w.alloc (.cells (mC g s).toArray 80) := ⟨_, rfl⟩
  rw [← hW1] at h1 B1 hrow hlook
  rw [← hb] at hrow
  have hra := range_row hrow
  have hrg := Lib.hid (rangeM hra)
  have hi78 : (Try.prog.info? 78).map (·.size) = some (gC g).length := by rw [gC_len okg]; exact info78
  have hu72 := Try.underlying72
  have HI80 : Hid ((Try.prog.info? 80).map (·.size) = some (mC g s).length) := Lib.hid (by rw [mC_len okg]; exact info80)
  have HLM := Lib.hid (mC_len okg s)
  have hbo : some b ≠ av.ownBlock := fun e => by
    have := (h.own.lt b e.symm).2
    omega
  have hBw : B ≤ W1.heap.size := Nat.le_trans h1.bp (Nat.le_of_lt (lt_of_heap h1.hp))
  obtain ⟨W2, W4, W5, gA, cA, hup, cq2, hr2, hap, hst, cq5, cr5, hr5, hc5, had5, hfin, hadd⟩ := h1.adds okg hs1 hin hrow hBw hbo hlen 72
  generalize hW6 : W5.setChan cb cap ((queue.map fun x => mV x.1 x.2).toArray.push (mV g s)) false (n + 1) rr false = W6 at hfin hadd
  have HW6 := Lib.hid hW6
  clear hW6
  have HUP := Lib.hid hup
  have HR2 := Lib.hid hr2
  have HAP := Lib.hid hap
  have HST := Lib.hid hst
  have HR5 := Lib.hid hr5
  have HC5 := Lib.hid hc5
  have HAD := Lib.hid had5
  have HFIN := Lib.hid hfin
  have HADD := Lib.hid hadd
  clear hup hr2 hap hst hr5 hc5 had5 hfin hadd hBw hbo hs1
  clear hin
  have H1 := Lib.hid h1
  have HLOOK := Lib.hid hlook
  have HI78 := Lib.hid hi78
  have HB := Lib.hid hb
  have OKG := Lib.hid okg
  have HROW := Lib.hid hrow
  have HRA := Lib.hid hra
  have cp : W1.cell? ⟨p, 0, none⟩ = some (.map (some mb)) := cell_of_row _ _ 0 _ _ _ h1.hp
  simp only [addArgs, mV, gV] at *
  generalize hms : mC g s = ms at *
  generalize hgs : gC g = gs at *
  have HMS := Lib.hid hms
  have HGS := Lib.hid hgs
  clear h h1 hrow hra hlook hi78 okg hms hgs
  go_enter Try.func51, Try.ntmps51
  go_upto_region 1 with fail
  rw [← hW1, ← HB.out]
  have HW1 := Lib.hid hW1
  clear hW1 hb
  refine wp_region_list ?_
  dsimp only [List.toList_toArray]
  refine wpList_val (v := .map (some mb)) (w' := W1) rfl (by go_simp) ?_
  refine wpList_val (v := .pointer (some ⟨b, 0, none⟩)) (w' := W1) rfl (by go_simp) ?_
  refine wpList_loadv rfl rfl rfl (run_loadAt_mid W1 b 0 78 gs _ hrg.out hu78 rfl HI78.out) ?_
  refine wpList_val (v := .bool false) (w' := W1) rfl (by exact run_val HLOOK.out) ?_
  refine wpList_nil ?_
  simp only [Act.put, List.setIfInBounds_toArray, List.set_cons_zero, List.set_cons_succ]
  go_upto_region 3 with fail
  refine wp_region_list ?_
  dsimp only [List.toList_toArray]
  refine wpList_val (v := .map (some mb)) (w' := W1) rfl (by go_simp) ?_
  refine wpList_val (v := .pointer (some ⟨b, 0, none⟩)) (w' := W1) rfl (by go_simp) ?_
  refine wpList_loadv rfl rfl rfl (run_loadAt_mid W1 b 0 78 gs _ hrg.out hu78 rfl HI78.out) ?_
  refine wpList_unit (w' := W2) rfl (by exact run_u HUP.out) ?_
  refine wpList_nil ?_
  simp only [Act.put, List.setIfInBounds_toArray, List.set_cons_zero, List.set_cons_succ]
  go_upto_region 4 with fail
  clear cp
  refine wp_region_list ?_
  dsimp only [List.toList_toArray]
  refine wpList_val (v := av) (w' := W2) rfl (by go_simp) ?_
  refine wpList_loadv rfl rfl rfl (run_loadAt_mid W2 b 0 80 ms _ HR2.out hu80 rfl HI80.out) ?_
  refine wpList_val (v := .slice (some ⟨W2.heap.size, 0, none⟩) 1 1) (w' := (W2.alloc (.cells ms.toArray 80))) rfl (exec_slice1 rfl rfl hu72 info80z (by omega) (by omega) rfl HLM.out) ?_
  refine wpList_val (v := .slice (some ⟨gA, 0, none⟩) (all.length + 1) cA) (w' := W4) rfl (exec_append rfl rfl rfl HAP.out) ?_
  refine wpList_unit (w' := W5) rfl (by exact run_u HST.out) ?_
  refine wpList_nil ?_
  simp only [Act.put, List.setIfInBounds_toArray, List.set_cons_zero, List.set_cons_succ]
  clear cq2
  have hgt2 : decide ((2000 : Int) < (all.length : Int) + 1) = false := decide_eq_false (by omega)
  go_upto_region 7 with fail
  refine wp_region_sem ?_
  refine (show wpSem Try.prog _ _ [0, 1, 2] _ _ from ?_)
  refine sem_value (v := .chan (some cb)) (w' := W5) rfl rfl (by go_simp) ?_
  refine sem_value (v := .agg ms.toArray) (w' := W5) rfl rfl (by exact run_val (run_loadAt_mid W5 b 0 80 ms _ HR5.out hu80 rfl HI80.out)) ?_
  refine sem_send (c := cb) (v := .agg ms.toArray) (z' := .tuple #[]) rfl rfl rfl HC5.out (by simpa using HCAP.out) ?_
  rw [HW6.out]
  refine sem_of_ops ?_
  simp only [Act.put, List.setIfInBounds_toArray, List.set_cons_zero, List.set_cons_succ]
  clear cq5 cr5
  refine (show Exit.then _ _ Exit.normal _ _ from ?_)
  go_wp2
  go_ret
  exact ⟨rfl, _, HFIN.out, (Added.of_below B1.out).trans' HADD.out⟩
end Go.Proofs.Ytdinmdjdkhlgcaa
