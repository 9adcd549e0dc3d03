/- bad: the first graph of a closure that loops and in which nothing becomes smaller. -/
import Derived.Test.YtdinmdjdkhlgcaaIndex
namespace Go.Proofs.Ytdinmdjdkhlgcaa
open Go.RowKit
set_option linter.unusedVariables false
set_option linter.unusedSimpArgs false

/-- A row stored whole, over one of its own length. -/
theorem run_storeAt_row {w : World} {b ty ty' : Nat} {cs : List Value} {z : Array Value} (hb : w.heap[b]? = some (.cells z ty' (0, 0))) (hz : z.size = cs.length) (hone : ∀ v ∈ cs, v.oneCell' = true) (hi : (Try.prog.info? ty).map (·.size) = some cs.length) :
    (Instr.storeAt ty (.pointer (some ⟨b, 0, none⟩)) (.agg cs.toArray)).run Try.prog w = .ok () (w.setRow b cs.toArray) := by
  have hst := run_storeCells_from (P := Try.prog) b ty' cs 0 z w hb (by rw [hz]; omega) hone
  have he : (z.toList.take 0 ++ cs ++ z.toList.drop (0 + cs.length)).toArray = cs.toArray := by
    rw [List.drop_of_length_le (by simp [hz])]
    simp
  have hsz : (sizeOf ty).run Try.prog w = .ok cs.length w := by
    cases hq : Try.prog.info? ty with
    | none => simp [hq] at hi
    | some i =>
      have hs : i.size = cs.length := by simpa [hq] using hi
      simp [sizeOf, typeInfo, hq, hs]
  simp [Instr.storeAt, Instr.sureAddr, storeVar, Sem.run_bind, hsz, Value.cells]
  simpa using hst
theorem mC_one (g : Gr) (s : Value) (hs : s.oneCell' = true) : ∀ v ∈ mC g s, v.oneCell' = true := by
  intro v hv
  unfold mC at hv
  rcases List.mem_append.1 hv with hv | hv
  · have h := gC_one g
    rw [List.all_toArray, List.all_eq_true] at h
    exact h v hv
  · rw [List.mem_singleton.1 hv]
    exact hs
theorem run_u {P : Program} {s : Sem Unit} {w w' : World} (h : s.run P w = .ok () w') : Sem.run P (do s; pure Next.skip : Sem Next) w = .ok .skip w' := by
  rw [Sem.run_bind, h]
  rfl
/-- A store whose law is given. -/
theorem wpOp_store {P : Program} {ops : Array Oper} {Q : Exit → Act → World → Prop} {i : Nat} {K : Act → World → Prop} {a : Act} {w w' : World} {o : Oper} {v p : Value} {ty : TypeId} {x y : Operand} (ho : ops[i]? = some o) (hop : o.op = .store ty x y) (hw : Region.wanted o (yielded ops a.tmps) = true) (hx : a.eval x = p) (hy : a.eval y = v)
    (hr : (Instr.storeAt ty p v).run P w = .ok () w') (h : K (a.put o.dst undef) w') : wpOp P ops Q i K a w := by
  refine wpOp_run ho hw ?_
  unfold Oper.wp
  have he : (execOp a.eval o).run P w = .ok .skip w' := by
    simp only [execOp, hop]
    rw [hx, hy]
    exact run_u hr
  rw [he]
  exact h
/-- Two results: a struct that lies in memory, and a slot. -/
theorem results_cell_tmp {fn : Func} {p t : Tmp} {ty : TypeId} (h : fn.results = #[.cell p ty, .tmp t]) (tmps : Array Value) (w : World) (g : Nat) (cs : List Value) (d : TypeDesc) (v : Value)
    (hp : tmps.getD p undef = .pointer (some ⟨g, 0, none⟩)) (hg : w.rangeAt g 0 cs) (hu : Try.prog.underlying ty = some d) (hd : d.isRow = true) (hi : (Try.prog.info? ty).map (·.size) = some cs.length) (hv : tmps.getD t undef = v) :
    (results fn tmps).run Try.prog w = .ok (.tuple #[.agg cs.toArray, v]) w := by
  have hp' : tmps[p]?.getD undef = .pointer (some ⟨g, 0, none⟩) := by simpa using hp
  have hv' : tmps[t]?.getD undef = v := by simpa using hv
  have hl := run_loadVar_mid (P := Try.prog) w g 0 ty cs d hg hu hd hi
  simp [results, h, hp', hv', asAddr, hl]
abbrev m0 : List Value := mC g0 (.slice none 0 0)
theorem zero80 (w : World) : (zeroValue 80).run Try.prog w = .ok (.agg m0.toArray) w := by kernel_rfl
theorem build80 (w : World) : (Instr.build 80 #[]).run Try.prog w = .ok (.agg m0.toArray) w := by kernel_rfl
/-- What bad returns. -/
def badOf (l : List (Gr × Value)) : Gr × Value := (l[(firstBad l).toNat]?).getD (g0, .slice none 0 0)
def anyBad (l : List (Gr × Value)) : Bool := decide (0 ≤ firstBad l)
theorem range_row {w : World} {b t : Nat} {cs : List Value} (h : w.heap[b]? = some (.cells cs.toArray t (0, 0))) : w.rangeAt b 0 cs := by
  intro j v hj
  rw [Nat.zero_add, cell_of_row w b _ _ _ _ h]
  simpa using hj
theorem firstBad_lt (l : List (Gr × Value)) : firstBad l < l.length ∧ -1 ≤ firstBad l := by
  unfold firstBad
  split
  · rename_i i h
    rw [List.findIdx?_eq_some_iff_getElem] at h
    obtain ⟨h, _⟩ := h
    omega
  · omega
def BadPost (l : List (Gr × Value)) (w : World) (e : Ending) (w' : World) : Prop := (∃ cs : List Value, e = .returned (.tuple #[.agg cs.toArray, .bool (anyBad l)]) ∧ cs.length = 39 ∧ (∀ v ∈ cs, v.oneCell' = true) ∧ (anyBad l = true → cs = mC (badOf l).1 (badOf l).2)) ∧ Below w.heap.size w w'
theorem row_below {w w' : World} {g : Nat} {o : Obj} (h : w.heap[g]? = some o) (hb : Below w.heap.size w w') : w'.heap[g]? = some o := (hb.block _ (Array.getElem?_eq_some_iff.1 h).1).trans h
set_option maxHeartbeats 4000000 in
set_option maxRecDepth 100000 in
theorem bad_calls (A : Option Addr) (c : Nat) (l : List (Gr × Value)) (w : World) (hA : Mades w A l) (hok : ∀ p ∈ l, p.1.Ok) (hone : ∀ p ∈ l, p.2.oneCell' = true) (hm : l.length ≤ 100000) (hc : l.length ≤ c) :
    Calls Try.prog 33 #[.slice A l.length c] w (BadPost l w) := by
  have hu80 := Try.underlying80
  have HI := Lib.hid fun w5 h => index_calls A c l w5 h hok hm
  have HA := Lib.hid hA
  have HO := Lib.hid hone
  have HK := Lib.hid hok
  obtain ⟨z, hz⟩ : ∃ z, z = m0 := ⟨_, rfl⟩
  have hz80 : ∀ w, (zeroValue 80).run Try.prog w = .ok (.agg z.toArray) w := fun w => by rw [hz]; exact zero80 w
  have hb80 : ∀ w, (Instr.build 80 #[]).run Try.prog w = .ok (.agg z.toArray) w := fun w => by rw [hz]; exact build80 w
  have HZ1 : Hid (z.length = 39) := Lib.hid (by rw [hz]; rfl)
  have HZ2 : Hid (∀ v ∈ z, v.oneCell' = true) := Lib.hid (by rw [hz]; exact mC_one _ _ rfl)
  have hi : (Try.prog.info? 80).map (·.size) = some z.length := by rw [HZ1.out]; exact info80
  clear hz hA hone hok
  obtain ⟨hl1, hl2⟩ := firstBad_lt l
  have EB : Hid (anyBad l = decide (0 ≤ firstBad l)) := Lib.hid rfl
  have EO : Hid (badOf l = (l[(firstBad l).toNat]?).getD (g0, .slice none 0 0)) := Lib.hid rfl
  generalize hfb : firstBad l = r at *
  clear hfb
  by_cases hneg : r < 0
  · have hlt : decide (r < 0) = true := decide_eq_true hneg
    have EB2 : Hid (anyBad l = false) := Lib.hid (by rw [EB.out]; exact decide_eq_false (by omega))
    go_enter Try.func33, Try.ntmps33
    go_upto_region 3 with (go_at_call 53; refine (HI.out _ (HA.out.below ((Below.refl _ _).alloc (Nat.le_refl _) _))).mono ?_; rintro e w2 ⟨rfl, hb2⟩)
    have HR := Lib.hid (row_below (heap_alloc_new w (.cells z.toArray 80)) hb2)
    have B := Lib.hid (below_then ((Below.refl w.heap.size w).alloc (Nat.le_refl _) (.cells z.toArray 80)) hb2)
    clear hb2
    let R : Nat → Value → World → Prop := fun i v w' => match i with
      | 0 => v = .agg z.toArray
      | 1 => w'.heap[w.heap.size]? = some (.cells z.toArray 80 (0, 0))
      | 2 => v = .bool false
      | _ => True
    refine wp_region_row (I := fun w' => Below w.heap.size w w' ∧ ∃ z2 : Array Value, w'.heap[w.heap.size]? = some (.cells z2 80 (0, 0)) ∧ z2.size = 39) (R := R) (T := fun w' w'' => w'.heap[w.heap.size]? = some (.cells z.toArray 80 (0, 0)) → w''.heap[w.heap.size]? = some (.cells z.toArray 80 (0, 0))) (by kernel_rfl) (by kernel_rfl) ?_ ?_ ?_ ?_
    · intro j v w1 w2 ht h
      rcases j with _ | _ | _ | j <;> first | exact h | exact ht h
    · exact ⟨B.out, _, HR.out, by simp [HZ1.out]⟩
    · intro i hlt a w1 up
      have HI := Lib.hid hlt
      clear hlt
      have UP := Lib.hid up
      clear up
      rcases i with _ | _ | _ | i
      · exact wpOp_value (v := .agg z.toArray) rfl (by kernel_rfl) (by go_simp) ⟨_, rfl, fun h => h, UP.out.inv, rfl⟩
      · have h2 : a.tmps.getD 2 undef = .pointer (some ⟨w.heap.size, 0, none⟩) := UP.out.before 2 (by kernel_rfl)
        have h9 : a.tmps.getD 9 undef = .agg z.toArray := UP.out.dep 0 (by kernel_rfl)
        obtain ⟨hb1, z2, hz2, hz3⟩ := UP.out.inv
        have hst := setRow_heap w1 w.heap.size z2 z.toArray 80 (0, 0) hz2
        exact wpOp_store rfl rfl (by kernel_rfl) h2 h9 (run_storeAt_row hz2 (by rw [hz3, HZ1.out]) HZ2.out hi) ⟨undef, rfl, fun _ => hst, ⟨below_setRow hb1 (Nat.le_refl _) _, _, hst, by simp [HZ1.out]⟩, hst⟩
      · exact wpOp_value (v := .bool false) rfl (by kernel_rfl) (by go_simp) ⟨_, rfl, fun h => h, UP.out.inv, rfl⟩
      · exact absurd HI.out (by simp)
    · intro vs w' hinv hR
      have r0 : vs 0 = .agg z.toArray := hR 0 (by decide)
      have r2 : vs 2 = .bool false := hR 2 (by decide)
      simp only [putFrom, Act.put, List.setIfInBounds_toArray, List.set_cons_zero, List.set_cons_succ, r0, r2]
      have HV := Lib.hid hinv
      have HR := Lib.hid hR
      clear hinv hR r0 r2
      have hrow := HR.out 1 (by decide)
      go_wp2
      refine bodyPost_ret (results_cell_tmp rfl _ _ w.heap.size z _ (.bool false) rfl (range_row hrow) hu80 rfl hi rfl) rfl ?_
      exact ⟨⟨z, by rw [EB2.out], HZ1.out, HZ2.out, (fun h => by rw [EB2.out] at h; cases h)⟩, HV.out.1⟩
  · have hlt : decide (r < 0) = false := decide_eq_false hneg
    have EB2 : Hid (anyBad l = true) := Lib.hid (by rw [EB.out]; exact decide_eq_true (by omega))
    obtain ⟨k, rfl⟩ : ∃ k : Nat, r = k := ⟨r.toNat, by omega⟩
    have hk : k < l.length := by omega
    have hk0 : (0 : Int) ≤ (k : Int) := by omega
    obtain ⟨⟨g, s⟩, hp⟩ : ∃ p, l[k]? = some p := ⟨_, List.getElem?_eq_getElem hk⟩
    have EO2 : Hid (badOf l = (g, s)) := Lib.hid (by rw [EO.out, Int.toNat_natCast, hp]; rfl)
    have okg : g.Ok := HK.out (g, s) (List.mem_of_getElem? hp)
    have hone2 : ∀ v ∈ mC g s, v.oneCell' = true := mC_one g s (HO.out (g, s) (List.mem_of_getElem? hp))
    have hlen2 := mC_len okg s
    obtain ⟨b, o, rfl, hr⟩ := HA.out (fun e => by rw [e] at hk; simp at hk)
    have hrk := hr k g s hp
    have HP := Lib.hid hp
    have H2 := Lib.hid hone2
    have HG : Hid (∃ p : Gr × Value, p = badOf l) := Lib.hid ⟨_, rfl⟩
    obtain ⟨ms, hms⟩ : ∃ ms, ms = mC g s := ⟨_, rfl⟩
    rw [← hms] at hrk H2 hlen2
    have HM := Lib.hid hms
    have him : (Try.prog.info? 80).map (·.size) = some ms.length := by rw [hlen2]; exact info80
    have HLM := Lib.hid hlen2
    clear hms hp okg hone2 hr hneg hlen2
    go_enter Try.func33, Try.ntmps33
    go_upto_region 4 with (go_at_call 53; refine (HI.out _ (HA.out.below ((Below.refl _ _).alloc (Nat.le_refl _) _))).mono ?_; rintro e w2 ⟨rfl, hb2⟩)
    have HR := Lib.hid (row_below (heap_alloc_new w (.cells z.toArray 80)) hb2)
    have B := Lib.hid (below_then ((Below.refl w.heap.size w).alloc (Nat.le_refl _) (.cells z.toArray 80)) hb2)
    have HX := Lib.hid hrk
    clear hb2 hrk
    let R : Nat → Value → World → Prop := fun i v w' => match i with
      | 0 => v = .slice (some ⟨b, o, none⟩) l.length c
      | 1 => v = .int .i64 k
      | 2 => v = .pointer (some ⟨b, o + k * 39, none⟩)
      | 3 => v = .agg ms.toArray
      | 4 => w'.heap[w.heap.size]? = some (.cells ms.toArray 80 (0, 0))
      | 5 => v = .bool true
      | _ => True
    refine wp_region_row (I := fun w' => Below w.heap.size w w' ∧ ∃ z2 : Array Value, w'.heap[w.heap.size]? = some (.cells z2 80 (0, 0)) ∧ z2.size = 39) (R := R) (T := fun w' w'' => w'.heap[w.heap.size]? = some (.cells ms.toArray 80 (0, 0)) → w''.heap[w.heap.size]? = some (.cells ms.toArray 80 (0, 0))) (by kernel_rfl) (by kernel_rfl) ?_ ?_ ?_ ?_
    · intro j v w1 w2 ht h
      rcases j with _ | _ | _ | _ | _ | _ | j <;> first | exact h | exact ht h
    · exact ⟨B.out, _, HR.out, by simp [HZ1.out]⟩
    · intro i hlt a w1 up
      have HI := Lib.hid hlt
      clear hlt
      have UP := Lib.hid up
      clear up
      rcases i with _ | _ | _ | _ | _ | _ | i
      · have h0 : a.tmps.getD 0 undef = .slice (some ⟨b, o, none⟩) l.length c := UP.out.before 0 (by kernel_rfl)
        exact wpOp_value (v := .slice (some ⟨b, o, none⟩) l.length c) rfl (by kernel_rfl) (by go_simp) ⟨_, rfl, fun h => h, UP.out.inv, rfl⟩
      · have h4 : a.tmps.getD 4 undef = .int .i64 k := UP.out.before 4 (by kernel_rfl)
        exact wpOp_value (v := .int .i64 k) rfl (by kernel_rfl) (by go_simp) ⟨_, rfl, fun h => h, UP.out.inv, rfl⟩
      · have h10 : a.tmps.getD 10 undef = .slice (some ⟨b, o, none⟩) l.length c := UP.out.dep 0 (by kernel_rfl)
        have h11 : a.tmps.getD 11 undef = .int .i64 k := UP.out.dep 1 (by kernel_rfl)
        exact wpOp_value (v := .pointer (some ⟨b, o + k * 39, none⟩)) rfl (by kernel_rfl) (by go_simp) ⟨_, rfl, fun h => h, UP.out.inv, rfl⟩
      · have h12 : a.tmps.getD 12 undef = .pointer (some ⟨b, o + k * 39, none⟩) := UP.out.dep 2 (by kernel_rfl)
        exact wpOp_load rfl rfl (by kernel_rfl) h12 (run_loadAt_mid w1 _ (o + k * 39) 80 ms _ (rangeB' (UP.out.inv).1 HX.out) hu80 rfl him) ⟨_, rfl, fun h => h, UP.out.inv, rfl⟩
      · have h2 : a.tmps.getD 2 undef = .pointer (some ⟨w.heap.size, 0, none⟩) := UP.out.before 2 (by kernel_rfl)
        have h13 : a.tmps.getD 13 undef = .agg ms.toArray := UP.out.dep 3 (by kernel_rfl)
        obtain ⟨hb1, z2, hz2, hz3⟩ := UP.out.inv
        have hst := setRow_heap w1 w.heap.size z2 ms.toArray 80 (0, 0) hz2
        exact wpOp_store rfl rfl (by kernel_rfl) h2 h13 (run_storeAt_row hz2 (by rw [hz3, HLM.out]) H2.out him) ⟨undef, rfl, fun _ => hst, ⟨below_setRow hb1 (Nat.le_refl _) _, _, hst, by simp [HLM.out]⟩, hst⟩
      · exact wpOp_value (v := .bool true) rfl (by kernel_rfl) (by go_simp) ⟨_, rfl, fun h => h, UP.out.inv, rfl⟩
      · exact absurd HI.out (by simp)
    · intro vs w' hinv hR
      have r0 : vs 0 = .slice (some ⟨b, o, none⟩) l.length c := hR 0 (by decide)
      have r1 : vs 1 = .int .i64 k := hR 1 (by decide)
      have r2 : vs 2 = .pointer (some ⟨b, o + k * 39, none⟩) := hR 2 (by decide)
      have r3 : vs 3 = .agg ms.toArray := hR 3 (by decide)
      have r5 : vs 5 = .bool true := hR 5 (by decide)
      simp only [putFrom, Act.put, List.setIfInBounds_toArray, List.set_cons_zero, List.set_cons_succ, r0, r1, r2, r3, r5]
      have HV := Lib.hid hinv
      have HR := Lib.hid hR
      clear hinv hR r0 r1 r2 r3 r5
      have hrow := HR.out 4 (by decide)
      go_wp2
      refine bodyPost_ret (results_cell_tmp rfl _ _ w.heap.size ms _ (.bool true) rfl (range_row hrow) hu80 rfl him rfl) rfl ?_
      exact ⟨⟨ms, by rw [EB2.out], HLM.out, H2.out, (fun _ => by rw [EO2.out]; exact HM.out)⟩, HV.out.1⟩
end Go.Proofs.Ytdinmdjdkhlgcaa
