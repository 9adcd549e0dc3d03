/- The closure of calls: closed. -/
import Derived.Test.YtdinmdjdkhlgcaaClos
import Derived.Test.YtdinmdjdkhlgcaaRead
namespace Go.Proofs.Ytdinmdjdkhlgcaa
open Go.RowKit Go.Proofs.YtdinmdjdkhlgcaaW.PrintWords Go.Proofs.Ytdinmdjdkhlgcaa.Sz
set_option linter.unusedVariables false
set_option linter.unusedSimpArgs false

abbrev nilS : Value := .slice none 0 0
/-- What closed comes to. -/
def ClosedPost (l : List S34) (w : World) (e : Ending) (w' : World) : Prop := Below w.heap.size w w' ∧
  ((60 < l.length ∧ e = .returned (.tuple #[nilS, .int .i64 2])) ∨ (l.length ≤ 60 ∧ l.all callOk = false ∧ e = .returned (.tuple #[nilS, .int .i64 4])) ∨
   (l.length ≤ 60 ∧ l.all callOk = true ∧ (((∃ ks : List Gr, ks.Nodup ∧ ks.length = 2001 ∧ ∀ g ∈ ks, Reach (l.map graphOf) g) ∧ e = .returned (.tuple #[nilS, .int .i64 2])) ∨
     ∃ (all : List (Gr × Value)) (A : Option Addr) (c : Nat), e = .returned (.tuple #[.slice A all.length c, .int .i64 0]) ∧ all.length ≤ c ∧ all.length ≤ 2000 ∧ Mades w' A all ∧ (∀ x ∈ all, x.1.Ok) ∧ (∀ x ∈ all, x.2.oneCell' = true) ∧
       (all.map (·.1)).Nodup ∧ (∀ g, g ∈ all.map (·.1) ↔ Reach (l.map graphOf) g) ∧ Ways w' w.heap.size (l.map graphOf) all)))
theorem graphOf_ok {x : S34} (h0 : x.f0.size ≤ maxLen) (h1 : x.f1.size ≤ maxLen) : (graphOf x).Ok := mkG_ok (arcV_bound _) h0 h1
def gCs (l : List S34) : List Value := l.flatMap fun x => gC (graphOf x)
theorem gCs_snoc {l : List S34} {k : Nat} (hk : k < l.length) : gCs (l.take k) ++ gC (graphOf (l.getD k z34)) = gCs (l.take (k + 1)) := by
  unfold gCs
  rw [List.take_succ_eq_append_getElem hk, List.flatMap_append, List.getD_eq_getElem?_getD, List.getElem?_eq_getElem hk]
  simp
theorem all_no {l : List S34} {k : Nat} (hk : k < l.length) (h : callOk (l.getD k z34) = false) : l.all callOk = false := by
  rw [List.all_eq_false]
  refine ⟨l[k], List.getElem_mem _, ?_⟩
  rw [List.getD_eq_getElem?_getD, List.getElem?_eq_getElem hk] at h
  simpa using h
theorem getD_mem {l : List S34} {k : Nat} (hk : k < l.length) : l.getD k z34 ∈ l := by
  rw [List.getD_eq_getElem?_getD, List.getElem?_eq_getElem hk]
  exact List.getElem_mem _
set_option maxHeartbeats 2000000 in
set_option maxRecDepth 100000 in
theorem closed_many (l : List S34) (A : Option Addr) (c : Nat) (w : World) (hl : 60 < l.length) (hm : l.length ≤ 9223372036854775807) : Calls Try.prog 32 #[.slice A l.length c] w (ClosedPost l w) := by
  have hb : decide ((60 : Int) < (l.length : Int)) = true := decide_eq_true (by omega)
  have HL := Lib.hid hl
  clear hl
  go_enter Try.func32, Try.ntmps32
  go_wp2
  go_ret2
  exact ⟨Below.refl _ _, .inl ⟨HL.out, rfl⟩⟩
set_option maxHeartbeats 16000000 in
set_option maxRecDepth 100000 in
theorem closed_calls (l : List S34) (A : Option Addr) (c : Nat) (w : World) (hx : Kd.C k34 w A l.length l) (hc : l.length ≤ c) (hs : ∀ x ∈ l, x.f0.size ≤ maxLen ∧ x.f1.size ≤ maxLen) (hl : l.length ≤ 60) : Calls Try.prog 32 #[.slice A l.length c] w (ClosedPost l w) := by
  have hu34 := Try.underlying34
  have hu78 := Try.underlying78
  have hu80 := Try.underlying80
  have hu111 := Try.underlying111
  have hb60 : decide ((60 : Int) < (l.length : Int)) = false := decide_eq_false (by omega)
  have HX := Lib.hid hx
  have HS := Lib.hid hs
  obtain ⟨z, hzz⟩ : ∃ z, z = (gC g0).toArray := ⟨_, rfl⟩
  have hz78 : ∀ w, (zeroValue 78).run Try.prog w = .ok (.agg z) w := fun w => by rw [hzz]; exact zero78 w
  have HZ1 : Hid (z.size = 38) := Lib.hid (by rw [hzz]; rfl)
  clear hx hs hzz
  go_enter Try.func32, Try.ntmps32
  go_wp2
  go_loopg [4, 23] l.length (fun n v4 v23 wr => ∃ k : Nat, v23 = .int .i64 k ∧ Hid (k ≤ l.length) ∧ Hid (n = l.length - k) ∧ Hid (Below w.heap.size w wr) ∧ Hid (wr.ownsRow w.heap.size 78 38 v4 k (gCs (l.take k))) ∧ Hid (∀ j, j < k → callOk (l.getD j z34) = true))
  case atStart => exact ⟨0, rfl, Lib.hid (by omega), Lib.hid rfl, Lib.hid (Below.refl _ _), Lib.hid (World.ownsRow_nil _ _ _ _), Lib.hid (by omega)⟩
  case round =>
    obtain ⟨k, rfl, HK, HN, B, OW, HA⟩ := hrel
    by_cases hk : k < l.length
    · have hkb : decide ((k : Int) < (l.length : Int)) = true := decide_eq_true (by omega)
      obtain ⟨ad, A2, c2, rfl, a0, a1, a2, hl2, hC2⟩ := at_T34 HX.out (k : Int) (by omega) (by omega)
      have EA : Hid (rd_T34 l (k : Int) = l.getD k z34) := Lib.hid (by rw [rd_T34, Int.toNat_natCast])
      rw [EA.out, Int.toNat_natCast] at a0 a1 a2
      rw [EA.out] at hl2 hC2
      have a0 := cellB B.out a0
      have a1 := cellB B.out a1
      have a2 := cellB B.out a2
      have hs2 := HS.out _ (getD_mem hk)
      have NO : Hid (callOk (l.getD k z34) = false → l.all callOk = false) := Lib.hid (all_no hk)
      have SN : Hid (gCs (l.take k) ++ gC (graphOf (l.getD k z34)) = gCs (l.take (k + 1))) := Lib.hid (gCs_snoc hk)
      have AK : Hid (callOk (l.getD k z34) = true → ∀ j, j < k + 1 → callOk (l.getD j z34) = true) := Lib.hid (fun h j hj => by
        by_cases e : j = k
        · rw [e]
          exact h
        · exact HA.out j (by omega))
      clear EA
      generalize l.getD k z34 = xx at a0 a1 a2 NO SN AK hs2 hl2 hC2
      have HRD := Lib.hid fun (w5 : World) (h : Below w.heap.size w w5) => read_calls xx A2 c2 w5 (Kd.C_below hC2 h) hl2 hs2.1 hs2.2
      have GOK : Hid (graphOf xx).Ok := Lib.hid (graphOf_ok hs2.1 hs2.2)
      obtain ⟨f0, f1, f2⟩ := xx
      simp only at a0 a1 a2 HRD hl2
      clear hC2 hs2
      go_upto_region 7 with fail
      have HB6 : Hid (Below w.heap.size w (wr.alloc (.cells #[.string f0, .string f1, .slice A2 f2.length c2] 34))) := Lib.hid (below_then B.out ((Below.refl _ _).alloc (Nat.le_refl _) _))
      have OW6 : Hid ((wr.alloc (.cells #[.string f0, .string f1, .slice A2 f2.length c2] 34)).ownsRow w.heap.size 78 38 u4 k (gCs (l.take k))) := Lib.hid (OW.out.alloc _)
      have hrow6 := heap_alloc_new wr (.cells #[.string f0, .string f1, .slice A2 f2.length c2] 34)
      obtain ⟨b6, hb6⟩ : ∃ b, b = wr.heap.size := ⟨_, rfl⟩
      rw [← hb6] at hrow6 ⊢
      clear hb6 a0 a1 a2
      generalize wr.alloc (.cells #[.string f0, .string f1, .slice A2 f2.length c2] 34) = w6 at *
      have c0 : w6.cell? ⟨b6, 0, none⟩ = some (.string f0) := cell_of_row _ _ 0 _ _ _ hrow6
      have c1 : w6.cell? ⟨b6, 1, none⟩ = some (.string f1) := cell_of_row _ _ 1 _ _ _ hrow6
      have c2' : w6.cell? ⟨b6, 2, none⟩ = some (.slice A2 f2.length c2) := cell_of_row _ _ 2 _ _ _ hrow6
      have HR6 := Lib.hid hrow6
      clear hrow6
      refine wp_region_list ?_
      dsimp only [List.toList_toArray]
      refine wpList_val (v := .agg #[.string f0, .string f1, .slice A2 f2.length c2]) (w' := w6) rfl (by go_simp) ?_
      try simp only [Act.put, List.setIfInBounds_toArray, List.set_cons_zero, List.set_cons_succ]
      try simp only [Act.put, List.setIfInBounds_toArray, List.set_cons_zero, List.set_cons_succ]
      refine wpList_call (f := 39) (args := #[.agg #[.string f0, .string f1, .slice A2 f2.length c2]]) (R := fun v w' => ∃ cs : List Value, v = .tuple #[.agg cs.toArray, .bool (callOk ⟨f0, f1, f2⟩)] ∧ cs.length = 38 ∧ (∀ v ∈ cs, v.oneCell' = true) ∧ (callOk ⟨f0, f1, f2⟩ = true → cs = gC (graphOf ⟨f0, f1, f2⟩)) ∧ Below w6.heap.size w6 w') rfl (by go_simp) ((HRD.out w6 HB6.out).mono ?_) ?_
      · rintro e w7 ⟨⟨cs, rfl, h1, h2, h3⟩, hb⟩
        exact ⟨_, rfl, cs, rfl, h1, h2, h3, hb⟩
      rintro v w7 ⟨cs, rfl, hcl, hco, hcs, hb7⟩
      have HCS := Lib.hid hcs
      have HB7 := Lib.hid (below_then HB6.out hb7)
      have OW7 := Lib.hid (ownsRow_below OW6.out hb7)
      have HCL := Lib.hid hcl
      have HCO := Lib.hid hco
      have HST : Hid ((Instr.storeAt 78 (.pointer (some ⟨w7.heap.size, 0, none⟩)) (.agg cs.toArray)).run Try.prog (w7.alloc (.cells z 78)) = .ok () (w7.alloc (.cells cs.toArray 78))) := Lib.hid (by
        have := run_storeAt_row (w := w7.alloc (.cells z 78)) (ty := 78) (heap_alloc_new w7 (.cells z 78)) (by rw [HZ1.out, hcl]) hco (by rw [hcl]; exact info78)
        rw [this, World.setRow_alloc_new])
      clear hcs hb7 hcl hco c0 c1 c2'
      try simp only [Act.put, List.setIfInBounds_toArray, List.set_cons_zero, List.set_cons_succ]
      refine wpList_val (v := .tuple #[.agg cs.toArray, .bool (callOk ⟨f0, f1, f2⟩)]) (w' := w7) rfl (by go_simp) ?_
      try simp only [Act.put, List.setIfInBounds_toArray, List.set_cons_zero, List.set_cons_succ]
      refine wpList_val (v := .agg cs.toArray) (w' := w7) rfl (by go_simp) ?_
      try simp only [Act.put, List.setIfInBounds_toArray, List.set_cons_zero, List.set_cons_succ]
      refine wpList_val (v := .bool (callOk ⟨f0, f1, f2⟩)) (w' := w7) rfl (by go_simp) ?_
      try simp only [Act.put, List.setIfInBounds_toArray, List.set_cons_zero, List.set_cons_succ]
      refine wpList_val (v := .pointer (some ⟨w7.heap.size, 0, none⟩)) (w' := (w7.alloc (.cells z 78))) rfl (by go_simp) ?_
      try simp only [Act.put, List.setIfInBounds_toArray, List.set_cons_zero, List.set_cons_succ]
      refine wpList_unit (w' := w7.alloc (.cells cs.toArray 78)) rfl (by exact run_u HST.out) ?_
      try simp only [Act.put, List.setIfInBounds_toArray, List.set_cons_zero, List.set_cons_succ]
      refine wpList_val (v := .bool (callOk ⟨f0, f1, f2⟩)) (w' := (w7.alloc (.cells cs.toArray 78))) rfl (by go_simp) ?_
      refine wpList_nil ?_
      simp only [Act.put, List.setIfInBounds_toArray, List.set_cons_zero, List.set_cons_succ]
      have HB8 : Hid (Below w.heap.size w (w7.alloc (.cells cs.toArray 78))) := Lib.hid (below_then HB7.out ((Below.refl _ _).alloc (Nat.le_refl _) _))
      have OW8 : Hid ((w7.alloc (.cells cs.toArray 78)).ownsRow w.heap.size 78 38 u4 k (gCs (l.take k))) := Lib.hid (OW7.out.alloc _)
      have HR8 := Lib.hid (heap_alloc_new w7 (.cells cs.toArray 78))
      clear HST OW7
      obtain ⟨b8, hb8⟩ : ∃ b, b = w7.heap.size := ⟨_, rfl⟩
      rw [← hb8] at HR8 ⊢
      clear hb8
      generalize w7.alloc (.cells cs.toArray 78) = w8 at *
      by_cases hok : callOk ⟨f0, f1, f2⟩ = true
      · have hokf := hok
        have EC : Hid (cs = gC (graphOf ⟨f0, f1, f2⟩)) := Lib.hid (HCS.out hok)
        simp only [hok] at *
        go_upto_region 10 with fail
        rw [EC.out] at HR8 HCL HCO ⊢
        have HRA := Lib.hid (range_row HR8.out)
        generalize hgs : gC (graphOf ⟨f0, f1, f2⟩) = gs at HR8 HCL HCO HRA SN ⊢
        refine wp_region_list ?_
        dsimp only [List.toList_toArray]
        refine wpList_val (v := u4) (w' := w8) rfl (by go_simp) ?_
        try simp only [Act.put, List.setIfInBounds_toArray, List.set_cons_zero, List.set_cons_succ]
        try simp only [Act.put, List.setIfInBounds_toArray, List.set_cons_zero, List.set_cons_succ]
        refine wpList_loadv rfl rfl rfl (run_loadAt_mid w8 b8 0 78 gs _ HRA.out hu78 rfl (by rw [HCL.out]; exact info78)) ?_
        try simp only [Act.put, List.setIfInBounds_toArray, List.set_cons_zero, List.set_cons_succ]
        try simp only [Act.put, List.setIfInBounds_toArray, List.set_cons_zero, List.set_cons_succ]
        refine wpList_val (v := .slice (some ⟨w8.heap.size, 0, none⟩) 1 1) (w' := w8.alloc (.cells gs.toArray 78)) rfl (exec_slice1 rfl rfl hu111 info78z (by omega) (by omega) rfl HCL.out) ?_
        try simp only [Act.put, List.setIfInBounds_toArray, List.set_cons_zero, List.set_cons_succ]
        try simp only [Act.put, List.setIfInBounds_toArray, List.set_cons_zero, List.set_cons_succ]
        obtain ⟨i0, hi, hz0, hz1, hz2⟩ := info_parts info78z
        obtain ⟨v', w11, hap, own11, hgr, hnil⟩ := run_append_own (P := Try.prog) (w8.alloc (.cells gs.toArray 78)) w.heap.size 111 111 78 i0 (gV g0) 38 72 hu111 hi hz0 hz1 hz2 (by rfl) (by omega) u4 k _ (OW8.out.alloc _)
          ⟨w8.heap.size, 0, none⟩ 1 1 gs (by rw [HCL.out]) (fun j u hj => by
            have := range_row (heap_alloc_new w8 (.cells gs.toArray 78)) j u hj
            rw [Addr.add_mid]
            exact this) HCO.out (by unfold maxLen; omega) (by omega) (by have := HB8.out.size; simp; omega)
        have B11 : Hid (Below w.heap.size w w11) := Lib.hid ((below_then HB8.out ((Below.refl _ _).alloc (Nat.le_refl _) _)).trans ⟨hgr.os, hgr.tape, hgr.output, hgr.size, fun i hi => hgr.block i (by have := HB8.out.size; simp; omega) (fun e => by
          have := (OW8.out.lt i e.symm).1
          omega)⟩)
        have O11 := Lib.hid own11
        have HAP := Lib.hid hap
        clear hgr hnil own11 hap hi hz0 hz1 hz2
        refine wpList_val (v := v') (w' := w11) rfl (exec_append rfl rfl rfl HAP.out) ?_
        try simp only [Act.put, List.setIfInBounds_toArray, List.set_cons_zero, List.set_cons_succ]
        refine wpList_val (v := v') (w' := w11) rfl (by go_simp) ?_
        refine wpList_nil ?_
        simp only [Act.put, List.setIfInBounds_toArray, List.set_cons_zero, List.set_cons_succ]
        go_wp2
        go_roundg (l.length - (k + 1))
        case measure => have := HN.out; omega
        case rel => exact ⟨k + 1, by go_num, Lib.hid (by omega), Lib.hid rfl, Lib.hid B11.out, Lib.hid (by rw [← SN.out]; exact O11.out), Lib.hid (AK.out trivial)⟩
      · have hokf : callOk ⟨f0, f1, f2⟩ = false := by simpa using hok
        have EN := Lib.hid (NO.out hokf)
        clear hok
        simp only [hokf] at *
        go_wp2
        go_ret2
        exact ⟨HB8.out, .inr (.inl ⟨by have := HK.out; assumption, EN.out, rfl⟩)⟩
    · have hkb : decide ((k : Int) < (l.length : Int)) = false := decide_eq_false (by omega)
      obtain rfl : k = l.length := by have := HK.out; omega
      have OKL : Hid (l.all callOk = true) := Lib.hid (by
        rw [List.all_eq_true]
        intro y hy
        obtain ⟨j, hj⟩ := List.getElem?_of_mem hy
        have := HA.out j (by have := (List.getElem?_eq_some_iff.1 hj).1; omega)
        rwa [List.getD_eq_getElem?_getD, hj] at this)
      obtain ⟨fs, hfs⟩ : ∃ fs, fs = l.map graphOf := ⟨_, rfl⟩
      have HFS := Lib.hid hfs
      have HFL : Hid (fs.length = l.length) := Lib.hid (by rw [hfs, List.length_map])
      have OF : Hid (wr.ownsRow w.heap.size 78 38 u4 l.length (fs.flatMap gC)) := Lib.hid (by
        have h := OW.out
        rw [List.take_length] at h
        rw [hfs, List.flatMap_map]
        exact h)
      have FOK : Hid (∀ g ∈ fs, g.Ok) := Lib.hid (fun g hg => by
        rw [hfs] at hg
        obtain ⟨x, hx, rfl⟩ := List.mem_map.1 hg
        exact graphOf_ok (HS.out x hx).1 (HS.out x hx).2)
      clear OW HA HK HN hfs
      obtain ⟨fa, fc, rfl, hfc, _⟩ := own_slice OF.out
      have hmm := @run_makeMap Try.prog
      have hmc : ∀ w, (Instr.makeChan 113 (.int .i64 (2000 + (l.length : Int) + 1))).run Try.prog w = .ok (.chan (some w.heap.size)) (w.alloc (.chan (2000 + l.length + 1) #[] false 0 0 false)) := fun w => by
        obtain ⟨i0, hi, hz0, hz1, hz2⟩ := info_parts info80z
        have := Go.Conc.run_makeChan (P := Try.prog) (w := w) Try.underlying113 hi .i64 (2000 + l.length + 1) (by omega) (by rw [hz2]; omega)
        simpa using this
      have CL0 := Lib.hid (Clo.start (cap := 2000 + l.length + 1) B.out (by rw [HFL.out]; exact OF.out))
      go_upto_region 16 with fail
      clear hmm hmc
      generalize (((((wr.alloc (.map #[] 0)).alloc (.cells #[.map (some wr.heap.size)] 112)).alloc (.cells #[.slice none 0 0] 72)).alloc (.chan (2000 + l.length + 1) #[] false 0 0 false)).alloc (.cells #[.chan (some (wr.heap.size + 1 + 1 + 1))] 113)) = wst at CL0 ⊢
      generalize wr.heap.size + 1 + 1 + 1 + 1 = r at CL0 ⊢
      generalize wr.heap.size + 1 + 1 + 1 = cb at CL0 ⊢
      generalize wr.heap.size + 1 + 1 = q at CL0 ⊢
      generalize wr.heap.size + 1 = p at CL0 ⊢
      generalize wr.heap.size = mb at CL0 ⊢
      clear OF B
      have CAP : Hid (∀ a : List (Gr × Value), a.length ≤ 2000 → ∀ d, (a.drop d).length < 2000 + l.length + 1) := Lib.hid (fun a ha d => by
        rw [List.length_drop]
        omega)
      generalize hcap : 2000 + l.length + 1 = cap at CL0 CAP ⊢
      clear hcap
      go_wp2
      go_loopg [48] l.length (fun n v48 wx => ∃ i : Nat, v48 = .int .i64 i ∧ Hid (i ≤ l.length) ∧ Hid (n = l.length - i) ∧ Hid (∃ all av s, Clo w wx fs (.slice fa l.length fc) p q r mb cb cap 0 0 all av s 0 ∧ ∀ j g, j < i → fs[j]? = some g → g ∈ all.map (·.1)))
      case atStart => exact ⟨0, rfl, Lib.hid (by omega), Lib.hid rfl, Lib.hid ⟨_, _, _, CL0.out, by omega⟩⟩
      case round =>
        clear CL0
        obtain ⟨wx, rfl⟩ : ∃ wx : World, wx = wr := ⟨_, rfl⟩
        obtain ⟨i, rfl, HI, HN, HC⟩ := hrel
        by_cases hi : i < l.length
        · have hib : decide ((i : Int) < (l.length : Int)) = true := decide_eq_true (by omega)
          obtain ⟨all, av, s, hclo, hall⟩ := HC.out
          obtain ⟨g, hg⟩ : ∃ g, fs[i]? = some g := ⟨_, List.getElem?_eq_getElem (by rw [HFL.out]; exact hi)⟩
          have okg : g.Ok := FOK.out g (List.mem_of_getElem? hg)
          have hown := hclo.own
          rw [HFL.out] at hown
          obtain ⟨gb, rfl, hrg⟩ := own_range hown HFL.out.symm (fun x hx => gC_len (FOK.out x hx)) hg
          have HRG := Lib.hid hrg
          have OKG := Lib.hid okg
          have HG := Lib.hid hg
          have HCLO := Lib.hid hclo
          have HALL := Lib.hid hall
          have n1 : (0 : Int) ≤ (i : Int) := by omega
          have n2 : (i : Int) < (l.length : Int) := by omega
          have n3 : i + 1 ≤ 60 := by omega
          have HLEN : Hid ((gC g).length = 38) := Lib.hid (gC_len okg)
          have HONE : Hid (∀ v ∈ gC g, v.oneCell' = true) := Lib.hid (gC_ones g)
          have hmade : ∀ (sv : Value) (w5 : World), sv.cells = #[sv] → (Instr.build 80 #[(0, .agg (gC g).toArray), (1, sv)]).run Try.prog w5 = .ok (mV g sv) w5 := fun sv w5 h => run_made okg h w5
          have HMADE := Lib.hid hmade
          clear HC hclo hall hown hrg okg hg hmade
          go_upto_region 18 with fail
          obtain ⟨gs, hgs⟩ : ∃ gs, gs = gC g := ⟨_, rfl⟩
          rw [← hgs] at HRG HLEN HONE HMADE
          have HGS := Lib.hid hgs
          clear hgs
          refine wp_region_list ?_
          dsimp only [List.toList_toArray]
          refine wpList_val (v := .int .i64 i) (w' := wx) rfl (by go_simp) ?_
          try simp only [Act.put, List.setIfInBounds_toArray, List.set_cons_zero, List.set_cons_succ]
          refine wpList_val (v := .pointer (some ⟨gb, i * 38, none⟩)) (w' := wx) rfl (by go_simp) ?_
          try simp only [Act.put, List.setIfInBounds_toArray, List.set_cons_zero, List.set_cons_succ]
          try simp only [Act.put, List.setIfInBounds_toArray, List.set_cons_zero, List.set_cons_succ]
          refine wpList_loadv rfl rfl rfl (run_loadAt_mid wx gb (i * 38) 78 gs _ HRG.out hu78 rfl (by rw [HLEN.out]; exact info78)) ?_
          try simp only [Act.put, List.setIfInBounds_toArray, List.set_cons_zero, List.set_cons_succ]
          refine wpList_val (v := .pointer (some ⟨wx.heap.size, 0, none⟩)) (w' := (wx.alloc (.cells z 78))) rfl (by go_simp) ?_
          try simp only [Act.put, List.setIfInBounds_toArray, List.set_cons_zero, List.set_cons_succ]
          refine wpList_val (v := .int .i64 i) (w' := (wx.alloc (.cells z 78))) rfl (by go_simp) ?_
          try simp only [Act.put, List.setIfInBounds_toArray, List.set_cons_zero, List.set_cons_succ]
          refine wpList_unit (w' := wx.alloc (.cells gs.toArray 78)) rfl (by
            have hst := run_storeAt_row (w := wx.alloc (.cells z 78)) (ty := 78) (heap_alloc_new wx (.cells z 78)) (by rw [HZ1.out, HLEN.out]) HONE.out (by rw [HLEN.out]; exact info78)
            rw [World.setRow_alloc_new] at hst
            exact run_u hst) ?_
          refine wpList_nil ?_
          simp only [Act.put, List.setIfInBounds_toArray, List.set_cons_zero, List.set_cons_succ]
          have C18 := Lib.hid (HCLO.out.below (show Below wx.heap.size wx (wx.alloc (.cells gs.toArray 78)) from (Below.refl _ _).alloc (Nat.le_refl _) _))
          have R18 := Lib.hid (range_new wx gs 78)
          obtain ⟨b14, hb14⟩ : ∃ b, b = wx.heap.size := ⟨_, rfl⟩
          rw [← hb14] at R18 ⊢
          clear hb14 HCLO
          generalize wx.alloc (.cells gs.toArray 78) = w18 at *
          go_upto_region 19 with fail
          have C19 := Lib.hid (C18.out.below (show Below w18.heap.size w18 (w18.alloc (.cells #[.int .i64 (i : Int)] 3)) from (Below.refl _ _).alloc (Nat.le_refl _) _))
          have WAY : Hid (WayAt (w18.alloc (.cells #[.int .i64 (i : Int)] 3)) w.heap.size (.slice (some ⟨w18.heap.size, 0, none⟩) 1 1) [i]) := Lib.hid (way_new C18.out.b.size)
          by_cases hin : g ∈ all.map (·.1)
          · have HCALL := Lib.hid (add_seen C19.out.cs OKG.out (.slice (some ⟨w18.heap.size, 0, none⟩) 1 1) hin)
            have HIN := Lib.hid hin
            clear hin
            refine wp_region_list ?_
            dsimp only [List.toList_toArray]
            refine wpList_val (v := .func (.func 51) #[] #[.pointer (some ⟨p, 0, none⟩), .pointer (some ⟨q, 0, none⟩), .pointer (some ⟨r, 0, none⟩)]) (w' := w18) rfl (by go_simp) ?_
            try simp only [Act.put, List.setIfInBounds_toArray, List.set_cons_zero, List.set_cons_succ]
            try simp only [Act.put, List.setIfInBounds_toArray, List.set_cons_zero, List.set_cons_succ]
            refine wpList_loadv rfl rfl rfl (run_loadAt_mid w18 b14 0 78 gs _ R18.out hu78 rfl (by rw [HLEN.out]; exact info78)) ?_
            try simp only [Act.put, List.setIfInBounds_toArray, List.set_cons_zero, List.set_cons_succ]
            refine wpList_val (v := .int .i64 i) (w' := w18) rfl (by go_simp) ?_
            try simp only [Act.put, List.setIfInBounds_toArray, List.set_cons_zero, List.set_cons_succ]
            try simp only [Act.put, List.setIfInBounds_toArray, List.set_cons_zero, List.set_cons_succ]
            refine wpList_val (v := .slice (some ⟨w18.heap.size, 0, none⟩) 1 1) (w' := (w18.alloc (.cells #[.int .i64 (i : Int)] 3))) rfl (exec_slice1 rfl rfl Try.underlying36 info3z (by omega) (by omega) (v := .int .i64 (i : Int)) (cs := [.int .i64 (i : Int)]) rfl rfl) ?_
            try simp only [Act.put, List.setIfInBounds_toArray, List.set_cons_zero, List.set_cons_succ]
            try simp only [Act.put, List.setIfInBounds_toArray, List.set_cons_zero, List.set_cons_succ]
            refine wpList_val (v := mV g (.slice (some ⟨w18.heap.size, 0, none⟩) 1 1)) (w' := (w18.alloc (.cells #[.int .i64 (i : Int)] 3))) rfl (exec_build2 rfl rfl rfl (HMADE.out _ _ rfl)) ?_
            try simp only [Act.put, List.setIfInBounds_toArray, List.set_cons_zero, List.set_cons_succ]
            try simp only [Act.put, List.setIfInBounds_toArray, List.set_cons_zero, List.set_cons_succ]
            refine wpList_call (f := 51) (args := addArgs g (.slice (some ⟨w18.heap.size, 0, none⟩) 1 1) p q r) (w' := (w18.alloc (.cells #[.int .i64 (i : Int)] 3))) (R := fun v w' => v = .bool true ∧ Below (w18.alloc (.cells #[.int .i64 (i : Int)] 3)).heap.size (w18.alloc (.cells #[.int .i64 (i : Int)] 3)) w') rfl (by simp only [addArgs]; go_simp) ((HCALL.out).mono ?_) ?_
            · rintro e w9 ⟨rfl, hb⟩
              exact ⟨_, rfl, rfl, hb⟩
            rintro v w20 ⟨rfl, hb20⟩
            have HB20 := Lib.hid hb20
            clear hb20
            try simp only [Act.put, List.setIfInBounds_toArray, List.set_cons_zero, List.set_cons_succ]
            refine wpList_val (v := .bool false) (w' := w20) rfl (by go_simp) ?_
            refine wpList_nil ?_
            simp only [Act.put, List.setIfInBounds_toArray, List.set_cons_zero, List.set_cons_succ]
            go_wp2
            go_roundg (l.length - (i + 1))
            case measure => have := HN.out; omega
            case rel => exact ⟨i + 1, by go_num, Lib.hid (by omega), Lib.hid rfl, Lib.hid ⟨all, av, s, C19.out.below HB20.out, fun j g' hj hg' => by
              by_cases e : j = i
              · subst e
                rw [HG.out] at hg'
                rw [← Option.some.inj hg']
                exact HIN.out
              · exact HALL.out j g' (by omega) hg'⟩⟩
          · by_cases hlt : all.length < 2000
            · have HCALL := Lib.hid (add_new C19.out.cs OKG.out (.slice (some ⟨w18.heap.size, 0, none⟩) 1 1) rfl hin hlt (CAP.out all (by omega) 0))
              have HIN := Lib.hid hin
              have HLT := Lib.hid hlt
              clear hin hlt
              refine wp_region_list ?_
              dsimp only [List.toList_toArray]
              refine wpList_val (v := .func (.func 51) #[] #[.pointer (some ⟨p, 0, none⟩), .pointer (some ⟨q, 0, none⟩), .pointer (some ⟨r, 0, none⟩)]) (w' := w18) rfl (by go_simp) ?_
              try simp only [Act.put, List.setIfInBounds_toArray, List.set_cons_zero, List.set_cons_succ]
              try simp only [Act.put, List.setIfInBounds_toArray, List.set_cons_zero, List.set_cons_succ]
              refine wpList_loadv rfl rfl rfl (run_loadAt_mid w18 b14 0 78 gs _ R18.out hu78 rfl (by rw [HLEN.out]; exact info78)) ?_
              try simp only [Act.put, List.setIfInBounds_toArray, List.set_cons_zero, List.set_cons_succ]
              refine wpList_val (v := .int .i64 i) (w' := w18) rfl (by go_simp) ?_
              try simp only [Act.put, List.setIfInBounds_toArray, List.set_cons_zero, List.set_cons_succ]
              try simp only [Act.put, List.setIfInBounds_toArray, List.set_cons_zero, List.set_cons_succ]
              refine wpList_val (v := .slice (some ⟨w18.heap.size, 0, none⟩) 1 1) (w' := (w18.alloc (.cells #[.int .i64 (i : Int)] 3))) rfl (exec_slice1 rfl rfl Try.underlying36 info3z (by omega) (by omega) (v := .int .i64 (i : Int)) (cs := [.int .i64 (i : Int)]) rfl rfl) ?_
              try simp only [Act.put, List.setIfInBounds_toArray, List.set_cons_zero, List.set_cons_succ]
              try simp only [Act.put, List.setIfInBounds_toArray, List.set_cons_zero, List.set_cons_succ]
              refine wpList_val (v := mV g (.slice (some ⟨w18.heap.size, 0, none⟩) 1 1)) (w' := (w18.alloc (.cells #[.int .i64 (i : Int)] 3))) rfl (exec_build2 rfl rfl rfl (HMADE.out _ _ rfl)) ?_
              try simp only [Act.put, List.setIfInBounds_toArray, List.set_cons_zero, List.set_cons_succ]
              try simp only [Act.put, List.setIfInBounds_toArray, List.set_cons_zero, List.set_cons_succ]
              refine wpList_call (f := 51) (args := addArgs g (.slice (some ⟨w18.heap.size, 0, none⟩) 1 1) p q r) (w' := (w18.alloc (.cells #[.int .i64 (i : Int)] 3))) (R := fun v w' => v = .bool true ∧ (∃ av', CS w.heap.size w' p q r mb cb cap (all ++ [(g, .slice (some ⟨w18.heap.size, 0, none⟩) 1 1)]) (all.drop 0 ++ [(g, .slice (some ⟨w18.heap.size, 0, none⟩) 1 1)]) av' (s + 1) 0 ∧ Added (w18.alloc (.cells #[.int .i64 (i : Int)] 3)) w' q mb cb av av')) rfl (by simp only [addArgs]; go_simp) ((HCALL.out).mono ?_) ?_
              · rintro e w9 ⟨rfl, hb⟩
                exact ⟨_, rfl, rfl, hb⟩
              rintro v w20 ⟨rfl, hb20⟩
              have HB20 := Lib.hid hb20
              clear hb20
              try simp only [Act.put, List.setIfInBounds_toArray, List.set_cons_zero, List.set_cons_succ]
              refine wpList_val (v := .bool false) (w' := w20) rfl (by go_simp) ?_
              refine wpList_nil ?_
              simp only [Act.put, List.setIfInBounds_toArray, List.set_cons_zero, List.set_cons_succ]
              obtain ⟨av', hcs', had'⟩ := HB20.out
              have HNEW := Lib.hid (C19.out.new hcs' had' HIN.out (Reach.one (List.mem_of_getElem? HG.out)) HLT.out (comp_one HG.out) (by simp) (fun j hj => by
                rw [List.mem_singleton.1 hj]
                exact (List.getElem?_eq_some_iff.1 HG.out).1) WAY.out)
              clear hcs' had'
              go_wp2
              go_roundg (l.length - (i + 1))
              case measure => have := HN.out; omega
              case rel => exact ⟨i + 1, by go_num, Lib.hid (by omega), Lib.hid rfl, Lib.hid ⟨_, av', s + 1, HNEW.out, fun j g' hj hg' => by
                rw [List.map_append]
                by_cases e : j = i
                · subst e
                  rw [HG.out] at hg'
                  rw [← Option.some.inj hg']
                  simp
                · exact List.mem_append_left _ (HALL.out j g' (by omega) hg')⟩⟩
            · have hfull : all.length = 2000 := by have := C19.out.few; omega
              have HCALL := Lib.hid (add_full C19.out.cs OKG.out (.slice (some ⟨w18.heap.size, 0, none⟩) 1 1) rfl hin (by omega) hfull)
              have HIN := Lib.hid hin
              have HFULL := Lib.hid hfull
              clear hin hlt hfull
              refine wp_region_list ?_
              dsimp only [List.toList_toArray]
              refine wpList_val (v := .func (.func 51) #[] #[.pointer (some ⟨p, 0, none⟩), .pointer (some ⟨q, 0, none⟩), .pointer (some ⟨r, 0, none⟩)]) (w' := w18) rfl (by go_simp) ?_
              try simp only [Act.put, List.setIfInBounds_toArray, List.set_cons_zero, List.set_cons_succ]
              try simp only [Act.put, List.setIfInBounds_toArray, List.set_cons_zero, List.set_cons_succ]
              refine wpList_loadv rfl rfl rfl (run_loadAt_mid w18 b14 0 78 gs _ R18.out hu78 rfl (by rw [HLEN.out]; exact info78)) ?_
              try simp only [Act.put, List.setIfInBounds_toArray, List.set_cons_zero, List.set_cons_succ]
              refine wpList_val (v := .int .i64 i) (w' := w18) rfl (by go_simp) ?_
              try simp only [Act.put, List.setIfInBounds_toArray, List.set_cons_zero, List.set_cons_succ]
              try simp only [Act.put, List.setIfInBounds_toArray, List.set_cons_zero, List.set_cons_succ]
              refine wpList_val (v := .slice (some ⟨w18.heap.size, 0, none⟩) 1 1) (w' := (w18.alloc (.cells #[.int .i64 (i : Int)] 3))) rfl (exec_slice1 rfl rfl Try.underlying36 info3z (by omega) (by omega) (v := .int .i64 (i : Int)) (cs := [.int .i64 (i : Int)]) rfl rfl) ?_
              try simp only [Act.put, List.setIfInBounds_toArray, List.set_cons_zero, List.set_cons_succ]
              try simp only [Act.put, List.setIfInBounds_toArray, List.set_cons_zero, List.set_cons_succ]
              refine wpList_val (v := mV g (.slice (some ⟨w18.heap.size, 0, none⟩) 1 1)) (w' := (w18.alloc (.cells #[.int .i64 (i : Int)] 3))) rfl (exec_build2 rfl rfl rfl (HMADE.out _ _ rfl)) ?_
              try simp only [Act.put, List.setIfInBounds_toArray, List.set_cons_zero, List.set_cons_succ]
              try simp only [Act.put, List.setIfInBounds_toArray, List.set_cons_zero, List.set_cons_succ]
              refine wpList_call (f := 51) (args := addArgs g (.slice (some ⟨w18.heap.size, 0, none⟩) 1 1) p q r) (w' := (w18.alloc (.cells #[.int .i64 (i : Int)] 3))) (R := fun v w' => v = .bool false ∧ (∃ av', Added (w18.alloc (.cells #[.int .i64 (i : Int)] 3)) w' q mb cb av av')) rfl (by simp only [addArgs]; go_simp) ((HCALL.out).mono ?_) ?_
              · rintro e w9 ⟨rfl, hb⟩
                exact ⟨_, rfl, rfl, hb⟩
              rintro v w20 ⟨rfl, hb20⟩
              have HB20 := Lib.hid hb20
              clear hb20
              try simp only [Act.put, List.setIfInBounds_toArray, List.set_cons_zero, List.set_cons_succ]
              refine wpList_val (v := .bool true) (w' := w20) rfl (by go_simp) ?_
              refine wpList_nil ?_
              simp only [Act.put, List.setIfInBounds_toArray, List.set_cons_zero, List.set_cons_succ]
              obtain ⟨avf, hadf⟩ := HB20.out
              have HBF : Hid (Below w.heap.size w w20) := Lib.hid (hadf.below C19.out.cs C19.out.b)
              clear hadf
              go_wp2
              go_ret2
              have hks := C19.out.work.snoc HIN.out (Reach.one (List.mem_of_getElem? HG.out)) (by omega)
              exact ⟨HBF.out, .inr (.inr ⟨by assumption, OKL.out, .inl ⟨⟨all.map (·.1) ++ [g], hks.nd, by simp [HFULL.out], by have := hks.reach; rwa [HFS.out] at this⟩, rfl⟩⟩)⟩
        · have hib : decide ((i : Int) < (l.length : Int)) = false := decide_eq_false (by omega)
          obtain ⟨all, av, s, hclo, hall⟩ := HC.out
          have HALL : Hid (∀ g ∈ fs, g ∈ all.map (·.1)) := Lib.hid (fun g hg => by
            obtain ⟨j, hj⟩ := List.getElem?_of_mem hg
            exact hall j g (by have := (List.getElem?_eq_some_iff.1 hj).1; rw [HFL.out] at this; omega) hj)
          have HCLO := Lib.hid hclo
          clear hall hclo HC HI HN
          go_wp2
          go_loopg [61] 2001 (fun n v61 wx => Hid (∃ d all av s rr, Clo w wx fs (.slice fa l.length fc) p q r mb cb cap d d all av s rr ∧ n = 2001 - d ∧ ∀ g ∈ fs, g ∈ all.map (·.1)))
          case atStart => exact Lib.hid ⟨0, _, _, _, _, HCLO.out, rfl, HALL.out⟩
          case round =>
            clear HCLO HALL hib
            obtain ⟨wx, rfl⟩ : ∃ wx : World, wx = wr := ⟨_, rfl⟩
            have H3 := hrel
            clear hrel
            obtain ⟨d, all, av, s, rr, hclo, hn, hfs⟩ := H3.out
            have cr : wx.cell? ⟨r, 0, none⟩ = some (.chan (some cb)) := cell_of_row _ _ 0 _ _ _ hclo.cs.hr
            have HCL := Lib.hid hclo
            have HNN := Lib.hid hn
            have HFF := Lib.hid hfs
            clear H3 hclo hn hfs
            go_upto_region 23 with fail
            clear cr
            refine wp_region_sem ?_
            refine (show wpSem Try.prog _ _ [0, 1, 2] _ _ from ?_)
            by_cases hd : d < all.length
            · obtain ⟨⟨g, sv⟩, hgd⟩ : ∃ x, all[d]? = some x := ⟨_, List.getElem?_eq_getElem hd⟩
              obtain ⟨t1, t2, hclo2, hkeep⟩ := HCL.out.take hgd
              obtain ⟨pa, hcomp, hplen, hpi, hway0⟩ := HCL.out.ways d g sv hgd
              have okg : g.Ok := HCL.out.cs.ok (g, sv) (List.mem_of_getElem? hgd)
              have HGR : Hid (Reach fs g) := Lib.hid (HCL.out.work.reach g (List.mem_map.2 ⟨(g, sv), List.mem_of_getElem? hgd, rfl⟩))
              have hway : WayAt (wx.setChan cb cap (((all.drop d).map fun x => mV x.1 x.2).toArray.extract 1 ((all.drop d).map fun x => mV x.1 x.2).toArray.size) false s (rr + 1) false) w.heap.size sv pa := hway0.kept fun b x hx => by
                rw [hkeep b (ne_of_heap hx HCL.out.cs.hc (by simp))]
                exact hx
              have hq := HCL.out.cs.hc
              refine sem_recv (c := cb) (cap := cap) (buf := ((all.drop d).map fun x => mV x.1 x.2).toArray) (s := s) (r := rr) (tm := false) (closed := false) (z := .agg m0.toArray) (w' := wx) rfl rfl (exec_select rfl rfl) hq t2 ?_
              rw [t1]
              generalize wx.setChan cb cap (((all.drop d).map fun x => mV x.1 x.2).toArray.extract 1 ((all.drop d).map fun x => mV x.1 x.2).toArray.size) false s (rr + 1) false = wc at hclo2 hkeep hway ⊢
              have C2 := Lib.hid hclo2
              have HGD := Lib.hid hgd
              have HCOMP := Lib.hid hcomp
              have HPL := Lib.hid hplen
              have HPI := Lib.hid hpi
              have HWAY := Lib.hid hway
              have OKG := Lib.hid okg
              have HFEW := Lib.hid HCL.out.few
              have HD := Lib.hid hd
              clear hclo2 hgd hcomp hplen hpi hway okg hkeep t1 t2 hq hway0 HCL hd
              refine sem_value (v := .int .i64 0) (w' := wc) rfl rfl (by go_simp) ?_
              refine sem_value (v := .bool true) (w' := wc) rfl rfl (by go_simp) ?_
              refine sem_of_ops ?_
              simp only [List.getElem_toArray, List.getElem_cons_zero, List.getElem_cons_succ, Act.put, List.setIfInBounds_toArray, List.set_cons_zero, List.set_cons_succ]
              refine (show Exit.then _ _ Exit.normal _ _ from ?_)
              obtain ⟨bs, cS, cur, rfl, hpc, hcm, _⟩ := HWAY.out.form
              obtain ⟨z8, hz8⟩ : ∃ z8, z8 = m0.toArray := ⟨_, rfl⟩
              have hz80 : ∀ w, (zeroValue 80).run Try.prog w = .ok (.agg z8) w := fun w => by rw [hz8]; exact zero80 w
              have HZ8 : Hid (z8.size = 39) := Lib.hid (by rw [hz8]; rfl)
              obtain ⟨ms, hms⟩ : ∃ ms, ms = mC g (.slice (some ⟨bs, 0, none⟩) pa.length cS) := ⟨_, rfl⟩
              have HMS := Lib.hid hms
              have HML : Hid (ms.length = 39) := Lib.hid (by rw [hms]; exact mC_len OKG.out _)
              have HMO : Hid (∀ v ∈ ms, v.oneCell' = true) := Lib.hid (by rw [hms]; exact mC_one _ _ rfl)
              simp only [mV, ← hms]
              have HPC := Lib.hid hpc
              have HCM := Lib.hid hcm
              clear hms hz8 hpc hcm
              go_upto_region 25 with fail
              refine wp_region_list ?_
              dsimp only [List.toList_toArray]
              refine wpList_val (v := .agg ms.toArray) (w' := wc) rfl (by go_simp) ?_
              try simp only [Act.put, List.setIfInBounds_toArray, List.set_cons_zero, List.set_cons_succ]
              refine wpList_val (v := .pointer (some ⟨wc.heap.size, 0, none⟩)) (w' := (wc.alloc (.cells z8 80))) rfl (by go_simp) ?_
              try simp only [Act.put, List.setIfInBounds_toArray, List.set_cons_zero, List.set_cons_succ]
              refine wpList_unit (w' := wc.alloc (.cells ms.toArray 80)) rfl (by
                have hst := run_storeAt_row (w := wc.alloc (.cells z8 80)) (ty := 80) (heap_alloc_new wc (.cells z8 80)) (by rw [HZ8.out, HML.out]) HMO.out (by rw [HML.out]; exact info80)
                rw [World.setRow_alloc_new] at hst
                exact run_u hst) ?_
              refine wpList_nil ?_
              simp only [Act.put, List.setIfInBounds_toArray, List.set_cons_zero, List.set_cons_succ]
              have C3 := Lib.hid (C2.out.below (show Below wc.heap.size wc (wc.alloc (.cells ms.toArray 80)) from (Below.refl _ _).alloc (Nat.le_refl _) _))
              have W3 := Lib.hid (HWAY.out.below (show Below wc.heap.size wc (wc.alloc (.cells ms.toArray 80)) from (Below.refl _ _).alloc (Nat.le_refl _) _))
              have R15 := Lib.hid (heap_alloc_new wc (.cells ms.toArray 80))
              obtain ⟨b15, hb15⟩ : ∃ b, b = wc.heap.size := ⟨_, rfl⟩
              have NE15 : Hid (some b15 ≠ av.ownBlock) := Lib.hid (fun e => by
                have := (C2.out.cs.own.lt b15 e.symm).2
                omega)
              rw [← hb15] at R15 ⊢
              clear hb15 C2 HWAY hz80
              generalize wc.alloc (.cells ms.toArray 80) = w25 at *
              go_wp2
              obtain ⟨gk3, rfl⟩ : ∃ go : Nat, go = gk := ⟨_, rfl⟩
              go_loopg [69] l.length (fun n v69 wx => ∃ i : Nat, v69 = .int .i64 i ∧ Hid (i ≤ l.length) ∧ Hid (n = l.length - i) ∧ Hid (∃ all' av' s', Clo w wx fs (.slice fa l.length fc) p q r mb cb cap d (d + 1) all' av' s' (rr + 1) ∧ all'[d]? = some (g, .slice (some ⟨bs, 0, none⟩) pa.length cS) ∧ (∀ x ∈ fs, x ∈ all'.map (·.1)) ∧ (∀ (j : Nat) x, j < i → fs[j]? = some x → g.dst = x.src → g.then x ∈ all'.map (·.1)) ∧
                wx.heap[b15]? = some (.cells ms.toArray 80 (0, 0)) ∧ some b15 ≠ av'.ownBlock ∧ WayAt wx w.heap.size (.slice (some ⟨bs, 0, none⟩) pa.length cS) pa))
              case atStart => exact ⟨0, rfl, Lib.hid (by omega), Lib.hid rfl, Lib.hid ⟨_, _, _, C3.out, HGD.out, HFF.out, by omega, R15.out, NE15.out, W3.out⟩⟩
              case round =>
                clear C3 R15 NE15 W3 HGD HFF
                obtain ⟨wy, rfl⟩ : ∃ wy : World, wy = wr := ⟨_, rfl⟩
                obtain ⟨i, rfl, HI, HN, HC⟩ := hrel
                obtain ⟨all2, av2, s2, hclo, hgd, hff, hdn, hr15, hne15, hway⟩ := HC.out
                by_cases hi : i < l.length
                · have hib : decide ((i : Int) < (l.length : Int)) = true := decide_eq_true (by omega)
                  obtain ⟨h, hh⟩ : ∃ h, fs[i]? = some h := ⟨_, List.getElem?_eq_getElem (by rw [HFL.out]; exact hi)⟩
                  have okh : h.Ok := FOK.out h (List.mem_of_getElem? hh)
                  have hown := hclo.own
                  rw [HFL.out] at hown
                  obtain ⟨gb, rfl, hrg⟩ := own_range hown HFL.out.symm (fun x hx => gC_len (FOK.out x hx)) hh
                  have HRG := Lib.hid hrg
                  have OKH := Lib.hid okh
                  have HH := Lib.hid hh
                  have HCLO := Lib.hid hclo
                  have HGD := Lib.hid hgd
                  have HFF := Lib.hid hff
                  have HDN := Lib.hid hdn
                  have HR15 := Lib.hid hr15
                  have HNE := Lib.hid hne15
                  have HWY := Lib.hid hway
                  have n1 : (0 : Int) ≤ (i : Int) := by omega
                  have n2 : (i : Int) < (l.length : Int) := by omega
                  have n3 : i + 1 ≤ 60 := by omega
                  have HLH : Hid ((gC h).length = 38) := Lib.hid (gC_len okh)
                  have HOH : Hid (∀ v ∈ gC h, v.oneCell' = true) := Lib.hid (gC_ones h)
                  clear HC hclo hgd hff hdn hr15 hne15 hway hown hrg okh hh
                  go_upto_region 28 with fail
                  obtain ⟨hs, hhs⟩ : ∃ hs, hs = gC h := ⟨_, rfl⟩
                  rw [← hhs] at HRG HLH HOH
                  have HHS := Lib.hid hhs
                  clear hhs
                  refine wp_region_list ?_
                  dsimp only [List.toList_toArray]
                  refine wpList_val (v := .int .i64 i) (w' := wy) rfl (by go_simp) ?_
                  try simp only [Act.put, List.setIfInBounds_toArray, List.set_cons_zero, List.set_cons_succ]
                  refine wpList_val (v := .pointer (some ⟨gb, i * 38, none⟩)) (w' := wy) rfl (by go_simp) ?_
                  try simp only [Act.put, List.setIfInBounds_toArray, List.set_cons_zero, List.set_cons_succ]
                  try simp only [Act.put, List.setIfInBounds_toArray, List.set_cons_zero, List.set_cons_succ]
                  refine wpList_loadv rfl rfl rfl (run_loadAt_mid wy gb (i * 38) 78 hs _ HRG.out hu78 rfl (by rw [HLH.out]; exact info78)) ?_
                  try simp only [Act.put, List.setIfInBounds_toArray, List.set_cons_zero, List.set_cons_succ]
                  refine wpList_val (v := .pointer (some ⟨wy.heap.size, 0, none⟩)) (w' := (wy.alloc (.cells z 78))) rfl (by go_simp) ?_
                  try simp only [Act.put, List.setIfInBounds_toArray, List.set_cons_zero, List.set_cons_succ]
                  refine wpList_val (v := .int .i64 i) (w' := (wy.alloc (.cells z 78))) rfl (by go_simp) ?_
                  try simp only [Act.put, List.setIfInBounds_toArray, List.set_cons_zero, List.set_cons_succ]
                  refine wpList_unit (w' := wy.alloc (.cells hs.toArray 78)) rfl (by
                    have hst := run_storeAt_row (w := wy.alloc (.cells z 78)) (ty := 78) (heap_alloc_new wy (.cells z 78)) (by rw [HZ1.out, HLH.out]) HOH.out (by rw [HLH.out]; exact info78)
                    rw [World.setRow_alloc_new] at hst
                    exact run_u hst) ?_
                  refine wpList_nil ?_
                  simp only [Act.put, List.setIfInBounds_toArray, List.set_cons_zero, List.set_cons_succ]
                  have hbw : Below wy.heap.size wy (wy.alloc (.cells hs.toArray 78)) := (Below.refl _ _).alloc (Nat.le_refl _) _
                  have C28 := Lib.hid (HCLO.out.below hbw)
                  have BOX : Hid (Box29 w.heap.size b15 wy.heap.size g h (.slice (some ⟨bs, 0, none⟩) pa.length cS) pa (wy.alloc (.cells hs.toArray 78))) := Lib.hid (by
                    refine ⟨row_below (by have := HR15.out; rw [HMS.out] at this; exact this) hbw, ?_, HWY.out.below hbw⟩
                    rw [← HHS.out]
                    exact heap_alloc_new wy _)
                  obtain ⟨b17, hb17⟩ : ∃ b, b = wy.heap.size := ⟨_, rfl⟩
                  rw [← hb17] at BOX ⊢
                  clear hb17 HCLO HR15 HWY hbw HRG
                  generalize wy.alloc (.cells hs.toArray 78) = w28 at *
                  go_upto_region 29 with fail
                  by_cases hdst : g.dst = h.src
                  · by_cases hin : g.then h ∈ all2.map (·.1)
                    · have HIN := Lib.hid hin
                      clear hin
                      have hbd : Below w28.heap.size w28 w28.drew := (Below.refl _ _).drew
                      have CD := Lib.hid (C28.out.below hbd)
                      have BD := Lib.hid (BOX.out.below hbd)
                      obtain ⟨wd, hwd⟩ : ∃ wd, wd = w28.drew := ⟨_, rfl⟩
                      rw [← hwd] at CD BD
                      have HWD := Lib.hid hwd
                      clear hbd hwd C28 BOX
                      have hne2 : (g.dst.toList == h.src.toList) = true := (Lib.bytes_beq_iff _ _).2 hdst
                      have HDST := Lib.hid hdst
                      clear hdst
                      have OKT : Hid (g.then h).Ok := Lib.hid (then_ok OKG.out OKH.out)
                      have HPM : Hid (pa.length ≤ 100000 ∧ 0 < pa.length) := Lib.hid ⟨by have := HPL.out; have := HD.out; have := HFEW.out; omega, List.length_pos_iff.2 BD.out.way.2⟩
                      obtain ⟨FIN, hFIN⟩ : ∃ FIN : World → Prop, FIN = (Fin29 w fs (.slice (some ⟨gb, 0, none⟩) l.length fc) p q r mb cb cap d b15 b17 all2 av2 (rr + 1) g h (.slice (some ⟨bs, 0, none⟩) pa.length cS) pa s2 all2) := ⟨_, rfl⟩
                      have HFB : Hid (∀ w1 w2, Below w1.heap.size w1 w2 → FIN w1 → FIN w2) := Lib.hid (by
                        rw [hFIN]
                        exact fun w1 w2 hb x => x.below hb)
                      have HFX : Hid (∀ w1, FIN w1 → Box29 w.heap.size b15 b17 g h (.slice (some ⟨bs, 0, none⟩) pa.length cS) pa w1) := Lib.hid (by
                        rw [hFIN]
                        exact fun w1 x => x.box)
                      have HFIN := Lib.hid hFIN
                      clear hFIN
                      let R : Nat → Value → World → Prop := fun ixx v w' => match ixx with
                        | 0 => v = .pointer (some ⟨b15, 0, none⟩)
                        | 1 => v = .pointer (some ⟨b15, 1, none⟩)
                        | 2 => v = .string g.dst
                        | 3 => v = .pointer (some ⟨b17, 0, none⟩)
                        | 4 => v = .string h.src
                        | 5 => v = .bool true
                        | 6 => v = .bool true
                        | 7 => v = .func (.func 51) #[] #[.pointer (some ⟨p, 0, none⟩), .pointer (some ⟨q, 0, none⟩), .pointer (some ⟨r, 0, none⟩)]
                        | 8 => v = .pointer (some ⟨b15, 0, none⟩)
                        | 9 => v = .agg (gC g).toArray
                        | 10 => v = .agg (gC h).toArray
                        | 11 => v = .agg (gC (g.then h)).toArray
                        | 12 => v = .pointer (some ⟨b15, 38, none⟩)
                        | 13 => v = .slice (some ⟨bs, 0, none⟩) pa.length cS ∧ WayAt w' w.heap.size (.slice (some ⟨bs, 0, none⟩) pa.length cS) pa
                        | 14 => v = .slice (some ⟨bs, 0, none⟩) pa.length pa.length ∧ WayAt w' w.heap.size (.slice (some ⟨bs, 0, none⟩) pa.length cS) pa
                        | 15 => v = .int .i64 i
                        | 16 => ∃ k, v = .slice (some ⟨k, 0, none⟩) 1 1 ∧ w'.heap[k]? = some (.cells #[.int .i64 (i : Int)] 3 (0, 0))
                        | 17 => WayAt w' w.heap.size v (pa ++ [i])
                        | 18 => ∃ sv', v = mV (g.then h) sv' ∧ WayAt w' w.heap.size sv' (pa ++ [i])
                        | 19 => v = .bool true
                        | 20 => v = .bool false
                        | 21 => v = .bool false
                        | _ => True
                      refine wp_region_mark (I := Inv29 FIN wd) (R := R) (T := Kp) 19 (by decide) (by kernel_rfl) (by kernel_rfl) (by kernel_rfl) ?_ ?_ ?_ ?_
                      · intro jxx v w1 w2 ht hj
                        rcases jxx with _ | _ | _ | _ | _ | _ | _ | _ | _ | _ | _ | _ | _ | _ | _ | _ | _ | _ | _ | _ | _ | _ | jxx <;> first | exact hj | exact ⟨hj.1, hj.2.kept ht⟩ | (obtain ⟨k, e, hk⟩ := hj; exact ⟨k, e, ht k _ hk⟩) | exact WayAt.kept hj ht | (obtain ⟨sv', e, hk⟩ := hj; exact ⟨sv', e, hk.kept ht⟩)
                      · show Below wd.heap.size wd w28.drew
                        rw [← HWD.out]
                        exact Below.refl _ _
                      · intro ixx hlt bmk a w1 hb up
                        have HI := Lib.hid hlt
                        clear hlt
                        have UP := Lib.hid up
                        clear up
                        have BX := Lib.hid (Inv29.box HFX.out BD.out UP.out.inv)
                        have e1 := BX.out.dst
                        have e2 := BX.out.src
                        have e3 := BX.out.last OKG.out
                        rcases ixx with _ | _ | _ | _ | _ | _ | _ | _ | _ | _ | _ | _ | _ | _ | _ | _ | _ | _ | _ | _ | _ | _ | ixx
                        · have h15 : a.tmps.getD 15 undef = .pointer (some ⟨b15, 0, none⟩) := UP.out.before 15 (by kernel_rfl)
                          exact wpOp_value (v := .pointer (some ⟨b15, 0, none⟩)) rfl (by kernel_rfl) (by go_simp) ⟨_, rfl, Kp.refl _, UP.out.inv, rfl⟩
                        · have h74 : a.tmps.getD 74 undef = .pointer (some ⟨b15, 0, none⟩) := UP.out.dep 0 (by kernel_rfl)
                          exact wpOp_value (v := .pointer (some ⟨b15, 1, none⟩)) rfl (by kernel_rfl) (by go_simp) ⟨_, rfl, Kp.refl _, UP.out.inv, rfl⟩
                        · have h75 : a.tmps.getD 75 undef = .pointer (some ⟨b15, 1, none⟩) := UP.out.dep 1 (by kernel_rfl)
                          exact wpOp_value (v := .string g.dst) rfl (by kernel_rfl) (by go_simp) ⟨_, rfl, Kp.refl _, UP.out.inv, rfl⟩
                        · have h17 : a.tmps.getD 17 undef = .pointer (some ⟨b17, 0, none⟩) := UP.out.before 17 (by kernel_rfl)
                          exact wpOp_value (v := .pointer (some ⟨b17, 0, none⟩)) rfl (by kernel_rfl) (by go_simp) ⟨_, rfl, Kp.refl _, UP.out.inv, rfl⟩
                        · have h77 : a.tmps.getD 77 undef = .pointer (some ⟨b17, 0, none⟩) := UP.out.dep 3 (by kernel_rfl)
                          exact wpOp_value (v := .string h.src) rfl (by kernel_rfl) (by go_simp) ⟨_, rfl, Kp.refl _, UP.out.inv, rfl⟩
                        · have h76 : a.tmps.getD 76 undef = .string g.dst := UP.out.dep 2 (by kernel_rfl)
                          have h78 : a.tmps.getD 78 undef = .string h.src := UP.out.dep 4 (by kernel_rfl)
                          exact wpOp_value (v := .bool true) rfl (by kernel_rfl) (by go_simp) ⟨_, rfl, Kp.refl _, UP.out.inv, rfl⟩
                        · have h79 : a.tmps.getD 79 undef = .bool true := UP.out.dep 5 (by kernel_rfl)
                          exact wpOp_value (v := .bool true) rfl (by kernel_rfl) (by go_simp) ⟨_, rfl, Kp.refl _, UP.out.inv, rfl⟩
                        · have hg : a.tmps.getD 80 undef = .bool true := UP.out.dep 6 (by kernel_rfl)
                          have h12 : a.tmps.getD 12 undef = .func (.func 51) #[] #[.pointer (some ⟨p, 0, none⟩), .pointer (some ⟨q, 0, none⟩), .pointer (some ⟨r, 0, none⟩)] := UP.out.before 12 (by kernel_rfl)
                          exact wpOp_value (v := .func (.func 51) #[] #[.pointer (some ⟨p, 0, none⟩), .pointer (some ⟨q, 0, none⟩), .pointer (some ⟨r, 0, none⟩)]) rfl (wanted_yes rfl (by kernel_rfl) hg) (by go_simp) ⟨_, rfl, Kp.refl _, UP.out.inv, rfl⟩
                        · have hg : a.tmps.getD 80 undef = .bool true := UP.out.dep 6 (by kernel_rfl)
                          have h15 : a.tmps.getD 15 undef = .pointer (some ⟨b15, 0, none⟩) := UP.out.before 15 (by kernel_rfl)
                          exact wpOp_value (v := .pointer (some ⟨b15, 0, none⟩)) rfl (wanted_yes rfl (by kernel_rfl) hg) (by go_simp) ⟨_, rfl, Kp.refl _, UP.out.inv, rfl⟩
                        · have hg : a.tmps.getD 80 undef = .bool true := UP.out.dep 6 (by kernel_rfl)
                          have h82 : a.tmps.getD 82 undef = .pointer (some ⟨b15, 0, none⟩) := UP.out.dep 8 (by kernel_rfl)
                          exact wpOp_load rfl rfl (wanted_yes rfl (by kernel_rfl) hg) h82 (run_loadAt_mid w1 b15 0 78 (gC g) _ (rangeM (range_row BX.out.r15)) hu78 rfl (by rw [gC_len OKG.out]; exact info78)) ⟨_, rfl, Kp.refl _, UP.out.inv, rfl⟩
                        · have hg : a.tmps.getD 80 undef = .bool true := UP.out.dep 6 (by kernel_rfl)
                          have h17 : a.tmps.getD 17 undef = .pointer (some ⟨b17, 0, none⟩) := UP.out.before 17 (by kernel_rfl)
                          exact wpOp_load rfl rfl (wanted_yes rfl (by kernel_rfl) hg) h17 (run_loadAt_mid w1 b17 0 78 (gC h) _ (range_row BX.out.r17) hu78 rfl (by rw [gC_len OKH.out]; exact info78)) ⟨_, rfl, Kp.refl _, UP.out.inv, rfl⟩
                        · have hg : a.tmps.getD 80 undef = .bool true := UP.out.dep 6 (by kernel_rfl)
                          have h83 : a.tmps.getD 83 undef = .agg (gC g).toArray := UP.out.dep 9 (by kernel_rfl)
                          have h84 : a.tmps.getD 84 undef = .agg (gC h).toArray := UP.out.dep 10 (by kernel_rfl)
                          refine wpOp_call (f := 40) (args := #[gV g, gV h]) (R := fun v w' => v = gV (g.then h) ∧ Below w1.heap.size w1 w') rfl (wanted_yes rfl (by kernel_rfl) hg) (by go_simp) ((then_calls g h OKG.out OKH.out w1).mono ?_) ?_
                          · rintro e w9 ⟨rfl, hb9⟩
                            exact ⟨_, rfl, rfl, hb9⟩
                          · rintro v w9 ⟨rfl, hb9⟩
                            exact ⟨_, rfl, Kp.below hb9, Inv29.below HFB.out UP.out.inv hb9, rfl⟩
                        · have hg : a.tmps.getD 80 undef = .bool true := UP.out.dep 6 (by kernel_rfl)
                          have h15 : a.tmps.getD 15 undef = .pointer (some ⟨b15, 0, none⟩) := UP.out.before 15 (by kernel_rfl)
                          exact wpOp_value (v := .pointer (some ⟨b15, 38, none⟩)) rfl (wanted_yes rfl (by kernel_rfl) hg) (by go_simp) ⟨_, rfl, Kp.refl _, UP.out.inv, rfl⟩
                        · have hg : a.tmps.getD 80 undef = .bool true := UP.out.dep 6 (by kernel_rfl)
                          have h86 : a.tmps.getD 86 undef = .pointer (some ⟨b15, 38, none⟩) := UP.out.dep 12 (by kernel_rfl)
                          exact wpOp_value (v := .slice (some ⟨bs, 0, none⟩) pa.length cS) rfl (wanted_yes rfl (by kernel_rfl) hg) (by go_simp) ⟨_, rfl, Kp.refl _, UP.out.inv, rfl, BX.out.way⟩
                        · have hg : a.tmps.getD 80 undef = .bool true := UP.out.dep 6 (by kernel_rfl)
                          have h87 : R 13 (a.tmps.getD 87 undef) w1 := UP.out.dep 13 (by kernel_rfl)
                          obtain ⟨h87, hw87⟩ := h87
                          refine wpOp_call (f := 52) (args := #[.slice (some ⟨bs, 0, none⟩) pa.length cS]) (R := fun v w' => v = .slice (some ⟨bs, 0, none⟩) pa.length pa.length ∧ w1 = w') rfl (wanted_yes rfl (by kernel_rfl) hg) (by go_simp) ((clip_calls bs pa.length cS w1 HPM.out.2 HPC.out HCM.out).mono ?_) ?_
                          · rintro e w9 ⟨rfl, rfl⟩
                            exact ⟨_, rfl, rfl, rfl⟩
                          · rintro v w9 ⟨rfl, rfl⟩
                            exact ⟨_, rfl, Kp.refl _, UP.out.inv, rfl, hw87⟩
                        · have hg : a.tmps.getD 80 undef = .bool true := UP.out.dep 6 (by kernel_rfl)
                          have h16 : a.tmps.getD 16 undef = .int .i64 i := UP.out.before 16 (by kernel_rfl)
                          exact wpOp_value (v := .int .i64 i) rfl (wanted_yes rfl (by kernel_rfl) hg) (by go_simp) ⟨_, rfl, Kp.refl _, UP.out.inv, rfl⟩
                        · have hg : a.tmps.getD 80 undef = .bool true := UP.out.dep 6 (by kernel_rfl)
                          have h89 : a.tmps.getD 89 undef = .int .i64 i := UP.out.dep 15 (by kernel_rfl)
                          have hb9 : Below w1.heap.size w1 (w1.alloc (.cells #[.int .i64 (i : Int)] 3)) := (Below.refl _ _).alloc (Nat.le_refl _) _
                          exact wpOp_value (v := .slice (some ⟨w1.heap.size, 0, none⟩) 1 1) (w' := w1.alloc (.cells #[.int .i64 (i : Int)] 3)) rfl (wanted_yes rfl (by kernel_rfl) hg) (exec_slice1 rfl h89 Try.underlying36 info3z (by omega) (by omega) (cs := [.int .i64 (i : Int)]) rfl rfl) ⟨_, rfl, Kp.below hb9, Inv29.below HFB.out UP.out.inv hb9, _, rfl, heap_alloc_new _ _⟩
                        · have hg : a.tmps.getD 80 undef = .bool true := UP.out.dep 6 (by kernel_rfl)
                          have h88 : R 14 (a.tmps.getD 88 undef) w1 := UP.out.dep 14 (by kernel_rfl)
                          have h90 : R 16 (a.tmps.getD 90 undef) w1 := UP.out.dep 16 (by kernel_rfl)
                          obtain ⟨h88, hw88⟩ := h88
                          obtain ⟨k90, h90, hk90⟩ := h90
                          obtain ⟨v9, w9, hap, hw9, hb9⟩ := way_append (ty := 36) hw88 hk90 (by have := hw88.1.lt bs rfl; omega) HPM.out.1
                          exact wpOp_value (v := v9) (w' := w9) rfl (wanted_yes rfl (by kernel_rfl) hg) (exec_append rfl h88 h90 hap) ⟨_, rfl, Kp.below hb9, Inv29.below HFB.out UP.out.inv hb9, hw9⟩
                        · have hg : a.tmps.getD 80 undef = .bool true := UP.out.dep 6 (by kernel_rfl)
                          have h85 : a.tmps.getD 85 undef = .agg (gC (g.then h)).toArray := UP.out.dep 11 (by kernel_rfl)
                          have h91 : R 17 (a.tmps.getD 91 undef) w1 := UP.out.dep 17 (by kernel_rfl)
                          have h91' : WayAt w1 w.heap.size (a.tmps.getD 91 undef) (pa ++ [i]) := h91
                          exact wpOp_value (v := mV (g.then h) (a.tmps.getD 91 undef)) (w' := w1) rfl (wanted_yes rfl (by kernel_rfl) hg) (exec_build2 rfl h85 rfl (run_made OKT.out h91'.one.2 w1)) ⟨_, rfl, Kp.refl _, UP.out.inv, _, rfl, h91'⟩
                        · have hg : a.tmps.getD 80 undef = .bool true := UP.out.dep 6 (by kernel_rfl)
                          have h81 : a.tmps.getD 81 undef = .func (.func 51) #[] #[.pointer (some ⟨p, 0, none⟩), .pointer (some ⟨q, 0, none⟩), .pointer (some ⟨r, 0, none⟩)] := UP.out.dep 7 (by kernel_rfl)
                          have h92 : R 18 (a.tmps.getD 92 undef) w1 := UP.out.dep 18 (by kernel_rfl)
                          obtain rfl : bmk = false := hb (.inl rfl)
                          have hbel : Below wd.heap.size wd w1 := UP.out.inv
                          obtain ⟨sv', h92, hw92⟩ := h92
                          have hc := CD.out.below hbel
                          refine wpOp_call (f := 51) (args := addArgs (g.then h) sv' p q r) (R := fun v w' => v = .bool true ∧ Below w1.heap.size w1 w') rfl (wanted_yes rfl (by kernel_rfl) hg) (by simp only [addArgs]; go_simp) ((add_seen hc.cs OKT.out sv' HIN.out).mono ?_) ?_
                          · rintro e w9 ⟨rfl, hb9⟩
                            exact ⟨_, rfl, rfl, hb9⟩
                          · rintro v w9 ⟨rfl, hb9⟩
                            refine ⟨_, rfl, Kp.below hb9, ?_, rfl⟩
                            show FIN w9
                            rw [HFIN.out]
                            exact ⟨⟨av2, hc.below hb9, HNE.out⟩, (BD.out.below hbel).below hb9⟩
                        · have hg : a.tmps.getD 80 undef = .bool true := UP.out.dep 6 (by kernel_rfl)
                          have h93 : a.tmps.getD 93 undef = .bool true := UP.out.dep 19 (by kernel_rfl)
                          exact wpOp_value (v := .bool false) rfl (wanted_yes rfl (by kernel_rfl) hg) (by go_simp) ⟨_, rfl, Kp.refl _, UP.out.inv, rfl⟩
                        · have h80 : a.tmps.getD 80 undef = .bool true := UP.out.dep 6 (by kernel_rfl)
                          have h94 : a.tmps.getD 94 undef = .bool false := UP.out.dep 20 (by kernel_rfl)
                          exact wpOp_value (v := .bool false) rfl (by kernel_rfl) (by go_simp) ⟨_, rfl, Kp.refl _, UP.out.inv, rfl⟩
                        · exact absurd HI.out (by simp)
                      · intro vs w' hinv hR
                        have r0 : vs 0 = .pointer (some ⟨b15, 0, none⟩) := hR 0 (by decide)
                        have r1 : vs 1 = .pointer (some ⟨b15, 1, none⟩) := hR 1 (by decide)
                        have r2 : vs 2 = .string g.dst := hR 2 (by decide)
                        have r3 : vs 3 = .pointer (some ⟨b17, 0, none⟩) := hR 3 (by decide)
                        have r4 : vs 4 = .string h.src := hR 4 (by decide)
                        have r5 : vs 5 = .bool true := hR 5 (by decide)
                        have r6 : vs 6 = .bool true := hR 6 (by decide)
                        have r7 : vs 7 = .func (.func 51) #[] #[.pointer (some ⟨p, 0, none⟩), .pointer (some ⟨q, 0, none⟩), .pointer (some ⟨r, 0, none⟩)] := hR 7 (by decide)
                        have r8 : vs 8 = .pointer (some ⟨b15, 0, none⟩) := hR 8 (by decide)
                        have r9 : vs 9 = .agg (gC g).toArray := hR 9 (by decide)
                        have r10 : vs 10 = .agg (gC h).toArray := hR 10 (by decide)
                        have r11 : vs 11 = .agg (gC (g.then h)).toArray := hR 11 (by decide)
                        have r12 : vs 12 = .pointer (some ⟨b15, 38, none⟩) := hR 12 (by decide)
                        have r15 : vs 15 = .int .i64 i := hR 15 (by decide)
                        have r19 : vs 19 = .bool true := hR 19 (by decide)
                        have r20 : vs 20 = .bool false := hR 20 (by decide)
                        have r21 : vs 21 = .bool false := hR 21 (by decide)
                        simp only [putFrom, Act.put, List.setIfInBounds_toArray, List.set_cons_zero, List.set_cons_succ, r0, r1, r2, r3, r4, r5, r6, r7, r8, r9, r10, r11, r12, r15, r19, r20, r21]
                        have HV := Lib.hid hinv
                        have HR := Lib.hid hR
                        clear hinv hR r0 r1 r2 r3 r4 r5 r6 r7 r8 r9 r10 r11 r12 r15 r19 r20 r21
                        have hfin : FIN w' := HV.out
                        rw [HFIN.out] at hfin
                        obtain ⟨⟨av9, hc9, hn9⟩, hbx9⟩ := hfin
                        have C9 := Lib.hid hc9
                        have N9 := Lib.hid hn9
                        have X9 := Lib.hid hbx9
                        clear hc9 hn9 hbx9
                        go_wp2
                        go_roundg (l.length - (i + 1))
                        case measure => have := HN.out; omega
                        case rel => exact ⟨i + 1, by go_num, Lib.hid (by omega), Lib.hid rfl, Lib.hid ⟨all2, av9, s2, C9.out, HGD.out, HFF.out, fun j x hj hx e => by
                          by_cases eji : j = i
                          · subst eji
                            rw [HH.out] at hx
                            rw [← Option.some.inj hx]
                            exact HIN.out
                          · exact HDN.out j x (by omega) hx e, by rw [HMS.out]; exact X9.out.r15, N9.out, X9.out.way⟩⟩
                    · have HNI := Lib.hid hin
                      clear hin
                      by_cases hlt : all2.length < 2000
                      · have HLT := Lib.hid hlt
                        clear hlt
                        have hbd : Below w28.heap.size w28 w28.drew := (Below.refl _ _).drew
                        have CD := Lib.hid (C28.out.below hbd)
                        have BD := Lib.hid (BOX.out.below hbd)
                        obtain ⟨wd, hwd⟩ : ∃ wd, wd = w28.drew := ⟨_, rfl⟩
                        rw [← hwd] at CD BD
                        have HWD := Lib.hid hwd
                        clear hbd hwd C28 BOX
                        have hne2 : (g.dst.toList == h.src.toList) = true := (Lib.bytes_beq_iff _ _).2 hdst
                        have HDST := Lib.hid hdst
                        clear hdst
                        have OKT : Hid (g.then h).Ok := Lib.hid (then_ok OKG.out OKH.out)
                        have HPM : Hid (pa.length ≤ 100000 ∧ 0 < pa.length) := Lib.hid ⟨by have := HPL.out; have := HD.out; have := HFEW.out; omega, List.length_pos_iff.2 BD.out.way.2⟩
                        obtain ⟨FIN, hFIN⟩ : ∃ FIN : World → Prop, FIN = (fun w' => ∃ sv', Fin29 w fs (.slice (some ⟨gb, 0, none⟩) l.length fc) p q r mb cb cap d b15 b17 all2 av2 (rr + 1) g h (.slice (some ⟨bs, 0, none⟩) pa.length cS) pa (s2 + 1) (all2 ++ [(g.then h, sv')]) w') := ⟨_, rfl⟩
                        have HFB : Hid (∀ w1 w2, Below w1.heap.size w1 w2 → FIN w1 → FIN w2) := Lib.hid (by
                          rw [hFIN]
                          exact fun w1 w2 hb ⟨sv', x⟩ => ⟨sv', x.below hb⟩)
                        have HFX : Hid (∀ w1, FIN w1 → Box29 w.heap.size b15 b17 g h (.slice (some ⟨bs, 0, none⟩) pa.length cS) pa w1) := Lib.hid (by
                          rw [hFIN]
                          exact fun w1 ⟨sv', x⟩ => x.box)
                        have HFIN := Lib.hid hFIN
                        clear hFIN
                        let R : Nat → Value → World → Prop := fun ixx v w' => match ixx with
                          | 0 => v = .pointer (some ⟨b15, 0, none⟩)
                          | 1 => v = .pointer (some ⟨b15, 1, none⟩)
                          | 2 => v = .string g.dst
                          | 3 => v = .pointer (some ⟨b17, 0, none⟩)
                          | 4 => v = .string h.src
                          | 5 => v = .bool true
                          | 6 => v = .bool true
                          | 7 => v = .func (.func 51) #[] #[.pointer (some ⟨p, 0, none⟩), .pointer (some ⟨q, 0, none⟩), .pointer (some ⟨r, 0, none⟩)]
                          | 8 => v = .pointer (some ⟨b15, 0, none⟩)
                          | 9 => v = .agg (gC g).toArray
                          | 10 => v = .agg (gC h).toArray
                          | 11 => v = .agg (gC (g.then h)).toArray
                          | 12 => v = .pointer (some ⟨b15, 38, none⟩)
                          | 13 => v = .slice (some ⟨bs, 0, none⟩) pa.length cS ∧ WayAt w' w.heap.size (.slice (some ⟨bs, 0, none⟩) pa.length cS) pa
                          | 14 => v = .slice (some ⟨bs, 0, none⟩) pa.length pa.length ∧ WayAt w' w.heap.size (.slice (some ⟨bs, 0, none⟩) pa.length cS) pa
                          | 15 => v = .int .i64 i
                          | 16 => ∃ k, v = .slice (some ⟨k, 0, none⟩) 1 1 ∧ w'.heap[k]? = some (.cells #[.int .i64 (i : Int)] 3 (0, 0))
                          | 17 => WayAt w' w.heap.size v (pa ++ [i])
                          | 18 => ∃ sv', v = mV (g.then h) sv' ∧ WayAt w' w.heap.size sv' (pa ++ [i])
                          | 19 => v = .bool true
                          | 20 => v = .bool false
                          | 21 => v = .bool false
                          | _ => True
                        refine wp_region_mark (I := Inv29 FIN wd) (R := R) (T := Kp) 19 (by decide) (by kernel_rfl) (by kernel_rfl) (by kernel_rfl) ?_ ?_ ?_ ?_
                        · intro jxx v w1 w2 ht hj
                          rcases jxx with _ | _ | _ | _ | _ | _ | _ | _ | _ | _ | _ | _ | _ | _ | _ | _ | _ | _ | _ | _ | _ | _ | jxx <;> first | exact hj | exact ⟨hj.1, hj.2.kept ht⟩ | (obtain ⟨k, e, hk⟩ := hj; exact ⟨k, e, ht k _ hk⟩) | exact WayAt.kept hj ht | (obtain ⟨sv', e, hk⟩ := hj; exact ⟨sv', e, hk.kept ht⟩)
                        · show Below wd.heap.size wd w28.drew
                          rw [← HWD.out]
                          exact Below.refl _ _
                        · intro ixx hlt bmk a w1 hb up
                          have HI := Lib.hid hlt
                          clear hlt
                          have UP := Lib.hid up
                          clear up
                          have BX := Lib.hid (Inv29.box HFX.out BD.out UP.out.inv)
                          have e1 := BX.out.dst
                          have e2 := BX.out.src
                          have e3 := BX.out.last OKG.out
                          rcases ixx with _ | _ | _ | _ | _ | _ | _ | _ | _ | _ | _ | _ | _ | _ | _ | _ | _ | _ | _ | _ | _ | _ | ixx
                          · have h15 : a.tmps.getD 15 undef = .pointer (some ⟨b15, 0, none⟩) := UP.out.before 15 (by kernel_rfl)
                            exact wpOp_value (v := .pointer (some ⟨b15, 0, none⟩)) rfl (by kernel_rfl) (by go_simp) ⟨_, rfl, Kp.refl _, UP.out.inv, rfl⟩
                          · have h74 : a.tmps.getD 74 undef = .pointer (some ⟨b15, 0, none⟩) := UP.out.dep 0 (by kernel_rfl)
                            exact wpOp_value (v := .pointer (some ⟨b15, 1, none⟩)) rfl (by kernel_rfl) (by go_simp) ⟨_, rfl, Kp.refl _, UP.out.inv, rfl⟩
                          · have h75 : a.tmps.getD 75 undef = .pointer (some ⟨b15, 1, none⟩) := UP.out.dep 1 (by kernel_rfl)
                            exact wpOp_value (v := .string g.dst) rfl (by kernel_rfl) (by go_simp) ⟨_, rfl, Kp.refl _, UP.out.inv, rfl⟩
                          · have h17 : a.tmps.getD 17 undef = .pointer (some ⟨b17, 0, none⟩) := UP.out.before 17 (by kernel_rfl)
                            exact wpOp_value (v := .pointer (some ⟨b17, 0, none⟩)) rfl (by kernel_rfl) (by go_simp) ⟨_, rfl, Kp.refl _, UP.out.inv, rfl⟩
                          · have h77 : a.tmps.getD 77 undef = .pointer (some ⟨b17, 0, none⟩) := UP.out.dep 3 (by kernel_rfl)
                            exact wpOp_value (v := .string h.src) rfl (by kernel_rfl) (by go_simp) ⟨_, rfl, Kp.refl _, UP.out.inv, rfl⟩
                          · have h76 : a.tmps.getD 76 undef = .string g.dst := UP.out.dep 2 (by kernel_rfl)
                            have h78 : a.tmps.getD 78 undef = .string h.src := UP.out.dep 4 (by kernel_rfl)
                            exact wpOp_value (v := .bool true) rfl (by kernel_rfl) (by go_simp) ⟨_, rfl, Kp.refl _, UP.out.inv, rfl⟩
                          · have h79 : a.tmps.getD 79 undef = .bool true := UP.out.dep 5 (by kernel_rfl)
                            exact wpOp_value (v := .bool true) rfl (by kernel_rfl) (by go_simp) ⟨_, rfl, Kp.refl _, UP.out.inv, rfl⟩
                          · have hg : a.tmps.getD 80 undef = .bool true := UP.out.dep 6 (by kernel_rfl)
                            have h12 : a.tmps.getD 12 undef = .func (.func 51) #[] #[.pointer (some ⟨p, 0, none⟩), .pointer (some ⟨q, 0, none⟩), .pointer (some ⟨r, 0, none⟩)] := UP.out.before 12 (by kernel_rfl)
                            exact wpOp_value (v := .func (.func 51) #[] #[.pointer (some ⟨p, 0, none⟩), .pointer (some ⟨q, 0, none⟩), .pointer (some ⟨r, 0, none⟩)]) rfl (wanted_yes rfl (by kernel_rfl) hg) (by go_simp) ⟨_, rfl, Kp.refl _, UP.out.inv, rfl⟩
                          · have hg : a.tmps.getD 80 undef = .bool true := UP.out.dep 6 (by kernel_rfl)
                            have h15 : a.tmps.getD 15 undef = .pointer (some ⟨b15, 0, none⟩) := UP.out.before 15 (by kernel_rfl)
                            exact wpOp_value (v := .pointer (some ⟨b15, 0, none⟩)) rfl (wanted_yes rfl (by kernel_rfl) hg) (by go_simp) ⟨_, rfl, Kp.refl _, UP.out.inv, rfl⟩
                          · have hg : a.tmps.getD 80 undef = .bool true := UP.out.dep 6 (by kernel_rfl)
                            have h82 : a.tmps.getD 82 undef = .pointer (some ⟨b15, 0, none⟩) := UP.out.dep 8 (by kernel_rfl)
                            exact wpOp_load rfl rfl (wanted_yes rfl (by kernel_rfl) hg) h82 (run_loadAt_mid w1 b15 0 78 (gC g) _ (rangeM (range_row BX.out.r15)) hu78 rfl (by rw [gC_len OKG.out]; exact info78)) ⟨_, rfl, Kp.refl _, UP.out.inv, rfl⟩
                          · have hg : a.tmps.getD 80 undef = .bool true := UP.out.dep 6 (by kernel_rfl)
                            have h17 : a.tmps.getD 17 undef = .pointer (some ⟨b17, 0, none⟩) := UP.out.before 17 (by kernel_rfl)
                            exact wpOp_load rfl rfl (wanted_yes rfl (by kernel_rfl) hg) h17 (run_loadAt_mid w1 b17 0 78 (gC h) _ (range_row BX.out.r17) hu78 rfl (by rw [gC_len OKH.out]; exact info78)) ⟨_, rfl, Kp.refl _, UP.out.inv, rfl⟩
                          · have hg : a.tmps.getD 80 undef = .bool true := UP.out.dep 6 (by kernel_rfl)
                            have h83 : a.tmps.getD 83 undef = .agg (gC g).toArray := UP.out.dep 9 (by kernel_rfl)
                            have h84 : a.tmps.getD 84 undef = .agg (gC h).toArray := UP.out.dep 10 (by kernel_rfl)
                            refine wpOp_call (f := 40) (args := #[gV g, gV h]) (R := fun v w' => v = gV (g.then h) ∧ Below w1.heap.size w1 w') rfl (wanted_yes rfl (by kernel_rfl) hg) (by go_simp) ((then_calls g h OKG.out OKH.out w1).mono ?_) ?_
                            · rintro e w9 ⟨rfl, hb9⟩
                              exact ⟨_, rfl, rfl, hb9⟩
                            · rintro v w9 ⟨rfl, hb9⟩
                              exact ⟨_, rfl, Kp.below hb9, Inv29.below HFB.out UP.out.inv hb9, rfl⟩
                          · have hg : a.tmps.getD 80 undef = .bool true := UP.out.dep 6 (by kernel_rfl)
                            have h15 : a.tmps.getD 15 undef = .pointer (some ⟨b15, 0, none⟩) := UP.out.before 15 (by kernel_rfl)
                            exact wpOp_value (v := .pointer (some ⟨b15, 38, none⟩)) rfl (wanted_yes rfl (by kernel_rfl) hg) (by go_simp) ⟨_, rfl, Kp.refl _, UP.out.inv, rfl⟩
                          · have hg : a.tmps.getD 80 undef = .bool true := UP.out.dep 6 (by kernel_rfl)
                            have h86 : a.tmps.getD 86 undef = .pointer (some ⟨b15, 38, none⟩) := UP.out.dep 12 (by kernel_rfl)
                            exact wpOp_value (v := .slice (some ⟨bs, 0, none⟩) pa.length cS) rfl (wanted_yes rfl (by kernel_rfl) hg) (by go_simp) ⟨_, rfl, Kp.refl _, UP.out.inv, rfl, BX.out.way⟩
                          · have hg : a.tmps.getD 80 undef = .bool true := UP.out.dep 6 (by kernel_rfl)
                            have h87 : R 13 (a.tmps.getD 87 undef) w1 := UP.out.dep 13 (by kernel_rfl)
                            obtain ⟨h87, hw87⟩ := h87
                            refine wpOp_call (f := 52) (args := #[.slice (some ⟨bs, 0, none⟩) pa.length cS]) (R := fun v w' => v = .slice (some ⟨bs, 0, none⟩) pa.length pa.length ∧ w1 = w') rfl (wanted_yes rfl (by kernel_rfl) hg) (by go_simp) ((clip_calls bs pa.length cS w1 HPM.out.2 HPC.out HCM.out).mono ?_) ?_
                            · rintro e w9 ⟨rfl, rfl⟩
                              exact ⟨_, rfl, rfl, rfl⟩
                            · rintro v w9 ⟨rfl, rfl⟩
                              exact ⟨_, rfl, Kp.refl _, UP.out.inv, rfl, hw87⟩
                          · have hg : a.tmps.getD 80 undef = .bool true := UP.out.dep 6 (by kernel_rfl)
                            have h16 : a.tmps.getD 16 undef = .int .i64 i := UP.out.before 16 (by kernel_rfl)
                            exact wpOp_value (v := .int .i64 i) rfl (wanted_yes rfl (by kernel_rfl) hg) (by go_simp) ⟨_, rfl, Kp.refl _, UP.out.inv, rfl⟩
                          · have hg : a.tmps.getD 80 undef = .bool true := UP.out.dep 6 (by kernel_rfl)
                            have h89 : a.tmps.getD 89 undef = .int .i64 i := UP.out.dep 15 (by kernel_rfl)
                            have hb9 : Below w1.heap.size w1 (w1.alloc (.cells #[.int .i64 (i : Int)] 3)) := (Below.refl _ _).alloc (Nat.le_refl _) _
                            exact wpOp_value (v := .slice (some ⟨w1.heap.size, 0, none⟩) 1 1) (w' := w1.alloc (.cells #[.int .i64 (i : Int)] 3)) rfl (wanted_yes rfl (by kernel_rfl) hg) (exec_slice1 rfl h89 Try.underlying36 info3z (by omega) (by omega) (cs := [.int .i64 (i : Int)]) rfl rfl) ⟨_, rfl, Kp.below hb9, Inv29.below HFB.out UP.out.inv hb9, _, rfl, heap_alloc_new _ _⟩
                          · have hg : a.tmps.getD 80 undef = .bool true := UP.out.dep 6 (by kernel_rfl)
                            have h88 : R 14 (a.tmps.getD 88 undef) w1 := UP.out.dep 14 (by kernel_rfl)
                            have h90 : R 16 (a.tmps.getD 90 undef) w1 := UP.out.dep 16 (by kernel_rfl)
                            obtain ⟨h88, hw88⟩ := h88
                            obtain ⟨k90, h90, hk90⟩ := h90
                            obtain ⟨v9, w9, hap, hw9, hb9⟩ := way_append (ty := 36) hw88 hk90 (by have := hw88.1.lt bs rfl; omega) HPM.out.1
                            exact wpOp_value (v := v9) (w' := w9) rfl (wanted_yes rfl (by kernel_rfl) hg) (exec_append rfl h88 h90 hap) ⟨_, rfl, Kp.below hb9, Inv29.below HFB.out UP.out.inv hb9, hw9⟩
                          · have hg : a.tmps.getD 80 undef = .bool true := UP.out.dep 6 (by kernel_rfl)
                            have h85 : a.tmps.getD 85 undef = .agg (gC (g.then h)).toArray := UP.out.dep 11 (by kernel_rfl)
                            have h91 : R 17 (a.tmps.getD 91 undef) w1 := UP.out.dep 17 (by kernel_rfl)
                            have h91' : WayAt w1 w.heap.size (a.tmps.getD 91 undef) (pa ++ [i]) := h91
                            exact wpOp_value (v := mV (g.then h) (a.tmps.getD 91 undef)) (w' := w1) rfl (wanted_yes rfl (by kernel_rfl) hg) (exec_build2 rfl h85 rfl (run_made OKT.out h91'.one.2 w1)) ⟨_, rfl, Kp.refl _, UP.out.inv, _, rfl, h91'⟩
                          · have hg : a.tmps.getD 80 undef = .bool true := UP.out.dep 6 (by kernel_rfl)
                            have h81 : a.tmps.getD 81 undef = .func (.func 51) #[] #[.pointer (some ⟨p, 0, none⟩), .pointer (some ⟨q, 0, none⟩), .pointer (some ⟨r, 0, none⟩)] := UP.out.dep 7 (by kernel_rfl)
                            have h92 : R 18 (a.tmps.getD 92 undef) w1 := UP.out.dep 18 (by kernel_rfl)
                            obtain rfl : bmk = false := hb (.inl rfl)
                            have hbel : Below wd.heap.size wd w1 := UP.out.inv
                            obtain ⟨sv', h92, hw92⟩ := h92
                            have hc := CD.out.below hbel
                            refine wpOp_call (f := 51) (args := addArgs (g.then h) sv' p q r) (R := fun v w' => v = .bool true ∧ ∃ av', CS w.heap.size w' p q r mb cb cap (all2 ++ [(g.then h, sv')]) (all2.drop (d + 1) ++ [(g.then h, sv')]) av' (s2 + 1) (rr + 1) ∧ Added w1 w' q mb cb av2 av') rfl (wanted_yes rfl (by kernel_rfl) hg) (by simp only [addArgs]; go_simp) ((add_new hc.cs OKT.out sv' hw92.one.1 HNI.out HLT.out (CAP.out all2 hc.few (d + 1))).mono ?_) ?_
                            · rintro e w9 ⟨rfl, hb9⟩
                              exact ⟨_, rfl, rfl, hb9⟩
                            · rintro v w9 ⟨rfl, av', hcs9, had9⟩
                              refine ⟨_, rfl, fun bb x hx => had9.keeps hc.cs (by decide) (by decide) hx, ?_, rfl⟩
                              show FIN w9
                              rw [HFIN.out]
                              refine ⟨sv', ⟨av', hc.new hcs9 had9 HNI.out (Reach.more HGR.out (List.mem_of_getElem? HH.out) HDST.out) HLT.out (comp_snoc HCOMP.out HH.out HDST.out) ?_ ?_ hw92, had9.ne (BD.out.below hbel).r15 HNE.out⟩, (BD.out.below hbel).added had9 hc.cs HNE.out⟩
                              · rw [List.length_append]
                                have := HPL.out
                                have := hc.ele
                                simp only [List.length_cons, List.length_nil]
                                omega
                              · intro j hj
                                rcases List.mem_append.1 hj with hj | hj
                                · exact HPI.out j hj
                                · rw [List.mem_singleton.1 hj]
                                  exact (List.getElem?_eq_some_iff.1 HH.out).1
                          · have hg : a.tmps.getD 80 undef = .bool true := UP.out.dep 6 (by kernel_rfl)
                            have h93 : a.tmps.getD 93 undef = .bool true := UP.out.dep 19 (by kernel_rfl)
                            exact wpOp_value (v := .bool false) rfl (wanted_yes rfl (by kernel_rfl) hg) (by go_simp) ⟨_, rfl, Kp.refl _, UP.out.inv, rfl⟩
                          · have h80 : a.tmps.getD 80 undef = .bool true := UP.out.dep 6 (by kernel_rfl)
                            have h94 : a.tmps.getD 94 undef = .bool false := UP.out.dep 20 (by kernel_rfl)
                            exact wpOp_value (v := .bool false) rfl (by kernel_rfl) (by go_simp) ⟨_, rfl, Kp.refl _, UP.out.inv, rfl⟩
                          · exact absurd HI.out (by simp)
                        · intro vs w' hinv hR
                          have r0 : vs 0 = .pointer (some ⟨b15, 0, none⟩) := hR 0 (by decide)
                          have r1 : vs 1 = .pointer (some ⟨b15, 1, none⟩) := hR 1 (by decide)
                          have r2 : vs 2 = .string g.dst := hR 2 (by decide)
                          have r3 : vs 3 = .pointer (some ⟨b17, 0, none⟩) := hR 3 (by decide)
                          have r4 : vs 4 = .string h.src := hR 4 (by decide)
                          have r5 : vs 5 = .bool true := hR 5 (by decide)
                          have r6 : vs 6 = .bool true := hR 6 (by decide)
                          have r7 : vs 7 = .func (.func 51) #[] #[.pointer (some ⟨p, 0, none⟩), .pointer (some ⟨q, 0, none⟩), .pointer (some ⟨r, 0, none⟩)] := hR 7 (by decide)
                          have r8 : vs 8 = .pointer (some ⟨b15, 0, none⟩) := hR 8 (by decide)
                          have r9 : vs 9 = .agg (gC g).toArray := hR 9 (by decide)
                          have r10 : vs 10 = .agg (gC h).toArray := hR 10 (by decide)
                          have r11 : vs 11 = .agg (gC (g.then h)).toArray := hR 11 (by decide)
                          have r12 : vs 12 = .pointer (some ⟨b15, 38, none⟩) := hR 12 (by decide)
                          have r15 : vs 15 = .int .i64 i := hR 15 (by decide)
                          have r19 : vs 19 = .bool true := hR 19 (by decide)
                          have r20 : vs 20 = .bool false := hR 20 (by decide)
                          have r21 : vs 21 = .bool false := hR 21 (by decide)
                          simp only [putFrom, Act.put, List.setIfInBounds_toArray, List.set_cons_zero, List.set_cons_succ, r0, r1, r2, r3, r4, r5, r6, r7, r8, r9, r10, r11, r12, r15, r19, r20, r21]
                          have HV := Lib.hid hinv
                          have HR := Lib.hid hR
                          clear hinv hR r0 r1 r2 r3 r4 r5 r6 r7 r8 r9 r10 r11 r12 r15 r19 r20 r21
                          have hfin : FIN w' := HV.out
                          rw [HFIN.out] at hfin
                          obtain ⟨sv9, ⟨av9, hc9, hn9⟩, hbx9⟩ := hfin
                          have C9 := Lib.hid hc9
                          have N9 := Lib.hid hn9
                          have X9 := Lib.hid hbx9
                          clear hc9 hn9 hbx9
                          go_wp2
                          go_roundg (l.length - (i + 1))
                          case measure => have := HN.out; omega
                          case rel => exact ⟨i + 1, by go_num, Lib.hid (by omega), Lib.hid rfl, Lib.hid ⟨_, av9, s2 + 1, C9.out, by rw [List.getElem?_append_left (List.getElem?_eq_some_iff.1 HGD.out).1]; exact HGD.out, fun x hx => by rw [List.map_append]; exact List.mem_append_left _ (HFF.out x hx), fun j x hj hx e => by
                            by_cases eji : j = i
                            · subst eji
                              rw [HH.out] at hx
                              rw [← Option.some.inj hx]
                              simp
                            · rw [List.map_append]
                              exact List.mem_append_left _ (HDN.out j x (by omega) hx e), by rw [HMS.out]; exact X9.out.r15, N9.out, X9.out.way⟩⟩
                      · have HFULL : Hid (all2.length = 2000) := Lib.hid (by have := C28.out.few; omega)
                        clear hlt
                        have hbd : Below w28.heap.size w28 w28.drew := (Below.refl _ _).drew
                        have CD := Lib.hid (C28.out.below hbd)
                        have BD := Lib.hid (BOX.out.below hbd)
                        obtain ⟨wd, hwd⟩ : ∃ wd, wd = w28.drew := ⟨_, rfl⟩
                        rw [← hwd] at CD BD
                        have HWD := Lib.hid hwd
                        clear hbd hwd C28 BOX
                        have hne2 : (g.dst.toList == h.src.toList) = true := (Lib.bytes_beq_iff _ _).2 hdst
                        have HDST := Lib.hid hdst
                        clear hdst
                        have OKT : Hid (g.then h).Ok := Lib.hid (then_ok OKG.out OKH.out)
                        have HPM : Hid (pa.length ≤ 100000 ∧ 0 < pa.length) := Lib.hid ⟨by have := HPL.out; have := HD.out; have := HFEW.out; omega, List.length_pos_iff.2 BD.out.way.2⟩
                        obtain ⟨FIN, hFIN⟩ : ∃ FIN : World → Prop, FIN = (fun w' => Below w.heap.size w w' ∧ Box29 w.heap.size b15 b17 g h (.slice (some ⟨bs, 0, none⟩) pa.length cS) pa w') := ⟨_, rfl⟩
                        have HFB : Hid (∀ w1 w2, Below w1.heap.size w1 w2 → FIN w1 → FIN w2) := Lib.hid (by
                          rw [hFIN]
                          exact fun w1 w2 hb x => ⟨below_then x.1 hb, x.2.below hb⟩)
                        have HFX : Hid (∀ w1, FIN w1 → Box29 w.heap.size b15 b17 g h (.slice (some ⟨bs, 0, none⟩) pa.length cS) pa w1) := Lib.hid (by
                          rw [hFIN]
                          exact fun w1 x => x.2)
                        have HFIN := Lib.hid hFIN
                        clear hFIN
                        let R : Nat → Value → World → Prop := fun ixx v w' => match ixx with
                          | 0 => v = .pointer (some ⟨b15, 0, none⟩)
                          | 1 => v = .pointer (some ⟨b15, 1, none⟩)
                          | 2 => v = .string g.dst
                          | 3 => v = .pointer (some ⟨b17, 0, none⟩)
                          | 4 => v = .string h.src
                          | 5 => v = .bool true
                          | 6 => v = .bool true
                          | 7 => v = .func (.func 51) #[] #[.pointer (some ⟨p, 0, none⟩), .pointer (some ⟨q, 0, none⟩), .pointer (some ⟨r, 0, none⟩)]
                          | 8 => v = .pointer (some ⟨b15, 0, none⟩)
                          | 9 => v = .agg (gC g).toArray
                          | 10 => v = .agg (gC h).toArray
                          | 11 => v = .agg (gC (g.then h)).toArray
                          | 12 => v = .pointer (some ⟨b15, 38, none⟩)
                          | 13 => v = .slice (some ⟨bs, 0, none⟩) pa.length cS ∧ WayAt w' w.heap.size (.slice (some ⟨bs, 0, none⟩) pa.length cS) pa
                          | 14 => v = .slice (some ⟨bs, 0, none⟩) pa.length pa.length ∧ WayAt w' w.heap.size (.slice (some ⟨bs, 0, none⟩) pa.length cS) pa
                          | 15 => v = .int .i64 i
                          | 16 => ∃ k, v = .slice (some ⟨k, 0, none⟩) 1 1 ∧ w'.heap[k]? = some (.cells #[.int .i64 (i : Int)] 3 (0, 0))
                          | 17 => WayAt w' w.heap.size v (pa ++ [i])
                          | 18 => ∃ sv', v = mV (g.then h) sv' ∧ WayAt w' w.heap.size sv' (pa ++ [i])
                          | 19 => v = .bool false
                          | 20 => v = .bool true
                          | 21 => v = .bool true
                          | _ => True
                        refine wp_region_mark (I := Inv29 FIN wd) (R := R) (T := Kp) 19 (by decide) (by kernel_rfl) (by kernel_rfl) (by kernel_rfl) ?_ ?_ ?_ ?_
                        · intro jxx v w1 w2 ht hj
                          rcases jxx with _ | _ | _ | _ | _ | _ | _ | _ | _ | _ | _ | _ | _ | _ | _ | _ | _ | _ | _ | _ | _ | _ | jxx <;> first | exact hj | exact ⟨hj.1, hj.2.kept ht⟩ | (obtain ⟨k, e, hk⟩ := hj; exact ⟨k, e, ht k _ hk⟩) | exact WayAt.kept hj ht | (obtain ⟨sv', e, hk⟩ := hj; exact ⟨sv', e, hk.kept ht⟩)
                        · show Below wd.heap.size wd w28.drew
                          rw [← HWD.out]
                          exact Below.refl _ _
                        · intro ixx hlt bmk a w1 hb up
                          have HI := Lib.hid hlt
                          clear hlt
                          have UP := Lib.hid up
                          clear up
                          have BX := Lib.hid (Inv29.box HFX.out BD.out UP.out.inv)
                          have e1 := BX.out.dst
                          have e2 := BX.out.src
                          have e3 := BX.out.last OKG.out
                          rcases ixx with _ | _ | _ | _ | _ | _ | _ | _ | _ | _ | _ | _ | _ | _ | _ | _ | _ | _ | _ | _ | _ | _ | ixx
                          · have h15 : a.tmps.getD 15 undef = .pointer (some ⟨b15, 0, none⟩) := UP.out.before 15 (by kernel_rfl)
                            exact wpOp_value (v := .pointer (some ⟨b15, 0, none⟩)) rfl (by kernel_rfl) (by go_simp) ⟨_, rfl, Kp.refl _, UP.out.inv, rfl⟩
                          · have h74 : a.tmps.getD 74 undef = .pointer (some ⟨b15, 0, none⟩) := UP.out.dep 0 (by kernel_rfl)
                            exact wpOp_value (v := .pointer (some ⟨b15, 1, none⟩)) rfl (by kernel_rfl) (by go_simp) ⟨_, rfl, Kp.refl _, UP.out.inv, rfl⟩
                          · have h75 : a.tmps.getD 75 undef = .pointer (some ⟨b15, 1, none⟩) := UP.out.dep 1 (by kernel_rfl)
                            exact wpOp_value (v := .string g.dst) rfl (by kernel_rfl) (by go_simp) ⟨_, rfl, Kp.refl _, UP.out.inv, rfl⟩
                          · have h17 : a.tmps.getD 17 undef = .pointer (some ⟨b17, 0, none⟩) := UP.out.before 17 (by kernel_rfl)
                            exact wpOp_value (v := .pointer (some ⟨b17, 0, none⟩)) rfl (by kernel_rfl) (by go_simp) ⟨_, rfl, Kp.refl _, UP.out.inv, rfl⟩
                          · have h77 : a.tmps.getD 77 undef = .pointer (some ⟨b17, 0, none⟩) := UP.out.dep 3 (by kernel_rfl)
                            exact wpOp_value (v := .string h.src) rfl (by kernel_rfl) (by go_simp) ⟨_, rfl, Kp.refl _, UP.out.inv, rfl⟩
                          · have h76 : a.tmps.getD 76 undef = .string g.dst := UP.out.dep 2 (by kernel_rfl)
                            have h78 : a.tmps.getD 78 undef = .string h.src := UP.out.dep 4 (by kernel_rfl)
                            exact wpOp_value (v := .bool true) rfl (by kernel_rfl) (by go_simp) ⟨_, rfl, Kp.refl _, UP.out.inv, rfl⟩
                          · have h79 : a.tmps.getD 79 undef = .bool true := UP.out.dep 5 (by kernel_rfl)
                            exact wpOp_value (v := .bool true) rfl (by kernel_rfl) (by go_simp) ⟨_, rfl, Kp.refl _, UP.out.inv, rfl⟩
                          · have hg : a.tmps.getD 80 undef = .bool true := UP.out.dep 6 (by kernel_rfl)
                            have h12 : a.tmps.getD 12 undef = .func (.func 51) #[] #[.pointer (some ⟨p, 0, none⟩), .pointer (some ⟨q, 0, none⟩), .pointer (some ⟨r, 0, none⟩)] := UP.out.before 12 (by kernel_rfl)
                            exact wpOp_value (v := .func (.func 51) #[] #[.pointer (some ⟨p, 0, none⟩), .pointer (some ⟨q, 0, none⟩), .pointer (some ⟨r, 0, none⟩)]) rfl (wanted_yes rfl (by kernel_rfl) hg) (by go_simp) ⟨_, rfl, Kp.refl _, UP.out.inv, rfl⟩
                          · have hg : a.tmps.getD 80 undef = .bool true := UP.out.dep 6 (by kernel_rfl)
                            have h15 : a.tmps.getD 15 undef = .pointer (some ⟨b15, 0, none⟩) := UP.out.before 15 (by kernel_rfl)
                            exact wpOp_value (v := .pointer (some ⟨b15, 0, none⟩)) rfl (wanted_yes rfl (by kernel_rfl) hg) (by go_simp) ⟨_, rfl, Kp.refl _, UP.out.inv, rfl⟩
                          · have hg : a.tmps.getD 80 undef = .bool true := UP.out.dep 6 (by kernel_rfl)
                            have h82 : a.tmps.getD 82 undef = .pointer (some ⟨b15, 0, none⟩) := UP.out.dep 8 (by kernel_rfl)
                            exact wpOp_load rfl rfl (wanted_yes rfl (by kernel_rfl) hg) h82 (run_loadAt_mid w1 b15 0 78 (gC g) _ (rangeM (range_row BX.out.r15)) hu78 rfl (by rw [gC_len OKG.out]; exact info78)) ⟨_, rfl, Kp.refl _, UP.out.inv, rfl⟩
                          · have hg : a.tmps.getD 80 undef = .bool true := UP.out.dep 6 (by kernel_rfl)
                            have h17 : a.tmps.getD 17 undef = .pointer (some ⟨b17, 0, none⟩) := UP.out.before 17 (by kernel_rfl)
                            exact wpOp_load rfl rfl (wanted_yes rfl (by kernel_rfl) hg) h17 (run_loadAt_mid w1 b17 0 78 (gC h) _ (range_row BX.out.r17) hu78 rfl (by rw [gC_len OKH.out]; exact info78)) ⟨_, rfl, Kp.refl _, UP.out.inv, rfl⟩
                          · have hg : a.tmps.getD 80 undef = .bool true := UP.out.dep 6 (by kernel_rfl)
                            have h83 : a.tmps.getD 83 undef = .agg (gC g).toArray := UP.out.dep 9 (by kernel_rfl)
                            have h84 : a.tmps.getD 84 undef = .agg (gC h).toArray := UP.out.dep 10 (by kernel_rfl)
                            refine wpOp_call (f := 40) (args := #[gV g, gV h]) (R := fun v w' => v = gV (g.then h) ∧ Below w1.heap.size w1 w') rfl (wanted_yes rfl (by kernel_rfl) hg) (by go_simp) ((then_calls g h OKG.out OKH.out w1).mono ?_) ?_
                            · rintro e w9 ⟨rfl, hb9⟩
                              exact ⟨_, rfl, rfl, hb9⟩
                            · rintro v w9 ⟨rfl, hb9⟩
                              exact ⟨_, rfl, Kp.below hb9, Inv29.below HFB.out UP.out.inv hb9, rfl⟩
                          · have hg : a.tmps.getD 80 undef = .bool true := UP.out.dep 6 (by kernel_rfl)
                            have h15 : a.tmps.getD 15 undef = .pointer (some ⟨b15, 0, none⟩) := UP.out.before 15 (by kernel_rfl)
                            exact wpOp_value (v := .pointer (some ⟨b15, 38, none⟩)) rfl (wanted_yes rfl (by kernel_rfl) hg) (by go_simp) ⟨_, rfl, Kp.refl _, UP.out.inv, rfl⟩
                          · have hg : a.tmps.getD 80 undef = .bool true := UP.out.dep 6 (by kernel_rfl)
                            have h86 : a.tmps.getD 86 undef = .pointer (some ⟨b15, 38, none⟩) := UP.out.dep 12 (by kernel_rfl)
                            exact wpOp_value (v := .slice (some ⟨bs, 0, none⟩) pa.length cS) rfl (wanted_yes rfl (by kernel_rfl) hg) (by go_simp) ⟨_, rfl, Kp.refl _, UP.out.inv, rfl, BX.out.way⟩
                          · have hg : a.tmps.getD 80 undef = .bool true := UP.out.dep 6 (by kernel_rfl)
                            have h87 : R 13 (a.tmps.getD 87 undef) w1 := UP.out.dep 13 (by kernel_rfl)
                            obtain ⟨h87, hw87⟩ := h87
                            refine wpOp_call (f := 52) (args := #[.slice (some ⟨bs, 0, none⟩) pa.length cS]) (R := fun v w' => v = .slice (some ⟨bs, 0, none⟩) pa.length pa.length ∧ w1 = w') rfl (wanted_yes rfl (by kernel_rfl) hg) (by go_simp) ((clip_calls bs pa.length cS w1 HPM.out.2 HPC.out HCM.out).mono ?_) ?_
                            · rintro e w9 ⟨rfl, rfl⟩
                              exact ⟨_, rfl, rfl, rfl⟩
                            · rintro v w9 ⟨rfl, rfl⟩
                              exact ⟨_, rfl, Kp.refl _, UP.out.inv, rfl, hw87⟩
                          · have hg : a.tmps.getD 80 undef = .bool true := UP.out.dep 6 (by kernel_rfl)
                            have h16 : a.tmps.getD 16 undef = .int .i64 i := UP.out.before 16 (by kernel_rfl)
                            exact wpOp_value (v := .int .i64 i) rfl (wanted_yes rfl (by kernel_rfl) hg) (by go_simp) ⟨_, rfl, Kp.refl _, UP.out.inv, rfl⟩
                          · have hg : a.tmps.getD 80 undef = .bool true := UP.out.dep 6 (by kernel_rfl)
                            have h89 : a.tmps.getD 89 undef = .int .i64 i := UP.out.dep 15 (by kernel_rfl)
                            have hb9 : Below w1.heap.size w1 (w1.alloc (.cells #[.int .i64 (i : Int)] 3)) := (Below.refl _ _).alloc (Nat.le_refl _) _
                            exact wpOp_value (v := .slice (some ⟨w1.heap.size, 0, none⟩) 1 1) (w' := w1.alloc (.cells #[.int .i64 (i : Int)] 3)) rfl (wanted_yes rfl (by kernel_rfl) hg) (exec_slice1 rfl h89 Try.underlying36 info3z (by omega) (by omega) (cs := [.int .i64 (i : Int)]) rfl rfl) ⟨_, rfl, Kp.below hb9, Inv29.below HFB.out UP.out.inv hb9, _, rfl, heap_alloc_new _ _⟩
                          · have hg : a.tmps.getD 80 undef = .bool true := UP.out.dep 6 (by kernel_rfl)
                            have h88 : R 14 (a.tmps.getD 88 undef) w1 := UP.out.dep 14 (by kernel_rfl)
                            have h90 : R 16 (a.tmps.getD 90 undef) w1 := UP.out.dep 16 (by kernel_rfl)
                            obtain ⟨h88, hw88⟩ := h88
                            obtain ⟨k90, h90, hk90⟩ := h90
                            obtain ⟨v9, w9, hap, hw9, hb9⟩ := way_append (ty := 36) hw88 hk90 (by have := hw88.1.lt bs rfl; omega) HPM.out.1
                            exact wpOp_value (v := v9) (w' := w9) rfl (wanted_yes rfl (by kernel_rfl) hg) (exec_append rfl h88 h90 hap) ⟨_, rfl, Kp.below hb9, Inv29.below HFB.out UP.out.inv hb9, hw9⟩
                          · have hg : a.tmps.getD 80 undef = .bool true := UP.out.dep 6 (by kernel_rfl)
                            have h85 : a.tmps.getD 85 undef = .agg (gC (g.then h)).toArray := UP.out.dep 11 (by kernel_rfl)
                            have h91 : R 17 (a.tmps.getD 91 undef) w1 := UP.out.dep 17 (by kernel_rfl)
                            have h91' : WayAt w1 w.heap.size (a.tmps.getD 91 undef) (pa ++ [i]) := h91
                            exact wpOp_value (v := mV (g.then h) (a.tmps.getD 91 undef)) (w' := w1) rfl (wanted_yes rfl (by kernel_rfl) hg) (exec_build2 rfl h85 rfl (run_made OKT.out h91'.one.2 w1)) ⟨_, rfl, Kp.refl _, UP.out.inv, _, rfl, h91'⟩
                          · have hg : a.tmps.getD 80 undef = .bool true := UP.out.dep 6 (by kernel_rfl)
                            have h81 : a.tmps.getD 81 undef = .func (.func 51) #[] #[.pointer (some ⟨p, 0, none⟩), .pointer (some ⟨q, 0, none⟩), .pointer (some ⟨r, 0, none⟩)] := UP.out.dep 7 (by kernel_rfl)
                            have h92 : R 18 (a.tmps.getD 92 undef) w1 := UP.out.dep 18 (by kernel_rfl)
                            obtain rfl : bmk = false := hb (.inl rfl)
                            have hbel : Below wd.heap.size wd w1 := UP.out.inv
                            obtain ⟨sv', h92, hw92⟩ := h92
                            have hc := CD.out.below hbel
                            refine wpOp_call (f := 51) (args := addArgs (g.then h) sv' p q r) (R := fun v w' => v = .bool false ∧ ∃ av', Added w1 w' q mb cb av2 av') rfl (wanted_yes rfl (by kernel_rfl) hg) (by simp only [addArgs]; go_simp) ((add_full hc.cs OKT.out sv' hw92.one.1 HNI.out hc.few HFULL.out).mono ?_) ?_
                            · rintro e w9 ⟨rfl, hb9⟩
                              exact ⟨_, rfl, rfl, hb9⟩
                            · rintro v w9 ⟨rfl, av', had9⟩
                              refine ⟨_, rfl, fun bb x hx => had9.keeps hc.cs (by decide) (by decide) hx, ?_, rfl⟩
                              show FIN w9
                              rw [HFIN.out]
                              exact ⟨had9.below hc.cs hc.b, (BD.out.below hbel).added had9 hc.cs HNE.out⟩
                          · have hg : a.tmps.getD 80 undef = .bool true := UP.out.dep 6 (by kernel_rfl)
                            have h93 : a.tmps.getD 93 undef = .bool false := UP.out.dep 19 (by kernel_rfl)
                            exact wpOp_value (v := .bool true) rfl (wanted_yes rfl (by kernel_rfl) hg) (by go_simp) ⟨_, rfl, Kp.refl _, UP.out.inv, rfl⟩
                          · have h80 : a.tmps.getD 80 undef = .bool true := UP.out.dep 6 (by kernel_rfl)
                            have h94 : a.tmps.getD 94 undef = .bool true := UP.out.dep 20 (by kernel_rfl)
                            exact wpOp_value (v := .bool true) rfl (by kernel_rfl) (by go_simp) ⟨_, rfl, Kp.refl _, UP.out.inv, rfl⟩
                          · exact absurd HI.out (by simp)
                        · intro vs w' hinv hR
                          have r0 : vs 0 = .pointer (some ⟨b15, 0, none⟩) := hR 0 (by decide)
                          have r1 : vs 1 = .pointer (some ⟨b15, 1, none⟩) := hR 1 (by decide)
                          have r2 : vs 2 = .string g.dst := hR 2 (by decide)
                          have r3 : vs 3 = .pointer (some ⟨b17, 0, none⟩) := hR 3 (by decide)
                          have r4 : vs 4 = .string h.src := hR 4 (by decide)
                          have r5 : vs 5 = .bool true := hR 5 (by decide)
                          have r6 : vs 6 = .bool true := hR 6 (by decide)
                          have r7 : vs 7 = .func (.func 51) #[] #[.pointer (some ⟨p, 0, none⟩), .pointer (some ⟨q, 0, none⟩), .pointer (some ⟨r, 0, none⟩)] := hR 7 (by decide)
                          have r8 : vs 8 = .pointer (some ⟨b15, 0, none⟩) := hR 8 (by decide)
                          have r9 : vs 9 = .agg (gC g).toArray := hR 9 (by decide)
                          have r10 : vs 10 = .agg (gC h).toArray := hR 10 (by decide)
                          have r11 : vs 11 = .agg (gC (g.then h)).toArray := hR 11 (by decide)
                          have r12 : vs 12 = .pointer (some ⟨b15, 38, none⟩) := hR 12 (by decide)
                          have r15 : vs 15 = .int .i64 i := hR 15 (by decide)
                          have r19 : vs 19 = .bool false := hR 19 (by decide)
                          have r20 : vs 20 = .bool true := hR 20 (by decide)
                          have r21 : vs 21 = .bool true := hR 21 (by decide)
                          simp only [putFrom, Act.put, List.setIfInBounds_toArray, List.set_cons_zero, List.set_cons_succ, r0, r1, r2, r3, r4, r5, r6, r7, r8, r9, r10, r11, r12, r15, r19, r20, r21]
                          have HV := Lib.hid hinv
                          have HR := Lib.hid hR
                          clear hinv hR r0 r1 r2 r3 r4 r5 r6 r7 r8 r9 r10 r11 r12 r15 r19 r20 r21
                          have hfin : FIN w' := HV.out
                          rw [HFIN.out] at hfin
                          have BF := Lib.hid hfin.1
                          clear hfin
                          go_wp2
                          go_ret2
                          have hks := CD.out.work.snoc HNI.out (Reach.more HGR.out (List.mem_of_getElem? HH.out) HDST.out) (by have := CD.out.dle; have := CD.out.ele; simp; omega)
                          exact ⟨BF.out, .inr (.inr ⟨by assumption, OKL.out, .inl ⟨⟨all2.map (·.1) ++ [g.then h], hks.nd, by simp [HFULL.out], by have := hks.reach; rwa [HFS.out] at this⟩, rfl⟩⟩)⟩
                  · have hskip := trivial
                    have hbd : Below w28.heap.size w28 w28.drew := (Below.refl _ _).drew
                    have CD := Lib.hid (C28.out.below hbd)
                    have BD := Lib.hid (BOX.out.below hbd)
                    obtain ⟨wd, hwd⟩ : ∃ wd, wd = w28.drew := ⟨_, rfl⟩
                    rw [← hwd] at CD BD
                    have HWD := Lib.hid hwd
                    clear hbd hwd C28 BOX
                    have hne2 : (g.dst.toList == h.src.toList) = false := (Lib.bytes_beq_false_iff _ _).2 hdst
                    have HDST := Lib.hid hdst
                    clear hdst
                    let R : Nat → Value → World → Prop := fun ixx v w' => match ixx with
                      | 0 => v = .pointer (some ⟨b15, 0, none⟩)
                      | 1 => v = .pointer (some ⟨b15, 1, none⟩)
                      | 2 => v = .string g.dst
                      | 3 => v = .pointer (some ⟨b17, 0, none⟩)
                      | 4 => v = .string h.src
                      | 5 => v = .bool false
                      | 6 => v = .bool false
                      | 7 => v = undef
                      | 8 => v = undef
                      | 9 => v = undef
                      | 10 => v = undef
                      | 11 => v = undef
                      | 12 => v = undef
                      | 13 => v = undef
                      | 14 => v = undef
                      | 15 => v = undef
                      | 16 => v = undef
                      | 17 => v = undef
                      | 18 => v = undef
                      | 19 => v = undef
                      | 20 => v = undef
                      | 21 => v = .bool false
                      | _ => True
                    refine wp_region_each (I := fun w' => w' = wd) (R := R) (T := fun _ _ => True) (by kernel_rfl) (by kernel_rfl) (by kernel_rfl) ?_ ?_ ?_ ?_
                    · intro jxx v w1 w2 _ h
                      rcases jxx with _ | _ | _ | _ | _ | _ | _ | _ | _ | _ | _ | _ | _ | _ | _ | _ | _ | _ | _ | _ | _ | _ | jxx <;> exact h
                    · exact HWD.out.symm
                    · intro ixx hlt a w1 up
                      have HI := Lib.hid hlt
                      clear hlt
                      have UP := Lib.hid up
                      clear up
                      rcases ixx with _ | _ | _ | _ | _ | _ | _ | _ | _ | _ | _ | _ | _ | _ | _ | _ | _ | _ | _ | _ | _ | _ | ixx
                      · obtain rfl : w1 = wd := UP.out.inv
                        have e1 := BD.out.dst
                        have e2 := BD.out.src
                        have h15 : a.tmps.getD 15 undef = .pointer (some ⟨b15, 0, none⟩) := UP.out.before 15 (by kernel_rfl)
                        exact wpOp_value (v := .pointer (some ⟨b15, 0, none⟩)) rfl (by kernel_rfl) (by go_simp) ⟨_, rfl, trivial, UP.out.inv, rfl⟩
                      · obtain rfl : w1 = wd := UP.out.inv
                        have e1 := BD.out.dst
                        have e2 := BD.out.src
                        have h74 : a.tmps.getD 74 undef = .pointer (some ⟨b15, 0, none⟩) := UP.out.dep 0 (by kernel_rfl)
                        exact wpOp_value (v := .pointer (some ⟨b15, 1, none⟩)) rfl (by kernel_rfl) (by go_simp) ⟨_, rfl, trivial, UP.out.inv, rfl⟩
                      · obtain rfl : w1 = wd := UP.out.inv
                        have e1 := BD.out.dst
                        have e2 := BD.out.src
                        have h75 : a.tmps.getD 75 undef = .pointer (some ⟨b15, 1, none⟩) := UP.out.dep 1 (by kernel_rfl)
                        exact wpOp_value (v := .string g.dst) rfl (by kernel_rfl) (by go_simp) ⟨_, rfl, trivial, UP.out.inv, rfl⟩
                      · obtain rfl : w1 = wd := UP.out.inv
                        have e1 := BD.out.dst
                        have e2 := BD.out.src
                        have h17 : a.tmps.getD 17 undef = .pointer (some ⟨b17, 0, none⟩) := UP.out.before 17 (by kernel_rfl)
                        exact wpOp_value (v := .pointer (some ⟨b17, 0, none⟩)) rfl (by kernel_rfl) (by go_simp) ⟨_, rfl, trivial, UP.out.inv, rfl⟩
                      · obtain rfl : w1 = wd := UP.out.inv
                        have e1 := BD.out.dst
                        have e2 := BD.out.src
                        have h77 : a.tmps.getD 77 undef = .pointer (some ⟨b17, 0, none⟩) := UP.out.dep 3 (by kernel_rfl)
                        exact wpOp_value (v := .string h.src) rfl (by kernel_rfl) (by go_simp) ⟨_, rfl, trivial, UP.out.inv, rfl⟩
                      · obtain rfl : w1 = wd := UP.out.inv
                        have e1 := BD.out.dst
                        have e2 := BD.out.src
                        have h76 : a.tmps.getD 76 undef = .string g.dst := UP.out.dep 2 (by kernel_rfl)
                        have h78 : a.tmps.getD 78 undef = .string h.src := UP.out.dep 4 (by kernel_rfl)
                        exact wpOp_value (v := .bool false) rfl (by kernel_rfl) (by go_simp) ⟨_, rfl, trivial, UP.out.inv, rfl⟩
                      · obtain rfl : w1 = wd := UP.out.inv
                        have e1 := BD.out.dst
                        have e2 := BD.out.src
                        have h79 : a.tmps.getD 79 undef = .bool false := UP.out.dep 5 (by kernel_rfl)
                        exact wpOp_value (v := .bool false) rfl (by kernel_rfl) (by go_simp) ⟨_, rfl, trivial, UP.out.inv, rfl⟩
                      · obtain rfl : w1 = wd := UP.out.inv
                        have e1 := BD.out.dst
                        have e2 := BD.out.src
                        have hg : a.tmps.getD 80 undef = .bool false := UP.out.dep 6 (by kernel_rfl)
                        exact wpOp_skip rfl (wanted_no rfl (by kernel_rfl) hg (by decide)) ⟨_, rfl, trivial, UP.out.inv, rfl⟩
                      · obtain rfl : w1 = wd := UP.out.inv
                        have e1 := BD.out.dst
                        have e2 := BD.out.src
                        have hg : a.tmps.getD 80 undef = .bool false := UP.out.dep 6 (by kernel_rfl)
                        exact wpOp_skip rfl (wanted_no rfl (by kernel_rfl) hg (by decide)) ⟨_, rfl, trivial, UP.out.inv, rfl⟩
                      · obtain rfl : w1 = wd := UP.out.inv
                        have e1 := BD.out.dst
                        have e2 := BD.out.src
                        have hg : a.tmps.getD 80 undef = .bool false := UP.out.dep 6 (by kernel_rfl)
                        exact wpOp_skip rfl (wanted_no rfl (by kernel_rfl) hg (by decide)) ⟨_, rfl, trivial, UP.out.inv, rfl⟩
                      · obtain rfl : w1 = wd := UP.out.inv
                        have e1 := BD.out.dst
                        have e2 := BD.out.src
                        have hg : a.tmps.getD 80 undef = .bool false := UP.out.dep 6 (by kernel_rfl)
                        exact wpOp_skip rfl (wanted_no rfl (by kernel_rfl) hg (by decide)) ⟨_, rfl, trivial, UP.out.inv, rfl⟩
                      · obtain rfl : w1 = wd := UP.out.inv
                        have e1 := BD.out.dst
                        have e2 := BD.out.src
                        have hg : a.tmps.getD 80 undef = .bool false := UP.out.dep 6 (by kernel_rfl)
                        exact wpOp_skip rfl (wanted_no rfl (by kernel_rfl) hg (by decide)) ⟨_, rfl, trivial, UP.out.inv, rfl⟩
                      · obtain rfl : w1 = wd := UP.out.inv
                        have e1 := BD.out.dst
                        have e2 := BD.out.src
                        have hg : a.tmps.getD 80 undef = .bool false := UP.out.dep 6 (by kernel_rfl)
                        exact wpOp_skip rfl (wanted_no rfl (by kernel_rfl) hg (by decide)) ⟨_, rfl, trivial, UP.out.inv, rfl⟩
                      · obtain rfl : w1 = wd := UP.out.inv
                        have e1 := BD.out.dst
                        have e2 := BD.out.src
                        have hg : a.tmps.getD 80 undef = .bool false := UP.out.dep 6 (by kernel_rfl)
                        exact wpOp_skip rfl (wanted_no rfl (by kernel_rfl) hg (by decide)) ⟨_, rfl, trivial, UP.out.inv, rfl⟩
                      · obtain rfl : w1 = wd := UP.out.inv
                        have e1 := BD.out.dst
                        have e2 := BD.out.src
                        have hg : a.tmps.getD 80 undef = .bool false := UP.out.dep 6 (by kernel_rfl)
                        exact wpOp_skip rfl (wanted_no rfl (by kernel_rfl) hg (by decide)) ⟨_, rfl, trivial, UP.out.inv, rfl⟩
                      · obtain rfl : w1 = wd := UP.out.inv
                        have e1 := BD.out.dst
                        have e2 := BD.out.src
                        have hg : a.tmps.getD 80 undef = .bool false := UP.out.dep 6 (by kernel_rfl)
                        exact wpOp_skip rfl (wanted_no rfl (by kernel_rfl) hg (by decide)) ⟨_, rfl, trivial, UP.out.inv, rfl⟩
                      · obtain rfl : w1 = wd := UP.out.inv
                        have e1 := BD.out.dst
                        have e2 := BD.out.src
                        have hg : a.tmps.getD 80 undef = .bool false := UP.out.dep 6 (by kernel_rfl)
                        exact wpOp_skip rfl (wanted_no rfl (by kernel_rfl) hg (by decide)) ⟨_, rfl, trivial, UP.out.inv, rfl⟩
                      · obtain rfl : w1 = wd := UP.out.inv
                        have e1 := BD.out.dst
                        have e2 := BD.out.src
                        have hg : a.tmps.getD 80 undef = .bool false := UP.out.dep 6 (by kernel_rfl)
                        exact wpOp_skip rfl (wanted_no rfl (by kernel_rfl) hg (by decide)) ⟨_, rfl, trivial, UP.out.inv, rfl⟩
                      · obtain rfl : w1 = wd := UP.out.inv
                        have e1 := BD.out.dst
                        have e2 := BD.out.src
                        have hg : a.tmps.getD 80 undef = .bool false := UP.out.dep 6 (by kernel_rfl)
                        exact wpOp_skip rfl (wanted_no rfl (by kernel_rfl) hg (by decide)) ⟨_, rfl, trivial, UP.out.inv, rfl⟩
                      · obtain rfl : w1 = wd := UP.out.inv
                        have e1 := BD.out.dst
                        have e2 := BD.out.src
                        have hg : a.tmps.getD 80 undef = .bool false := UP.out.dep 6 (by kernel_rfl)
                        exact wpOp_skip rfl (wanted_no rfl (by kernel_rfl) hg (by decide)) ⟨_, rfl, trivial, UP.out.inv, rfl⟩
                      · obtain rfl : w1 = wd := UP.out.inv
                        have e1 := BD.out.dst
                        have e2 := BD.out.src
                        have hg : a.tmps.getD 80 undef = .bool false := UP.out.dep 6 (by kernel_rfl)
                        exact wpOp_skip rfl (wanted_no rfl (by kernel_rfl) hg (by decide)) ⟨_, rfl, trivial, UP.out.inv, rfl⟩
                      · obtain rfl : w1 = wd := UP.out.inv
                        have e1 := BD.out.dst
                        have e2 := BD.out.src
                        have h80 : a.tmps.getD 80 undef = .bool false := UP.out.dep 6 (by kernel_rfl)
                        have h94 : a.tmps.getD 94 undef = undef := UP.out.dep 20 (by kernel_rfl)
                        exact wpOp_value (v := .bool false) rfl (by kernel_rfl) (by go_simp) ⟨_, rfl, trivial, UP.out.inv, rfl⟩
                      · exact absurd HI.out (by simp)
                    · intro vs w' hinv hR
                      have r0 : vs 0 = .pointer (some ⟨b15, 0, none⟩) := hR 0 (by decide)
                      have r1 : vs 1 = .pointer (some ⟨b15, 1, none⟩) := hR 1 (by decide)
                      have r2 : vs 2 = .string g.dst := hR 2 (by decide)
                      have r3 : vs 3 = .pointer (some ⟨b17, 0, none⟩) := hR 3 (by decide)
                      have r4 : vs 4 = .string h.src := hR 4 (by decide)
                      have r5 : vs 5 = .bool false := hR 5 (by decide)
                      have r6 : vs 6 = .bool false := hR 6 (by decide)
                      have r7 : vs 7 = undef := hR 7 (by decide)
                      have r8 : vs 8 = undef := hR 8 (by decide)
                      have r9 : vs 9 = undef := hR 9 (by decide)
                      have r10 : vs 10 = undef := hR 10 (by decide)
                      have r11 : vs 11 = undef := hR 11 (by decide)
                      have r12 : vs 12 = undef := hR 12 (by decide)
                      have r13 : vs 13 = undef := hR 13 (by decide)
                      have r14 : vs 14 = undef := hR 14 (by decide)
                      have r15 : vs 15 = undef := hR 15 (by decide)
                      have r16 : vs 16 = undef := hR 16 (by decide)
                      have r17 : vs 17 = undef := hR 17 (by decide)
                      have r18 : vs 18 = undef := hR 18 (by decide)
                      have r19 : vs 19 = undef := hR 19 (by decide)
                      have r20 : vs 20 = undef := hR 20 (by decide)
                      have r21 : vs 21 = .bool false := hR 21 (by decide)
                      simp only [putFrom, Act.put, List.setIfInBounds_toArray, List.set_cons_zero, List.set_cons_succ, r0, r1, r2, r3, r4, r5, r6, r7, r8, r9, r10, r11, r12, r13, r14, r15, r16, r17, r18, r19, r20, r21]
                      have HV := Lib.hid hinv
                      have HR := Lib.hid hR
                      clear hinv hR r0 r1 r2 r3 r4 r5 r6 r7 r8 r9 r10 r11 r12 r13 r14 r15 r16 r17 r18 r19 r20 r21
                      have hfin : w' = wd := HV.out
                      subst hfin
                      go_wp2
                      go_roundg (l.length - (i + 1))
                      case measure => have := HN.out; omega
                      case rel => exact ⟨i + 1, by go_num, Lib.hid (by omega), Lib.hid rfl, Lib.hid ⟨all2, av2, s2, CD.out, HGD.out, HFF.out, fun j x hj hx e => by
                        by_cases eji : j = i
                        · subst eji
                          rw [HH.out] at hx
                          rw [← Option.some.inj hx] at e
                          exact absurd e HDST.out
                        · exact HDN.out j x (by omega) hx e, by rw [HMS.out]; exact BD.out.r15, HNE.out, BD.out.way⟩⟩
                · have hib : decide ((i : Int) < (l.length : Int)) = false := decide_eq_false (by omega)
                  have HNX := Lib.hid (hclo.next hgd (fun j x hj e => hdn j x (by have := (List.getElem?_eq_some_iff.1 hj).1; rw [HFL.out] at this; omega) hj e))
                  have HF2 := Lib.hid hff
                  clear hclo hgd hff hdn hr15 hne15 hway HC
                  go_wp2
                  go_roundg (2001 - (d + 1))
                  case measure => have := HNN.out; have := HD.out; have := HFEW.out; omega
                  case rel => exact Lib.hid ⟨d + 1, all2, av2, s2, rr + 1, HNX.out, rfl, HF2.out⟩
            · have hq := HCL.out.cs.hc
              rw [List.drop_of_length_le (by omega)] at hq
              have HQ := Lib.hid hq
              clear hq
              refine sem_default (c := cb) (cap := cap) (s := s) (r := rr) (tm := false) (z := .agg m0.toArray) (w' := wx) rfl rfl (exec_select rfl rfl) HQ.out ?_
              refine sem_value (v := .int .i64 (-1)) (w' := wx) rfl rfl (by go_simp) ?_
              refine sem_value (v := .bool false) (w' := wx) rfl rfl (by go_simp) ?_
              refine sem_of_ops ?_
              simp only [List.getElem_toArray, List.getElem_cons_zero, List.getElem_cons_succ, Act.put, List.setIfInBounds_toArray, List.set_cons_zero, List.set_cons_succ]
              refine (show Exit.then _ _ Exit.normal _ _ from ?_)
              have hde : d = all.length := by have := HCL.out.ele; omega
              have cq : wx.cell? ⟨q, 0, none⟩ = some av := cell_of_row _ _ 0 _ _ _ HCL.out.cs.hq
              obtain ⟨aA, aC, rfl, haC, _⟩ := own_slice HCL.out.cs.own
              have HDE := Lib.hid hde
              have HAC := Lib.hid haC
              clear hd hde haC
              go_wp2
              go_ret2
              refine ⟨HCL.out.b, .inr (.inr ⟨by assumption, OKL.out, .inr ⟨all, aA, aC, rfl, HAC.out, HCL.out.few, ?_, HCL.out.cs.ok, HCL.out.cs.one, HCL.out.work.nd, ?_, by rw [← HFS.out]; exact HCL.out.ways⟩⟩)⟩
              · intro hne
                have h0 : 0 < all.length := by
                  rcases Nat.eq_zero_or_pos all.length with h | h
                  · exact absurd (List.length_eq_zero_iff.1 h) hne
                  · exact h
                obtain ⟨gA, e, _⟩ := own_range HCL.out.cs.own rfl (fun x hx => mC_len (HCL.out.cs.ok x hx) x.2) (List.getElem?_eq_getElem h0)
                refine ⟨gA, 0, e, fun idx g sv hi => ?_⟩
                obtain ⟨g2, e2, hr2⟩ := own_range HCL.out.cs.own rfl (fun x hx => mC_len (HCL.out.cs.ok x hx) x.2) hi
                rw [e] at e2
                injection e2 with e2
                injection e2 with e2
                subst e2
                rw [Nat.zero_add]
                exact hr2
              · rw [← HFS.out]
                have hwk := HCL.out.work
                rw [HDE.out, show all.length = (all.map (·.1)).length by simp] at hwk
                exact hwk.all HFF.out
end Go.Proofs.Ytdinmdjdkhlgcaa
