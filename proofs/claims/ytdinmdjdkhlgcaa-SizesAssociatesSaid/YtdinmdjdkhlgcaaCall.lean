/- The call of a graph. -/
import Derived.Test.YtdinmdjdkhlgcaaArcs
namespace Go.Proofs.Ytdinmdjdkhlgcaa
open Go.RowKit Go.Proofs.YtdinmdjdkhlgcaaW.PrintWords Go.Proofs.Ytdinmdjdkhlgcaa.Sz
set_option linter.unusedVariables false
set_option linter.unusedSimpArgs false

theorem info34 : (Try.prog.info? 34).map (·.size) = some 3 := by kernel_rfl
abbrev z75 : List Value := [.int .u8 0, .int .u8 0, .int .u8 0, .int .u8 0, .int .u8 0, .int .u8 0]
theorem zero75 (w : World) : (zeroValue 75).run Try.prog w = .ok (.agg z75.toArray) w := by kernel_rfl
theorem info76 : (Try.prog.info? 76).map (·.size) = some 36 := by kernel_rfl
def arC (g : Gr) : List Value := g.arcs.map (Value.int .u8)
theorem arC_len {g : Gr} (ok : g.Ok) : (arC g).length = 36 := by simp [arC, ok.len]
theorem arC_range {w : World} {b : Nat} {g : Gr} (h : GrAt w b g) : w.rangeAt b 2 (arC g) := fun j v hj => by
  have := h.range (2 + j) v (by
    show (gC g)[2 + j]? = some v
    rw [show 2 + j = j + 1 + 1 by omega]
    exact hj)
  rwa [Nat.zero_add] at this
theorem arC_at {g : Gr} (ok : g.Ok) {i k : Nat} (hi : i < 6) (hk : k < 6) : (arC g)[i * 6 + k]? = some (.int .u8 (g.at i k)) := by
  have := gC_at ok hi hk
  rw [show 2 + i * 6 + k = (i * 6 + k) + 1 + 1 by omega] at this
  exact this
/-- A row of the table. -/
theorem run_row76 {ar : List Value} (hl : ar.length = 36) {i : Nat} (hi : i < 6) : ∃ rg : List Value, rg.length = 6 ∧ (∀ k, k < 6 → rg[k]? = ar[i * 6 + k]?) ∧ ∀ w, (Instr.index 76 (.agg ar.toArray) (.int .i64 i)).run Try.prog w = .ok (.agg rg.toArray) w := by
  refine ⟨(ar.drop (i * 6)).take 6, by simp [hl]; omega, fun k hk => by rw [List.getElem?_take_of_lt hk, List.getElem?_drop], fun w => ?_⟩
  have h5 : (sizeOf 75).run Try.prog w = .ok 6 w := by kernel_rfl
  have ha : (isAgg 75).run Try.prog w = .ok true w := by kernel_rfl
  simp only [Instr.index, asIntOf, Sem.run_bind, Sem.run_pure, Result.andThen_ok, run_underlying Try.underlying76]
  rw [if_pos (by omega), Int.toNat_natCast, Sem.run_bind, h5, Result.andThen_ok]
  unfold part
  simp only [Sem.run_bind, ha, Result.andThen_ok, if_true, h5, Sem.run_pure]
  refine congrArg (fun a => Result.ok (Value.agg a) w) ?_
  apply Array.ext_getElem?
  intro k
  rw [Array.getElem?_extract, List.getElem?_toArray, List.getElem?_toArray, List.size_toArray, hl]
  by_cases hk : k < 6
  · rw [if_pos (by omega), List.getElem?_take_of_lt hk, List.getElem?_drop]
  · rw [if_neg (by omega), List.getElem?_eq_none (by rw [List.length_take]; omega)]
theorem exec_build3 {o : Oper} {a : Act} {t : TypeId} {x y z : Operand} {vx vy vz v : Value} {w : World} (ho : o.op = .build t #[(0, x), (1, y), (2, z)]) (hx : a.eval x = vx) (hy : a.eval y = vy) (hz : a.eval z = vz) (hr : (Instr.build t #[(0, vx), (1, vy), (2, vz)]).run Try.prog w = .ok v w) : (execOp a.eval o).run Try.prog w = .ok (.value v) w := by
  unfold execOp
  simp only [ho, List.map_toArray, List.map_cons, List.map_nil, hx, hy, hz]
  exact run_val hr
theorem build24 (a : S24) (w : World) : (Instr.build 24 #[(0, .int .i64 a.f0), (1, .int .i64 a.f1), (2, .bool a.f2)]).run Try.prog w = .ok (.agg (c24 a).toArray) w := by kernel_rfl
/-- The arcs of an own row, as the printed contracts want them. -/
theorem own_kd {w : World} {B : Nat} {A : Option Addr} {c : Nat} {l : List S24} (h : w.ownsRow B 24 3 (.slice A l.length c) l.length (l.flatMap c24)) (hl : l.length ≤ 1000) : l.length ≤ c ∧ Kd.C k24 w A l.length l := by
  obtain ⟨fa, fc, e, h1, h2⟩ := own_slice h
  injection e with e1 e2 e3
  subst e1
  subst e3
  refine ⟨h1, rfl, by omega, fun hp => ?_⟩
  obtain ⟨g, rfl, hc⟩ := h2 (by omega)
  refine ⟨⟨g, 0, none⟩, rfl, fun i y hy => ⟨_, rfl, k24_mk w y, fun j u hj => ?_⟩⟩
  have e : (⟨g, 0, none⟩ : Addr).add (i * k24.sz + j) = ⟨g, i * 3 + j, none⟩ := by
    rw [Addr.add_mid, Nat.zero_add]
    rfl
  rw [e]
  exact hc _ _ (flat_at (f := c24) (fun x _ => rfl) hy hj)
def CallPost (g : Gr) (w : World) (e : Ending) (w' : World) : Prop := ∃ A c, e = .returned (.agg #[.string g.src, .string g.dst, .slice A (arcsTo g 36).length c]) ∧ (arcsTo g 36).length ≤ c ∧ Kd.C k24 w' A (arcsTo g 36).length (arcsTo g 36) ∧ (∀ a, A = some a → w.heap.size ≤ a.block) ∧ Below w.heap.size w w'
set_option maxHeartbeats 40000000 in
set_option maxRecDepth 100000 in
theorem call_calls (g : Gr) (ok : g.Ok) (w : World) : Calls Try.prog 41 #[gV g] w (CallPost g w) := by
  have hu34 := Try.underlying34
  have hu24 := Try.underlying24
  have hu78 := Try.underlying78
  have hu76 := Try.underlying76
  have hu75 := Try.underlying75
  have hu32 := Try.underlying32
  have e0 := gC0 g
  have e1 := gC1 g
  have OK := Lib.hid ok
  have C0 : Hid (Cal w (((w.alloc (gB g)).alloc (.cells #[.string ⟨#[]⟩, .string ⟨#[]⟩, .slice none 0 0] 34)).alloc (.cells #[.string g.src, .string g.dst, .slice none 0 0] 34)) g (.slice none 0 0) []) := Lib.hid (by
    have h1 := GrAt.new w g
    have h2 := heap_alloc_new (w.alloc (gB g)) (.cells #[.string ⟨#[]⟩, .string ⟨#[]⟩, .slice none 0 0] 34)
    have h3 := heap_alloc_new ((w.alloc (gB g)).alloc (.cells #[.string ⟨#[]⟩, .string ⟨#[]⟩, .slice none 0 0] 34)) (.cells #[.string g.src, .string g.dst, .slice none 0 0] 34)
    have hb : ∀ (v : World) (o : Obj), Below v.heap.size v (v.alloc o) := fun v o => (Below.refl _ _).alloc (Nat.le_refl _) o
    simp only [size_alloc] at h2 h3
    exact ⟨((Below.refl _ _).alloc (Nat.le_refl _) _).alloc (by simp) _ |>.alloc (by simp; omega) _, (h1.below (hb _ _)).below (hb _ _), row_below h2 (hb _ _), h3, ⟨rfl, .inl ⟨rfl, rfl⟩⟩⟩)
  obtain ⟨cs, hcs⟩ : ∃ cs, cs = (gC g).toArray := ⟨_, rfl⟩
  simp only [gB] at C0
  obtain ⟨ar, har⟩ : ∃ ar, ar = arC g := ⟨_, rfl⟩
  have HAL : Hid (ar.length = 36) := Lib.hid (by rw [har]; exact arC_len ok)
  have HAT : Hid (∀ i k, i < 6 → k < 6 → ar[i * 6 + k]? = some (.int .u8 (g.at i k))) := Lib.hid (fun i k hi hk => by rw [har]; exact arC_at ok hi hk)
  have HAR : Hid (∀ w' av l, Cal w w' g av l → w'.rangeAt w.heap.size 2 ar) := Lib.hid (fun w' av l h => by rw [har]; exact arC_range h.g0)
  clear har hcs ok
  go_enter Try.func41, Try.ntmps41
  go_upto_region 2 with fail
  obtain ⟨W, hW⟩ : ∃ W, W = (((w.alloc (.cells (gC g).toArray 78)).alloc (.cells #[.string ⟨#[]⟩, .string ⟨#[]⟩, .slice none 0 0] 34)).alloc (.cells #[.string g.src, .string g.dst, .slice none 0 0] 34)) := ⟨_, rfl⟩
  rw [← hW] at C0 ⊢
  clear hW e0 e1
  have hra := HAR.out _ _ _ C0.out
  refine wp_region_list ?_
  dsimp only [List.toList_toArray]
  refine wpList_val (v := .pointer (some ⟨w.heap.size, 2, none⟩)) (w' := W) rfl (by go_simp) ?_
  refine wpList_loadv rfl rfl rfl (run_loadAt_mid W w.heap.size 2 76 ar _ hra hu76 rfl (by rw [HAL.out]; exact info76)) ?_
  refine wpList_val (v := .int .i64 0) (w' := W) rfl (by go_simp) ?_
  refine wpList_nil ?_
  simp only [Act.put, List.setIfInBounds_toArray, List.set_cons_zero, List.set_cons_succ]
  clear hra
  go_wp2
  go_loopg [15] 6 (fun n v15 wr => ∃ (i : Nat) (av : Value), v15 = .int .i64 i ∧ Hid (i ≤ 6) ∧ Hid (n = 6 - i) ∧ Hid (Cal w wr g av (arcsTo g (i * 6))))
  case atStart => exact ⟨0, _, rfl, Lib.hid (by omega), Lib.hid rfl, C0⟩
  case round =>
    clear C0
    obtain ⟨i, av, rfl, HI, HN, M⟩ := hrel
    by_cases h6 : i < 6
    · have hb : decide ((i : Int) < 6) = true := decide_eq_true (by omega)
      obtain ⟨rg, hrl, hrg, hix⟩ := run_row76 HAL.out h6
      have RS := Lib.hid hrl
      have RG : Hid (∀ k, k < 6 → rg.toArray[k]? = some (.int .u8 (g.at i k))) := Lib.hid (fun k hk => by rw [List.getElem?_toArray, hrg k hk]; exact HAT.out i k h6 hk)
      have HIX := Lib.hid hix
      have ones : ∀ v ∈ rg, v.oneCell' = true := by
        intro v hv
        obtain ⟨k, hk⟩ := List.getElem?_of_mem hv
        have := RG.out k (by have := (List.getElem?_eq_some_iff.1 hk).1; omega)
        rw [List.getElem?_toArray, hk] at this
        rw [Option.some.inj this]
        rfl
      have hst : (Instr.storeAt 75 (.pointer (some ⟨wr.heap.size, 0, none⟩)) (.agg rg.toArray)).run Try.prog (wr.alloc (.cells z75.toArray 75)) = .ok () (wr.alloc (.cells rg.toArray 75)) := by
        have := run_storeAt_row (w := wr.alloc (.cells z75.toArray 75)) (b := wr.heap.size) (ty := 75) (ty' := 75) (cs := rg) (z := z75.toArray) (heap_alloc_new wr _) (by rw [hrl]; rfl) ones (by rw [hrl]; exact info75)
        rw [this, World.setRow_alloc_new]
      have HST := Lib.hid hst
      have hrow : (wr.alloc (.cells rg.toArray 75)).rangeAt wr.heap.size 0 rg := range_row (heap_alloc_new wr _)
      have M1 : Hid (Cal w (wr.alloc (.cells rg.toArray 75)) g av (arcsTo g (i * 6))) := Lib.hid (M.out.below ((Below.refl _ _).alloc (Nat.le_refl _) _))
      have HRW := Lib.hid hrow
      clear hrl hrg hix ones hst hrow M
      go_upto_region 4 with fail
      refine wp_region_list ?_
      dsimp only [List.toList_toArray]
      refine wpList_val (v := .int .i64 i) (w' := wr) rfl (by go_simp) ?_
      refine wpList_val (v := .agg rg.toArray) (w' := wr) rfl (by exact run_val (HIX.out wr)) ?_
      refine wpList_val (v := .pointer (some ⟨wr.heap.size, 0, none⟩)) (w' := (wr.alloc (.cells z75.toArray 75))) rfl (by go_simp) ?_
      refine wpList_val (v := .int .i64 i) (w' := (wr.alloc (.cells z75.toArray 75))) rfl (by go_simp) ?_
      refine wpList_unit (w' := wr.alloc (.cells rg.toArray 75)) rfl (by exact run_u HST.out) ?_
      refine wpList_nil ?_
      simp only [Act.put, List.setIfInBounds_toArray, List.set_cons_zero, List.set_cons_succ]
      go_upto_region 5 with fail
      obtain ⟨b5, hb5⟩ : ∃ b, b = wr.heap.size := ⟨_, rfl⟩
      generalize hW5 : wr.alloc (.cells rg.toArray 75) = W5 at *
      rw [← hb5] at HRW ⊢
      clear hW5 hb5 HST
      refine wp_region_list ?_
      dsimp only [List.toList_toArray]
      refine wpList_loadv rfl rfl rfl (run_loadAt_mid W5 b5 0 75 rg _ HRW.out hu75 rfl (by rw [RS.out]; exact info75)) ?_
      refine wpList_val (v := .int .i64 0) (w' := W5) rfl (by go_simp) ?_
      refine wpList_nil ?_
      simp only [Act.put, List.setIfInBounds_toArray, List.set_cons_zero, List.set_cons_succ]
      go_wp2
      obtain ⟨wo, rfl⟩ : ∃ wo : World, wo = wr := ⟨_, rfl⟩
      obtain ⟨go, rfl⟩ : ∃ go : Nat, go = gk := ⟨_, rfl⟩
      go_loopg [20] 6 (fun n v20 wr => ∃ (k : Nat) (av : Value), v20 = .int .i64 k ∧ Hid (k ≤ 6) ∧ Hid (n = 6 - k) ∧ Hid (Cal w wr g av (arcsTo g (i * 6 + k))))
      case atStart => exact ⟨0, _, rfl, Lib.hid (by omega), Lib.hid rfl, M1⟩
      case round =>
        clear M1
        obtain ⟨k, av, rfl, HK, HL, M⟩ := hrel
        by_cases k6 : k < 6
        · have hbk : decide ((k : Int) < 6) = true := decide_eq_true (by omega)
          have hidx := run_idx k6 (RG.out k k6)
          by_cases hpos : 0 < g.at i k
          · have hp1 : decide (0 < g.at i k) = true := decide_eq_true hpos
            obtain ⟨a, haa⟩ : ∃ a : S24, a = ⟨(i : Int), (k : Int), g.at i k == 2⟩ := ⟨_, rfl⟩
            have SN : Hid (arcsTo g (i * 6 + k) ++ [a] = arcsTo g (i * 6 + (k + 1))) := Lib.hid (by
              rw [← Nat.add_assoc, arcsTo_succ, arcOf_yes k6 hpos, haa])
            have hln := arcsTo_len g (i * 6 + k)
            have hb24 : ∀ w, (Instr.build 24 #[(0, .int .i64 (i : Int)), (1, .int .i64 (k : Int)), (2, .bool (g.at i k == 2))]).run Try.prog w = .ok (.agg (c24 a).toArray) w := fun w => by
              rw [haa]
              exact build24 ⟨(i : Int), (k : Int), g.at i k == 2⟩ w
            obtain ⟨av', W3, hap, hone, hc3, hf3, M3⟩ := M.out.put (by omega) a 32
            obtain ⟨fa, fc, rfl, _⟩ := own_slice M3.own
            generalize hnn : (arcsTo g (i * 6 + k) ++ [a]).length = nn at *
            clear hnn
            have hcav := cell_of_row _ _ 2 _ _ _ M.out.r2
            have hca : (.agg (c24 a).toArray : Value).cells = (c24 a).toArray := rfl
            have hcl : (c24 a).length = 3 := rfl
            have HAP := Lib.hid hap
            have HCA := Lib.hid hca
            have HCL := Lib.hid hcl
            have HB24 := Lib.hid hb24
            rw [SN.out] at M3
            have M3 := Lib.hid M3
            generalize c24 a = ca at *
            clear hap hca hcl hb24 haa hln SN hpos
            go_upto_region 9 with fail
            clear hidx
            have hav1 : W3.cell? ⟨w.heap.size + 1 + 1, 2, none⟩ = some av := hc3
            refine wp_region_list ?_
            dsimp only [List.toList_toArray]
            refine wpList_val (v := .pointer (some ⟨w.heap.size + 1 + 1, 2, none⟩)) (w' := wr) rfl (by go_simp) ?_
            refine wpList_val (v := av) (w' := wr) rfl (by go_simp) ?_
            refine wpList_val (v := .int .i64 i) (w' := wr) rfl (by go_simp) ?_
            refine wpList_val (v := .int .i64 k) (w' := wr) rfl (by go_simp) ?_
            refine wpList_val (v := .int .u8 (g.at i k)) (w' := wr) rfl (by go_simp) ?_
            refine wpList_val (v := .bool (g.at i k == 2)) (w' := wr) rfl (by go_simp) ?_
            simp only [Act.put, List.setIfInBounds_toArray, List.set_cons_zero, List.set_cons_succ]
            refine wpList_val (v := .agg ca.toArray) (w' := wr) rfl (exec_build3 rfl rfl rfl rfl (HB24.out wr)) ?_
            simp only [Act.put, List.setIfInBounds_toArray, List.set_cons_zero, List.set_cons_succ]
            refine wpList_val (v := .slice (some ⟨wr.heap.size, 0, none⟩) 1 1) (w' := (wr.alloc (.cells ca.toArray 24))) rfl (exec_slice1 rfl rfl hu32 info24z (by omega) (by omega) HCA.out HCL.out) ?_
            simp only [Act.put, List.setIfInBounds_toArray, List.set_cons_zero, List.set_cons_succ]
            refine wpList_val (v := .slice fa nn fc) (w' := W3) rfl (exec_append rfl rfl rfl HAP.out) ?_
            refine wpList_val (v := .pointer (some ⟨w.heap.size + 1 + 1, 2, none⟩)) (w' := W3) rfl (by go_simp) ?_
            refine wpList_unit (w' := W3.setCell ⟨w.heap.size + 1 + 1, 2, none⟩ (.slice fa nn fc)) rfl (by go_simp) ?_
            refine wpList_nil ?_
            simp only [Act.put, List.setIfInBounds_toArray, List.set_cons_zero, List.set_cons_succ]
            go_wp2
            go_roundg (6 - (k + 1))
            case measure => have := HL.out; omega
            case rel => exact ⟨k + 1, _, by go_num, Lib.hid (by omega), Lib.hid rfl, M3⟩
          · have hp1 : decide (0 < g.at i k) = false := decide_eq_false hpos
            have MM : Hid (Cal w wr g av (arcsTo g (i * 6 + (k + 1)))) := Lib.hid (by
              rw [← Nat.add_assoc, arcsTo_succ, arcOf_no k6 hpos, List.append_nil]
              exact M.out)
            clear M hpos
            go_wp2
            go_roundg (6 - (k + 1))
            case measure => have := HL.out; omega
            case rel => exact ⟨k + 1, _, by go_num, Lib.hid (by omega), Lib.hid rfl, MM⟩
        · have hbk : decide ((k : Int) < 6) = false := decide_eq_false (by omega)
          have MM : Hid (Cal w wr g av (arcsTo g ((i + 1) * 6))) := Lib.hid (by
            have : k = 6 := by have := HK.out; omega
            subst this
            have := M.out
            rwa [show i * 6 + 6 = (i + 1) * 6 by omega] at this)
          clear M
          go_wp2
          go_roundg (6 - (i + 1))
          case measure => have := HN.out; omega
          case rel => exact ⟨i + 1, _, by go_num, Lib.hid (by omega), Lib.hid rfl, MM⟩
    · have hb : decide ((i : Int) < 6) = false := decide_eq_false (by omega)
      have h36 : i * 6 = 36 := by have := HI.out; omega
      have hM := M.out
      rw [h36] at hM
      obtain ⟨A, c, rfl, _⟩ := own_slice hM.own
      have KD := Lib.hid (own_kd hM.own (by have := arcsTo_len g 36; omega))
      have NW : Hid (∀ a, A = some a → w.heap.size ≤ a.block) := Lib.hid (fun a ha => by
        subst ha
        have h0 := hM.own
        rcases h0.2 with ⟨e, _⟩ | ⟨gb, cap, cur, e, hb, _⟩
        · cases e
        · injection e with e1
          injection e1 with e1
          subst e1
          show w.heap.size ≤ gb
          omega)
      have hr3 := range_row hM.r2
      have hst := run_storeAt_row (ty := 34) (cs := [.string g.src, .string g.dst, .slice A (arcsTo g 36).length c]) hM.r1 rfl (by
        intro v hv
        simp only [List.mem_cons, List.not_mem_nil, or_false] at hv
        rcases hv with rfl | rfl | rfl <;> rfl) info34
      have hrow := setRow_heap wr (w.heap.size + 1) _ #[.string g.src, .string g.dst, .slice A (arcsTo g 36).length c] 34 (0, 0) hM.r1
      have B := Lib.hid (below_setRow hM.b (g := w.heap.size + 1) (by omega) #[.string g.src, .string g.dst, .slice A (arcsTo g 36).length c])
      have KD2 : Hid (Kd.C k24 (wr.setRow (w.heap.size + 1) #[.string g.src, .string g.dst, .slice A (arcsTo g 36).length c]) A (arcsTo g 36).length (arcsTo g 36)) := Lib.hid (own_kd (hM.own.kept (row := some (w.heap.size + 1)) ⟨by simp, by simp, by simp, by simp, fun k _ hk => Go.setRow_other wr _ k _ (fun e => hk (by rw [e]))⟩ (.inr fun e => by
        have := (hM.own.lt _ e).1
        omega)) (by have := arcsTo_len g 36; omega)).2
      have HR3 := Lib.hid hr3
      have HST := Lib.hid hst
      have HRW := Lib.hid hrow
      clear hr3 hst hrow hM M
      go_upto_region 12 with fail
      generalize wr.setRow (w.heap.size + 1) #[.string g.src, .string g.dst, .slice A (arcsTo g 36).length c] = W2 at *
      refine wp_region_list ?_
      dsimp only [List.toList_toArray]
      refine wpList_loadv rfl rfl rfl (run_loadAt_mid wr (w.heap.size + 1 + 1) 0 34 [.string g.src, .string g.dst, .slice A (arcsTo g 36).length c] _ HR3.out hu34 rfl info34) ?_
      refine wpList_unit (w' := W2) rfl (by exact run_u HST.out) ?_
      refine wpList_nil ?_
      simp only [Act.put, List.setIfInBounds_toArray, List.set_cons_zero, List.set_cons_succ]
      go_wp2
      refine bodyPost_ret (results_cell_row rfl _ _ (w.heap.size + 1) 34 _ (0, 0) _ rfl HRW.out hu34 rfl info34) rfl ?_
      exact ⟨A, c, rfl, KD.out.1, KD2.out, NW.out, B.out⟩
end Go.Proofs.Ytdinmdjdkhlgcaa
