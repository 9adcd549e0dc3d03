/- Graphs as keys: each reads as one; two are equal where they read alike. -/
import Derived.Test.YtdinmdjdkhlgcaaThen
import Derived.DeepKeys4
import Derived.WideKeyArr
namespace Go.Proofs.Ytdinmdjdkhlgcaa
open Go.RowKit
set_option linter.unusedVariables false
set_option linter.unusedSimpArgs false

theorem laidOutP : laidOutB Try.prog = true := by kernel_rfl
theorem kt78 : Try.prog.keyType 78 = true := by kernel_rfl
theorem kt78at : Try.prog.keyTypeAt 5 78 = true := by kernel_rfl
theorem sz78 : Try.prog.cellsOf 78 = 38 := by kernel_rfl
theorem sz76 : Try.prog.cellsOf 76 = 36 := by kernel_rfl
theorem sz75 : Try.prog.cellsOf 75 = 6 := by kernel_rfl
theorem sz5 : Try.prog.cellsOf 5 = 1 := by kernel_rfl
theorem sz9 : Try.prog.cellsOf 9 = 1 := by kernel_rfl
theorem ntypes : 79 ≤ Try.prog.types.size := of_decide_eq_true (by kernel_rfl)
theorem wide78 : (match Try.prog.underlying 78 with | some (.array _ _) | some (.struct _) => true | _ => false) = true := by kernel_rfl
set_option maxRecDepth 100000 in
theorem law78 : WideMaps.KeyLaw Try.prog 78 := deep_law_laid laidOutP (m := 5) (k := 78) (by omega) (Nat.lt_of_lt_of_le (by decide) ntypes) kt78at wide78
theorem mapM_some {α β : Type} {f : α → Option β} : ∀ {l : List α}, (∀ x ∈ l, ∃ y, f x = some y) → ∃ ys, l.mapM f = some ys
  | [], _ => ⟨[], by simp⟩
  | x :: l, h => by
    obtain ⟨y, hy⟩ := h x (List.mem_cons_self ..)
    obtain ⟨ys, hys⟩ := mapM_some (l := l) fun z hz => h z (List.mem_cons_of_mem _ hz)
    exact ⟨y :: ys, by simp [hy, hys]⟩
theorem lits5 (d : Nat) (x : Int) (h : 0 ≤ x ∧ x ≤ 2) : ∃ l, Try.prog.keyLits (d + 1) 5 [.int .u8 x] = some l := by
  unfold Program.keyLits
  rw [Try.underlying5]
  have hw : (Lit.int .u8 x).wf = true := by
    simp [Lit.wf, IntKind.min, IntKind.max, IntKind.bits, IntKind.signed]
    omega
  exact ⟨[.int .u8 x], by simp [hw]⟩
theorem lits9 (d : Nat) (s : ByteArray) (h : s.size ≤ maxLen) : ∃ l, Try.prog.keyLits (d + 1) 9 [.string s] = some l := by
  unfold Program.keyLits
  rw [Try.underlying9]
  exact ⟨[.string s.data.toList], by simp [h]⟩
theorem lits75 (d : Nat) (l : List Int) (hl : l.length = 6) (h : ∀ x ∈ l, 0 ≤ x ∧ x ≤ 2) : ∃ r, Try.prog.keyLits (d + 2) 75 (l.map (Value.int .u8)) = some r := by
  unfold Program.keyLits
  rw [Try.underlying75]
  dsimp only
  rw [if_pos (by rw [sz75, List.length_map, hl]), sz5]
  obtain ⟨ys, hys⟩ := mapM_some (f := fun i => Try.prog.keyLits (d + 1) 5 (((l.map (Value.int .u8)).drop (i * 1)).take 1)) (l := List.range 6) fun i hi => by
    have hi6 := List.mem_range.1 hi
    have he : ((l.map (Value.int .u8)).drop (i * 1)).take 1 = [.int .u8 (l[i]'(by omega))] := by
      rw [Nat.mul_one, List.drop_eq_getElem_cons (by simp; omega), List.take_succ_cons, List.take_zero, List.getElem_map]
    rw [he]
    exact lits5 d _ (h _ (List.getElem_mem _))
  rw [hys]
  exact ⟨_, rfl⟩
theorem lits76 (d : Nat) (l : List Int) (hl : l.length = 36) (h : ∀ x ∈ l, 0 ≤ x ∧ x ≤ 2) : ∃ r, Try.prog.keyLits (d + 3) 76 (l.map (Value.int .u8)) = some r := by
  unfold Program.keyLits
  rw [Try.underlying76]
  dsimp only
  rw [if_pos (by rw [sz76, List.length_map, hl]), sz75]
  obtain ⟨ys, hys⟩ := mapM_some (f := fun i => Try.prog.keyLits (d + 2) 75 (((l.map (Value.int .u8)).drop (i * 6)).take 6)) (l := List.range 6) fun i hi => by
    have hi6 := List.mem_range.1 hi
    rw [← List.map_drop, ← List.map_take]
    exact lits75 d _ (by simp; omega) fun x hx => h x (List.mem_of_mem_drop (List.mem_of_mem_take hx))
  rw [hys]
  exact ⟨_, rfl⟩
theorem lits78 (d : Nat) (g : Gr) (ok : g.Ok) : ∃ r, Try.prog.keyLits (d + 4) 78 (gC g) = some r := by
  unfold Program.keyLits
  rw [Try.underlying78]
  dsimp only
  rw [if_pos ⟨by rw [sz78, gC_len ok], by kernel_rfl⟩]
  obtain ⟨a, ha⟩ := lits9 (d + 2) g.src ok.hs
  obtain ⟨b, hb⟩ := lits9 (d + 2) g.dst ok.hd
  obtain ⟨c, hc⟩ := lits76 d g.arcs ok.len ok.val
  have ea : ((gC g).drop 0).take (Try.prog.cellsOf 9) = [.string g.src] := by rw [sz9]; rfl
  have eb : ((gC g).drop 1).take (Try.prog.cellsOf 9) = [.string g.dst] := by rw [sz9]; rfl
  have ec : ((gC g).drop 2).take (Try.prog.cellsOf 76) = g.arcs.map (Value.int .u8) := by
    rw [sz76]
    show (g.arcs.map (Value.int .u8)).take 36 = _
    rw [List.take_of_length_le (by simp [ok.len])]
  simp only [List.mapM_cons, List.mapM_nil, ea, eb, ec, ha, hb, hc, Option.pure_def, Option.bind_eq_bind, Option.bind_some, Option.map_some]
  exact ⟨_, rfl⟩
theorem key78 (g : Gr) (ok : g.Ok) : ∃ l, keyOf Try.prog 78 (gV g) = some l := by
  obtain ⟨n, hn⟩ : ∃ n, Try.prog.types.size + 1 = n + 4 := ⟨Try.prog.types.size - 3, by have := ntypes; omega⟩
  obtain ⟨r, hr⟩ := lits78 n g ok
  unfold keyOf
  rw [Try.underlying78]
  dsimp only
  have hfm : (gV g).formed Try.prog 78 = true := by
    unfold Value.formed
    rw [Try.underlying78]
    dsimp only
    rw [sz78]
    simpa using gC_len ok
  rw [kt78, hfm, hn]
  simp only [Bool.and_self, if_true]
  have hc : (gV g).cells.toList = gC g := by simp [Value.cells]
  rw [hc, hr]
  exact ⟨_, rfl⟩
theorem gV_inj {g h : Gr} (e : gV g = gV h) : g = h := by
  have e1 : gC g = gC h := by simpa [gV] using e
  unfold gC at e1
  simp only [List.cons.injEq, Value.string.injEq] at e1
  obtain ⟨a, b, c⟩ := e1
  have hm : ∀ {l k : List Int}, l.map (Value.int .u8) = k.map (Value.int .u8) → l = k := by
    intro l
    induction l with
    | nil => intro k h; cases k with
      | nil => rfl
      | cons => simp at h
    | cons x l ih => intro k h; cases k with
      | nil => simp at h
      | cons y k =>
        simp only [List.map_cons, List.cons.injEq, Value.int.injEq, true_and] at h
        rw [h.1, ih h.2]
  cases g
  cases h
  simp only at a b c
  rw [a, b, hm c]
instance : DecidableEq Gr := fun a b => if h : a.src = b.src ∧ a.dst = b.dst ∧ a.arcs = b.arcs then .isTrue (by
    cases a
    cases b
    simp only at h
    rw [h.1, h.2.1, h.2.2]) else .isFalse (fun e => h (by rw [e]; exact ⟨rfl, rfl, rfl⟩))
set_option maxRecDepth 100000 in
/-- Two graphs compared with ==. -/
theorem run_eql78 {g h : Gr} (og : g.Ok) (oh : h.Ok) (w : World) : (binOp .eql 78 (gV g) (gV h)).run Try.prog w = .ok (.bool (decide (g = h))) w := by
  obtain ⟨lx, hx⟩ := key78 g og
  obtain ⟨ly, hy⟩ := key78 h oh
  obtain ⟨r, hr, hiff⟩ := run_equal_deep w (m := 5) (by omega) kt78at wide78 hx hy
  have e : r = decide (g = h) := by
    rw [Bool.eq_iff_iff, hiff, decide_eq_true_iff]
    constructor
    · intro e
      subst e
      exact gV_inj (law78.inj hx hy)
    · intro e
      subst e
      rw [hx] at hy
      exact Option.some.inj hy
  rw [← e]
  simp only [binOp]
  simp [hr]
theorem guard78 (x y : Operand) (xs ys : Array Value) (w : World) : (eqGuard .eql 78 x y (.agg xs) (.agg ys)).run Try.prog w = .ok () w := run_eqGuard_agg w .eql 78 x y xs ys (by kernel_rfl)
end Go.Proofs.Ytdinmdjdkhlgcaa
