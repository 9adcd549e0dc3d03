/- Graphs of the size-change calls: their cells, and descends. -/
import Derived.Test.YtdinmdjdkhlgcaaProg
import Derived.WalkKit
import Derived.KernelRfl
import Derived.Below
import Derived.Lib.Hide
import Derived.Outline
import Derived.Deep.LoopGhost
import Derived.Deep.MidRow
namespace Go.Proofs.Ytdinmdjdkhlgcaa
open Go.RowKit
set_option linter.unusedVariables false
set_option linter.unusedSimpArgs false

structure Gr where
  src : ByteArray
  dst : ByteArray
  arcs : List Int
/-- Six rows of six: no arc, an arc, a strict one. -/
structure Gr.Ok (g : Gr) : Prop where
  len : g.arcs.length = 36
  val : ∀ v ∈ g.arcs, 0 ≤ v ∧ v ≤ 2
  hs : g.src.size ≤ maxLen
  hd : g.dst.size ≤ maxLen
def gC (g : Gr) : List Value := .string g.src :: .string g.dst :: g.arcs.map (Value.int .u8)
abbrev gV (g : Gr) : Value := .agg (gC g).toArray
abbrev gB (g : Gr) : Obj := .cells (gC g).toArray 78
def Gr.at (g : Gr) (i k : Nat) : Int := g.arcs.getD (i * 6 + k) 0
theorem gC_len {g : Gr} (h : g.Ok) : (gC g).length = 38 := by simp [gC, h.len]
theorem gC_at {g : Gr} (h : g.Ok) {i k : Nat} (hi : i < 6) (hk : k < 6) : (gC g)[2 + i * 6 + k]? = some (.int .u8 (g.at i k)) := by
  unfold gC Gr.at
  rw [show 2 + i * 6 + k = (i * 6 + k) + 1 + 1 by omega, List.getElem?_cons_succ, List.getElem?_cons_succ, List.getElem?_map, List.getD_eq_getElem?_getD, List.getElem?_eq_getElem (by rw [h.len]; omega)]
  rfl
theorem Gr.Ok.bound {g : Gr} (h : g.Ok) (i k : Nat) : 0 ≤ g.at i k ∧ g.at i k ≤ 2 := by
  unfold Gr.at
  rw [List.getD_eq_getElem?_getD]
  cases hx : g.arcs[i * 6 + k]? with
  | none => simp
  | some v => exact h.val v (List.mem_of_getElem? hx)
/-- A graph lies in a block. -/
def GrAt (w : World) (b : Nat) (g : Gr) : Prop := w.heap[b]? = some (.cells (gC g).toArray 78 (0, 0))
theorem GrAt.cell {w : World} {b : Nat} {g : Gr} (h : GrAt w b g) (ok : g.Ok) {i k : Nat} (hi : i < 6) (hk : k < 6) : w.cell? ⟨b, 2 + i * 6 + k, none⟩ = some (.int .u8 (g.at i k)) := by
  rw [cell_of_row w b _ _ _ _ h, List.getElem?_toArray]
  exact gC_at ok hi hk
theorem GrAt.src {w : World} {b : Nat} {g : Gr} (h : GrAt w b g) : w.cell? ⟨b, 0, none⟩ = some (.string g.src) := by
  rw [cell_of_row w b _ _ _ _ h]
  rfl
theorem GrAt.dst {w : World} {b : Nat} {g : Gr} (h : GrAt w b g) : w.cell? ⟨b, 1, none⟩ = some (.string g.dst) := by
  rw [cell_of_row w b _ _ _ _ h]
  rfl
theorem GrAt.new (w : World) (g : Gr) : GrAt (w.alloc (gB g)) w.heap.size g := heap_alloc_new w _
theorem GrAt.below {w w' : World} {b : Nat} {g : Gr} (h : GrAt w b g) (hb : Below w.heap.size w w') : GrAt w' b g := (hb.block b (Array.getElem?_eq_some_iff.1 h).1).trans h
/-- Some argument becomes smaller. -/
def Gr.desc (g : Gr) : Bool := (List.range 6).any fun i => g.at i i == 2
theorem desc_yes {g : Gr} {i : Nat} (hi : i < 6) (h : g.at i i = 2) : g.desc = true := by
  unfold Gr.desc
  rw [List.any_eq_true]
  exact ⟨i, List.mem_range.2 hi, beq_iff_eq.2 h⟩
theorem desc_no {g : Gr} (h : ∀ i, i < 6 → g.at i i ≠ 2) : g.desc = false := by
  unfold Gr.desc
  rw [List.any_eq_false]
  intro i hi
  simpa using h i (List.mem_range.1 hi)
set_option maxHeartbeats 4000000 in
set_option maxRecDepth 100000 in
theorem descends_calls (g : Gr) (ok : g.Ok) (w : World) : Calls Try.prog 56 #[gV g] w fun e w' => e = .returned (.bool g.desc) ∧ Below w.heap.size w w' := by
  have hu78 := Try.underlying78
  have hu76 := Try.underlying76
  have hu75 := Try.underlying75
  have OK := Lib.hid ok
  have G0 := Lib.hid (GrAt.new w g)
  have B0 : Hid (Below w.heap.size w (w.alloc (gB g))) := Lib.hid ((Below.refl _ _).alloc (Nat.le_refl _) _)
  obtain ⟨cs, hcs⟩ : ∃ cs, cs = (gC g).toArray := ⟨_, rfl⟩
  rw [← hcs] at *
  clear ok hcs
  go_enter Try.func56, Try.ntmps56
  go_wp2
  go_loopg [4] 6 (fun n v4 wr => ∃ i : Nat, v4 = .int .i64 i ∧ Hid (i ≤ 6) ∧ Hid (n = 6 - i) ∧ Hid (GrAt wr w.heap.size g) ∧ Hid (Below w.heap.size w wr) ∧ Hid (∀ j, j < i → g.at j j ≠ 2))
  case atStart => exact ⟨0, rfl, Lib.hid (by omega), Lib.hid rfl, G0, B0, Lib.hid (by omega)⟩
  case round =>
    clear G0 B0
    obtain ⟨i, rfl, HI, HN, G, B, HS⟩ := hrel
    by_cases h6 : i < 6
    · have hb : decide ((i : Int) < 6) = true := decide_eq_true (by omega)
      have hc := G.out.cell OK.out h6 h6
      by_cases h2 : g.at i i = 2
      · have R := Lib.hid (desc_yes h6 h2)
        have hb2 : (g.at i i == 2) = true := beq_iff_eq.2 h2
        clear h2
        go_wp2
        go_ret
        exact ⟨by rw [R.out]; rfl, B.out⟩
      · have hb2 : (g.at i i == 2) = false := beq_eq_false_iff_ne.2 h2
        have R : Hid (∀ j, j < i + 1 → g.at j j ≠ 2) := Lib.hid fun j hj => by
          by_cases e : j = i
          · rw [e]
            exact h2
          · exact HS.out j (by omega)
        clear h2
        go_wp2
        go_roundg (6 - (i + 1))
        case measure => have := HN.out; omega
        case rel => exact ⟨i + 1, by go_num, Lib.hid (by omega), Lib.hid rfl, G, B, R⟩
    · have hb : decide ((i : Int) < 6) = false := decide_eq_false (by omega)
      have R := Lib.hid (desc_no fun j hj => HS.out j (by omega))
      go_wp2
      go_ret
      exact ⟨by rw [R.out]; rfl, B.out⟩
end Go.Proofs.Ytdinmdjdkhlgcaa
