/- The law's awake. -/
import Derived.Test.YtdinmdjdkhlgcaaTurn
namespace Go.Proofs.Ytdinmdjdkhlgcaa
open Go.RowKit Go.Proofs.YtdinmdjdkhlgcaaW.PrintWords Go.Proofs.Ytdinmdjdkhlgcaa.Sz
set_option linter.unusedVariables false
set_option linter.unusedSimpArgs false

theorem info34z : (Try.prog.info? 34).map (fun i => (i.zero, i.size, i.bytes)) = some (some (.agg #[.string ⟨#[]⟩, .string ⟨#[]⟩, .slice none 0 0]), 3, 56) := by kernel_rfl
def arcsT : List Value := [.int .i64 0, .int .i64 1, .bool false, .int .i64 1, .int .i64 0, .bool false]
def arcsL : List Value := [.int .i64 0, .int .i64 1, .bool false, .int .i64 1, .int .i64 0, .bool true]
theorem arcsT_at (i : Nat) (y : S24) (h : turnC.f2[i]? = some y) : arcsT[i * 3]? = some (.int .i64 y.f0) ∧ arcsT[i * 3 + 1]? = some (.int .i64 y.f1) ∧ arcsT[i * 3 + 2]? = some (.bool y.f2) := by
  match i, h with
  | 0, h => obtain rfl := Option.some.inj h; exact ⟨rfl, rfl, rfl⟩
  | 1, h => obtain rfl := Option.some.inj h; exact ⟨rfl, rfl, rfl⟩
theorem arcsL_at (i : Nat) (y : S24) (h : lessC.f2[i]? = some y) : arcsL[i * 3]? = some (.int .i64 y.f0) ∧ arcsL[i * 3 + 1]? = some (.int .i64 y.f1) ∧ arcsL[i * 3 + 2]? = some (.bool y.f2) := by
  match i, h with
  | 0, h => obtain rfl := Option.some.inj h; exact ⟨rfl, rfl, rfl⟩
  | 1, h => obtain rfl := Option.some.inj h; exact ⟨rfl, rfl, rfl⟩
set_option maxHeartbeats 4000000 in
set_option maxRecDepth 100000 in
theorem awake_calls (w : World) : Calls Try.prog 10 #[] w fun e w' => e = .returned (.bool true) ∧ Below w.heap.size w w' := by
  have hu34 := Try.underlying34
  have hu24 := Try.underlying24
  have hu32 := Try.underlying32
  have hu22 := Try.underlying22
  go_enter Try.func10, Try.ntmps10
  go_upto_region 3 with fail
  have rows : ∃ W, W = ((((w.alloc (.cells arcsT.toArray 24)).alloc (.cells #[.string fB, .string fB, .slice (some ⟨w.heap.size, 0, none⟩) 2 2] 34)).alloc (.cells arcsL.toArray 24)).alloc (.cells #[.string fB, .string fB, .slice (some ⟨w.heap.size + 1 + 1, 0, none⟩) 2 2] 34)) ∧ Below w.heap.size w W ∧
      W.heap[w.heap.size]? = some (.cells arcsT.toArray 24 (0, 0)) ∧ W.heap[w.heap.size + 1]? = some (.cells #[.string fB, .string fB, .slice (some ⟨w.heap.size, 0, none⟩) 2 2] 34 (0, 0)) ∧
      W.heap[w.heap.size + 1 + 1]? = some (.cells arcsL.toArray 24 (0, 0)) ∧ W.heap[w.heap.size + 1 + 1 + 1]? = some (.cells #[.string fB, .string fB, .slice (some ⟨w.heap.size + 1 + 1, 0, none⟩) 2 2] 34 (0, 0)) := by
    refine ⟨_, rfl, (((((Below.refl _ _).alloc (Nat.le_refl _) _).alloc (by simp) _).alloc (by simp; omega) _).alloc (by simp; omega) _), ?_, ?_, ?_, ?_⟩
    · exact row_below (row_below (row_below (heap_alloc_new w _) ((Below.refl _ _).alloc (Nat.le_refl _) _)) ((Below.refl _ _).alloc (Nat.le_refl _) _)) ((Below.refl _ _).alloc (Nat.le_refl _) _)
    · have h := heap_alloc_new (w.alloc (.cells arcsT.toArray 24)) (.cells #[.string fB, .string fB, .slice (some ⟨w.heap.size, 0, none⟩) 2 2] 34)
      rw [size_alloc] at h
      exact row_below (row_below h ((Below.refl _ _).alloc (Nat.le_refl _) _)) ((Below.refl _ _).alloc (Nat.le_refl _) _)
    · have h := heap_alloc_new ((w.alloc (.cells arcsT.toArray 24)).alloc (.cells #[.string fB, .string fB, .slice (some ⟨w.heap.size, 0, none⟩) 2 2] 34)) (.cells arcsL.toArray 24)
      rw [size_alloc, size_alloc] at h
      exact row_below h ((Below.refl _ _).alloc (Nat.le_refl _) _)
    · have h := heap_alloc_new (((w.alloc (.cells arcsT.toArray 24)).alloc (.cells #[.string fB, .string fB, .slice (some ⟨w.heap.size, 0, none⟩) 2 2] 34)).alloc (.cells arcsL.toArray 24)) (.cells #[.string fB, .string fB, .slice (some ⟨w.heap.size + 1 + 1, 0, none⟩) 2 2] 34)
      rw [size_alloc, size_alloc, size_alloc] at h
      exact h
  obtain ⟨W, hW, B, ra, rb, rc, rd⟩ := rows
  simp only [arcsT, arcsL, fB] at hW
  rw [← hW]
  clear hW
  have HB := Lib.hid B
  obtain ⟨b0, hb0⟩ : ∃ b, b = w.heap.size := ⟨_, rfl⟩
  rw [← hb0] at ra rb rc rd ⊢
  clear hb0
  have RA := Lib.hid ra
  have RC := Lib.hid rc
  have RD := Lib.hid rd
  have c0 : W.cell? ⟨b0 + 1, 0, none⟩ = some (.string ⟨#[102]⟩) := cell_of_row _ _ 0 _ _ _ rb
  have c1 : W.cell? ⟨b0 + 1, 1, none⟩ = some (.string ⟨#[102]⟩) := cell_of_row _ _ 1 _ _ _ rb
  have c2 : W.cell? ⟨b0 + 1, 2, none⟩ = some (.slice (some ⟨b0, 0, none⟩) 2 2) := cell_of_row _ _ 2 _ _ _ rb
  clear B ra rb rc rd
  have H3 := Lib.hid (turn_calls (some ⟨W.heap.size, 0, none⟩) (W.alloc (.cells #[.string ⟨#[102]⟩, .string ⟨#[102]⟩, .slice (some ⟨b0, 0, none⟩) 2 2] 34))
    (one34 (x := turnC) (n := 2) (heap_alloc_new W _) rfl (by omega) (row_below RA.out ((Below.refl _ _).alloc (Nat.le_refl _) _)) arcsT_at))
  go_upto_region 4 with (go_at_call 11; refine H3.out.mono ?_; rintro e w5 ⟨rfl, hb5⟩)
  have B5 := Lib.hid (below_then ((Below.refl W.heap.size W).alloc (Nat.le_refl _) (.cells #[.string ⟨#[102]⟩, .string ⟨#[102]⟩, .slice (some ⟨b0, 0, none⟩) 2 2] 34)) hb5)
  clear hb5 c0 c1 c2 H3
  have rd5 := row_below RD.out B5.out
  have c0 : w5.cell? ⟨b0 + 1 + 1 + 1, 0, none⟩ = some (.string ⟨#[102]⟩) := cell_of_row _ _ 0 _ _ _ rd5
  have c1 : w5.cell? ⟨b0 + 1 + 1 + 1, 1, none⟩ = some (.string ⟨#[102]⟩) := cell_of_row _ _ 1 _ _ _ rd5
  have c2 : w5.cell? ⟨b0 + 1 + 1 + 1, 2, none⟩ = some (.slice (some ⟨b0 + 1 + 1, 0, none⟩) 2 2) := cell_of_row _ _ 2 _ _ _ rd5
  clear rd5
  have H4 := Lib.hid (less_calls (some ⟨w5.heap.size, 0, none⟩) (w5.alloc (.cells #[.string ⟨#[102]⟩, .string ⟨#[102]⟩, .slice (some ⟨b0 + 1 + 1, 0, none⟩) 2 2] 34))
    (one34 (x := lessC) (n := 2) (heap_alloc_new w5 _) rfl (by omega) (row_below (row_below RC.out B5.out) ((Below.refl _ _).alloc (Nat.le_refl _) _)) arcsL_at))
  go_wp2_with (go_at_call 11; refine H4.out.mono ?_; rintro e w6 ⟨rfl, hb6⟩)
  go_ret
  exact ⟨rfl, below_then (below_then HB.out B5.out) (below_then ((Below.refl w5.heap.size w5).alloc (Nat.le_refl _) (.cells #[.string ⟨#[102]⟩, .string ⟨#[102]⟩, .slice (some ⟨b0 + 1 + 1, 0, none⟩) 2 2] 34)) hb6)⟩
end Go.Proofs.Ytdinmdjdkhlgcaa
