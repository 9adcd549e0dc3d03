/- The ring's right (no number of an expression is above a bound), with the closure that it hands to slices.ContainsFunc. -/
import Derived.Test.YtjnplfbggklkfaaRg0
import Derived.Lib.Hide
import Derived.Outline
namespace Go.Proofs.Ytjnplfbggklkfaa.Rg
open Go.RowKit Go.Proofs.YtjnplfbggklkfaaW.PrintWords
set_option linter.unusedVariables false
set_option linter.unusedSimpArgs false

mutual
/-- No number of an expression is above a bound. -/
def right : S24 → Int → Bool
  | ⟨op, n, l⟩, top => !(op == 1 && decide (top < n)) && rightL l top
def rightL : List S24 → Int → Bool
  | [], _ => true
  | x :: l, top => right x top && rightL l top
end
theorem right_eq (x : S24) (top : Int) : right x top = (!(x.f0 == 1 && decide (top < x.f1)) && rightL x.f2 top) := by
  cases x
  rw [right]
theorem rightL_all (l : List S24) (top : Int) : rightL l top = l.all (fun x => right x top) := by
  induction l with
  | nil => rw [rightL]; rfl
  | cons x l ih => rw [rightL, ih]; rfl

/-- An element of a slice of expressions. -/
theorem at24 {w : World} {A : Option Addr} {n : Nat} {xs : List S24} (h : Kd.C k24 w A n xs) (i : Nat) (h1 : i < n) :
    ∃ (ad : Addr) (A2 : Option Addr) (c2 : Nat) (x : S24), A = some ad ∧ xs[i]? = some x ∧ w.cell? (ad.add (i * 3)) = some (.int .i64 x.f0) ∧ w.cell? ⟨(ad.add (i * 3)).block, (ad.add (i * 3)).off + 1, none⟩ = some (.int .i64 x.f1) ∧
      w.cell? ⟨(ad.add (i * 3)).block, (ad.add (i * 3)).off + 2, none⟩ = some (.slice A2 x.f2.length c2) ∧ x.f2.length ≤ c2 ∧ k24.C w A2 x.f2.length x.f2 := by
  obtain ⟨ad, A2, c2, e, a0, a1, a2, hl, hc⟩ := at_T24 h (i : Int) (by omega) (by omega)
  have hx : xs[i]? = some (rd_T24 xs i) := by
    have hlen : i < xs.length := by have := h.1; omega
    rw [rd_T24, Int.toNat_natCast, List.getD_eq_getElem?_getD, List.getElem?_eq_getElem hlen]
    rfl
  exact ⟨ad, A2, c2, rd_T24 xs i, e, hx, by simpa using a0, by simpa using a1, by simpa using a2, hl, hc⟩
theorem cellB {w w' : World} (hb : Below w.heap.size w w') {a : Addr} {v : Value} (h : w.cell? a = some v) : w'.cell? a = some v := (hb.cell (World.block_lt_of_cell? w _ h)).trans h

/-- What the closure that is handed over does, at the elements of a list. -/
def Tests (f : Nat) (cap : Value) (w0 : World) (xs : List S24) (p : S24 → Bool) : Prop :=
  ∀ x ∈ xs, ∀ (A : Option Addr) (c : Nat) (w : World), Below w0.heap.size w0 w → Kd.C k24 w A x.f2.length x.f2 → x.f2.length ≤ c →
    Calls Try.prog f #[.agg #[.int .i64 x.f0, .int .i64 x.f1, .slice A x.f2.length c], cap] w fun e w' => e = .returned (.bool (p x)) ∧ Below w.heap.size w w'
def IdxPost (xs : List S24) (p : S24 → Bool) (w : World) (e : Ending) (w' : World) : Prop :=
  ∃ r : Int, e = .returned (.int .i64 r) ∧ (decide (0 ≤ r) = xs.any p) ∧ Below w.heap.size w w'
set_option maxHeartbeats 4000000 in
set_option maxRecDepth 100000 in
theorem index_calls (cap : Value) (p : S24 → Bool) (A : Option Addr) (c : Nat) (xs : List S24) (w : World) (hC : Kd.C k24 w A xs.length xs) (hc : xs.length ≤ c) (H : Tests 39 cap w xs p) :
    Calls Try.prog 44 #[.slice A xs.length c, .func (.func 39) #[] #[cap]] w (IdxPost xs p w) := by
  have hu24 := Try.underlying24
  have hmax : xs.length ≤ 9223372036854775807 := hC.2.1
  have HC := Lib.hid hC
  have HT := Lib.hid H
  clear hC H hc
  go_enter Try.func44, Try.ntmps44
  go_wp2
  go_loopg [8] xs.length (fun n v8 wr => ∃ k : Nat, v8 = .int .i64 k ∧ Hid (k ≤ xs.length) ∧ Hid (n = xs.length - k) ∧ Hid (Below w.heap.size w wr) ∧ Hid ((xs.take k).any p = false))
  case atStart => exact ⟨0, rfl, Lib.hid (by omega), Lib.hid (by omega), Lib.hid (Below.refl _ _), Lib.hid (by simp)⟩
  case round =>
    obtain ⟨k, rfl, HK, HN, B, HS⟩ := hrel
    by_cases hk : k < xs.length
    · have hkb : decide ((k : Int) < (xs.length : Int)) = true := decide_eq_true (by omega)
      obtain ⟨ad, A2, c2, x, rfl, hx, a0, a1, a2, hl2, hC2⟩ := at24 HC.out k hk
      have a0 := cellB B.out a0
      have a1 := cellB B.out a1
      have a2 := cellB B.out a2
      have hCt := HT.out x (List.mem_of_getElem? hx) A2 c2 wr B.out (Kd.C_below hC2 B.out) hl2
      have hk' : k + 1 ≤ 9223372036854775807 := by omega
      clear hC2 hl2
      have HX := Lib.hid hx
      clear hx
      cases hpx : p x with
      | true =>
        rw [hpx] at hCt
        have HCt := Lib.hid hCt
        have HA : Hid (xs.any p = true) := Lib.hid (by
          rw [List.any_eq_true]
          exact ⟨x, List.mem_of_getElem? HX.out, hpx⟩)
        clear hCt hpx
        go_wp2_with (go_at_call 39; refine HCt.out.mono ?_; rintro e w2 ⟨rfl, hb2⟩)
        go_ret
        exact ⟨k, rfl, by rw [HA.out]; exact decide_eq_true (by omega), B.out.trans ⟨hb2.os, hb2.tape, hb2.output, hb2.size, fun j hj => hb2.block j (Nat.lt_of_lt_of_le hj B.out.size)⟩⟩
      | false =>
        rw [hpx] at hCt
        have HCt := Lib.hid hCt
        have HA : Hid ((xs.take (k + 1)).any p = false) := Lib.hid (by
          rw [List.take_add_one, List.any_append, HS.out, HX.out]
          simp [hpx])
        clear hCt hpx
        go_wp2_with (go_at_call 39; refine HCt.out.mono ?_; rintro e w2 ⟨rfl, hb2⟩)
        go_roundg (xs.length - (k + 1))
        case measure => have := HN.out; omega
        case rel => exact ⟨k + 1, by go_num, Lib.hid (by omega), Lib.hid rfl, Lib.hid (B.out.trans ⟨hb2.os, hb2.tape, hb2.output, hb2.size, fun j hj => hb2.block j (Nat.lt_of_lt_of_le hj B.out.size)⟩), HA⟩
    · have hkb : decide ((k : Int) < (xs.length : Int)) = false := decide_eq_false (by omega)
      go_wp2
      go_ret
      refine ⟨-1, rfl, ?_, B.out⟩
      have := HS.out
      rw [List.take_of_length_le (by omega)] at this
      rw [this]
      decide
set_option maxHeartbeats 4000000 in
set_option maxRecDepth 100000 in
theorem contains_calls (cap : Value) (p : S24 → Bool) (A : Option Addr) (c : Nat) (xs : List S24) (w : World) (hC : Kd.C k24 w A xs.length xs) (hc : xs.length ≤ c) (H : Tests 39 cap w xs p) :
    Calls Try.prog 38 #[.slice A xs.length c, .func (.func 39) #[] #[cap]] w fun e w' => e = .returned (.bool (xs.any p)) ∧ Below w.heap.size w w' := by
  have HI := Lib.hid (index_calls cap p A c xs w hC hc H)
  clear hC hc H
  go_enter Try.func38, Try.ntmps38
  go_wp2_with (go_at_call 44; refine HI.out.mono ?_; rintro e w2 ⟨r, rfl, hr, hb2⟩; have HR := Lib.hid hr; clear hr)
  all_goals go_ret
  all_goals refine ⟨congrArg Ending.returned ?_, hb2⟩
  all_goals rw [← HR.out]
  all_goals rfl

theorem below_then' {a b c : World} (h : Below a.heap.size a b) (k : Below b.heap.size b c) : Below a.heap.size a c :=
  h.trans ⟨k.os, k.tape, k.output, k.size, fun j hj => k.block j (Nat.lt_of_lt_of_le hj h.size)⟩
def RightAt (x : S24) : Prop := ∀ (top : Int) (A : Option Addr) (c : Nat) (w : World), Kd.C k24 w A x.f2.length x.f2 → x.f2.length ≤ c →
  Calls Try.prog 33 #[.agg #[.int .i64 x.f0, .int .i64 x.f1, .slice A x.f2.length c], .int .i64 top] w fun e w' => e = .returned (.bool (right x top)) ∧ Below w.heap.size w w'
set_option maxHeartbeats 4000000 in
set_option maxRecDepth 100000 in
theorem closure_calls (x : S24) (h : RightAt x) (top : Int) (g : Nat) (A : Option Addr) (c : Nat) (w : World) (hb : w.heap[g]? = some (.cells #[.int .i64 top] 3 (0, 0))) (hC : Kd.C k24 w A x.f2.length x.f2) (hc : x.f2.length ≤ c) :
    Calls Try.prog 39 #[.agg #[.int .i64 x.f0, .int .i64 x.f1, .slice A x.f2.length c], .pointer (some ⟨g, 0, none⟩)] w fun e w' => e = .returned (.bool (!right x top)) ∧ Below w.heap.size w w' := by
  have hB : Below w.heap.size w (w.alloc (.cells #[.int .i64 x.f0, .int .i64 x.f1, .slice A x.f2.length c] 24)) := (Below.refl _ _).alloc (Nat.le_refl _) _
  have HR := Lib.hid (h top A c (w.alloc (.cells #[.int .i64 x.f0, .int .i64 x.f1, .slice A x.f2.length c] 24)) (Kd.C_below hC hB) hc)
  have HB := Lib.hid hB
  have c0 : (w.alloc (.cells #[.int .i64 x.f0, .int .i64 x.f1, .slice A x.f2.length c] 24)).cell? ⟨g, 0, none⟩ = some (.int .i64 top) := cellB hB (cell_of_row w g 0 _ _ _ hb)
  have hu24 := Try.underlying24
  clear hC hc hB hb h
  go_enter Try.func39, Try.ntmps39
  go_wp2_with (go_at_call 33; refine HR.out.mono ?_; rintro e w2 ⟨rfl, hb2⟩)
  go_ret
  exact ⟨rfl, below_then' HB.out hb2⟩
set_option maxHeartbeats 4000000 in
set_option maxRecDepth 100000 in
theorem right_at : ∀ (n : Nat) (x : S24), SizeOf.sizeOf x < n → RightAt x := by
  intro n
  induction n with
  | zero => intro x h; exact absurd h (by omega)
  | succ n ih =>
    intro x hx top A c w hC hc
    have IH : Hid (∀ y ∈ x.f2, RightAt y) := Lib.hid fun y hy => ih y (by
      have := List.sizeOf_lt_of_mem hy
      have h2 : SizeOf.sizeOf x = 1 + SizeOf.sizeOf x.f0 + SizeOf.sizeOf x.f1 + SizeOf.sizeOf x.f2 := by cases x; simp
      omega)
    clear ih hx
    have hu24 := Try.underlying24
    have hB : Below w.heap.size w ((w.alloc (.cells #[.int .i64 x.f0, .int .i64 x.f1, .slice A x.f2.length c] 24)).alloc (.cells #[.int .i64 top] 3)) := ((Below.refl _ _).alloc (Nat.le_refl _) _).alloc (by simp) _
    have hT : ((w.alloc (.cells #[.int .i64 x.f0, .int .i64 x.f1, .slice A x.f2.length c] 24)).alloc (.cells #[.int .i64 top] 3)).heap[w.heap.size + 1]? = some (.cells #[.int .i64 top] 3 (0, 0)) := by
      have h0 := heap_alloc_new (w.alloc (.cells #[.int .i64 x.f0, .int .i64 x.f1, .slice A x.f2.length c] 24)) (.cells #[.int .i64 top] 3)
      simpa using h0
    have HC := Lib.hid (contains_calls (.pointer (some ⟨w.heap.size + 1, 0, none⟩)) (fun y => !right y top) A c x.f2 _ (Kd.C_below hC hB) hc (fun y hy A2 c2 w2 hb2 hC2 hc2 =>
      closure_calls y (IH.out y hy) top (w.heap.size + 1) A2 c2 w2 ((hb2.block _ (Array.getElem?_eq_some_iff.1 hT).1).trans hT) hC2 hc2))
    have HB := Lib.hid hB
    have HE := Lib.hid (right_eq x top)
    have HL := Lib.hid (rightL_all x.f2 top)
    clear hC hc hB hT IH
    by_cases h1 : x.f0 = 1
    · by_cases h2 : top < x.f1
      · have b1 : (x.f0 == 1) = true := beq_iff_eq.2 h1
        have b2 : decide (top < x.f1) = true := decide_eq_true h2
        have R : Hid (right x top = false) := Lib.hid (by rw [HE.out, b1, b2]; rfl)
        clear h1 h2 HE HL HC
        go_enter Try.func33, Try.ntmps33
        go_wp2
        go_ret
        exact ⟨by rw [R.out]; rfl, HB.out⟩
      · have b1 : (x.f0 == 1) = true := beq_iff_eq.2 h1
        have b2 : decide (top < x.f1) = false := decide_eq_false h2
        have R : Hid (right x top = !(x.f2.any fun y => !right y top)) := Lib.hid (by rw [HE.out, b1, b2, HL.out]; simp [List.all_eq_not_any_not])
        clear h1 h2 HE HL
        go_enter Try.func33, Try.ntmps33
        go_wp2_with (go_at_call 38; refine HC.out.mono ?_; rintro e w2 ⟨rfl, hb2⟩)
        go_ret
        exact ⟨by rw [R.out]; rfl, below_then' HB.out hb2⟩
    · have b1 : (x.f0 == 1) = false := beq_eq_false_iff_ne.2 h1
      have R : Hid (right x top = !(x.f2.any fun y => !right y top)) := Lib.hid (by rw [HE.out, b1, HL.out]; simp [List.all_eq_not_any_not])
      clear h1 HE HL
      go_enter Try.func33, Try.ntmps33
      go_wp2_with (go_at_call 38; refine HC.out.mono ?_; rintro e w2 ⟨rfl, hb2⟩)
      go_ret
      exact ⟨by rw [R.out]; rfl, below_then' HB.out hb2⟩

/-- As the print's texts want it. -/
def ring_right.f (a0_0 a0_1 : Int) (l0_2 : List S24) (a1 : Int) : Option Bool := some (right ⟨a0_0, a0_1, l0_2⟩ a1)
theorem ring_right.calls (a0_0 : Int) (a0_1 : Int) (A0_2 : Option Addr) (c0_2 : Nat) (l0_2 : List (S24)) (a1 : Int) (r : Bool) (w : World) (hr0_2 : Kd.C k24 w A0_2 l0_2.length l0_2) (hc0_2 : l0_2.length ≤ c0_2) (h : ring_right.f a0_0 a0_1 l0_2 a1 = some r) :
    Calls Try.prog 33 #[.agg #[.int .i64 a0_0, .int .i64 a0_1, .slice A0_2 l0_2.length c0_2], .int .i64 a1] w fun e w' => e = .returned (.bool r) ∧ Below w.heap.size w w' := by
  obtain rfl := Option.some.inj h
  exact right_at (SizeOf.sizeOf (⟨a0_0, a0_1, l0_2⟩ : S24) + 1) ⟨a0_0, a0_1, l0_2⟩ (by omega) a1 A0_2 c0_2 w hr0_2 hc0_2
end Go.Proofs.Ytjnplfbggklkfaa.Rg
