/- Texts of this claim, one behind the other: Rg0, RgRight, Map, Poly, Conv, RgDen, Add, Same, Plus, Times, Prod. -/
import Derived.Test.YtjnplfbggklkfaaProg
import Derived.Below
import Derived.Deep.Draws
import Derived.Deep.AppendLies
import Derived.Maps.AppendAt
import Derived.OwnWalk
import Derived.Laws.BytesArg
import Derived.Laws.MakeOwn
import Derived.Laws.OwnMore
import Derived.Deep.OwnRows
import Derived.Tactics
import Derived.Lib.ConvBytes
import Derived.Laws.Slices
import Derived.WalkKit
import Derived.KernelRfl
import Derived.RowKit3
import Derived.Deep.LoopGhost
import Derived.Deep.QuietTactic
import Derived.BigQuiet
import Derived.WideLaws
import Derived.Deep.DeepCutAuto
import Derived.Deep.CutBlock
import Derived.Deep.RegionHeld3
import Derived.Laws.Rows
import Derived.Lib.AppendStr
import Derived.ArgAppend
import Derived.Laws.IdiomCopy
import Derived.OrdersHeld
import Derived.Laws.BitsLemmas
import Derived.RowKit
import Derived.Test.YtjnplfbggklkfaaWWords
import Derived.Test.YtjnplfbggklkfaaWLast
import Derived.Test.YtjnplfbggklkfaaWTab
import Derived.Test.YtjnplfbggklkfaaWQPut
import Derived.Test.YtjnplfbggklkfaaWApart
import Derived.Test.YtjnplfbggklkfaaWArr
import Derived.Test.YtjnplfbggklkfaaWZeros
import Derived.Test.YtjnplfbggklkfaaWFoot
import Derived.Test.YtjnplfbggklkfaaWKept
import Derived.Test.YtjnplfbggklkfaaWShare
import Derived.Test.YtjnplfbggklkfaaWN
import Derived.Test.YtjnplfbggklkfaaWRepsOne
import Derived.Test.YtjnplfbggklkfaaWGuard
import Derived.Test.YtjnplfbggklkfaaWNEv
import Derived.Test.YtjnplfbggklkfaaWMore
import Derived.Lib.Hide
import Derived.Outline
import Derived.DeepKeys4
import Derived.WideKeyArr
import Derived.RegionTactic
import Derived.BigRegion
import Derived.WalkLawsBesides
import Derived.Laws.MathBits

-- Written by a program of this claim's session: print.py's form, some functions told by hand.
namespace Go.Proofs.Ytjnplfbggklkfaa.Rg
open Go.RowKit Go.Proofs.YtjnplfbggklkfaaW.PrintWords Go.Proofs.YtjnplfbggklkfaaW.PrintLast Go.Proofs.YtjnplfbggklkfaaW.PrintMore
attribute [local go_sem] max2_int min2_int max_two min_two max_three min_three max_four min_four   -- for this text's walks alone
set_option linter.unusedVariables false
set_option linter.unusedSimpArgs false



def errW : Option Int → Value
 | none => .nilIface
 | some c => .iface 0 (.int .i64 c)
theorem errW_none : errW none = .nilIface := rfl
theorem errW_some (c : Int) : errW (some c) = .iface 0 (.int .i64 c) := rfl

theorem info3 : (Try.prog.info? 3).map (fun i => (i.zero, i.size, i.bytes)) = some (some (.int .i64 0), 1, 8) := by kernel_rfl
theorem info24 : (Try.prog.info? 24).map (fun i => (i.zero, i.size, i.bytes)) = some (some (.agg #[(.int .i64 0), (.int .i64 0), (.slice none 0 0)]), 3, 40) := by kernel_rfl
theorem info57 : (Try.prog.info? 57).map (fun i => (i.zero, i.size, i.bytes)) = some (some (.agg #[(.int .i64 0), (.slice none 0 0)]), 2, 32) := by kernel_rfl
-- the values' own types
/-! #### struct type 24, nested in itself -/
structure S24 where
 f0 : Int
 f1 : Int
 f2 : (List S24)
def z24 : S24 := ⟨(0 : Int), (0 : Int), ([] : List S24)⟩
def F24 (d : Kd S24) : Kd S24 := Kd.iso (Kd.pair (Kd.int .i64) (Kd.pair (Kd.int .i64) (Kd.slice 24 d))) (fun x : S24 => (x.f0, x.f1, x.f2))
theorem mono24 : Kd.Mono F24 := Kd.mono_iso _ (Kd.mono_pair (Kd.mono_const _) (Kd.mono_pair (Kd.mono_const _) (Kd.mono_slice 24 Kd.mono_id)))
theorem sub24 : Kd.Sub F24 [24] := Kd.sub_iso _ (Kd.sub_pair (Kd.sub_const _ (by decide)) (Kd.sub_pair (Kd.sub_const _ (by decide)) (Kd.sub_slice 24 (by decide) Kd.sub_id)))
theorem sz24 : ∀ n, (Kd.upto F24 3 [24] n).sz = 3 := Kd.upto_sz (fun _ => rfl)
def k24 : Kd S24 := Kd.fix F24 3 [24] sz24 (Kd.upto_E sub24)
theorem k24_heap : Kd.Heap k24 := Kd.heap_fix (fun _ h_ => Kd.heap_iso _ (Kd.heap_pair (Kd.heap_int .i64) (Kd.heap_pair (Kd.heap_int .i64) (Kd.heap_slice 24 h_))))
theorem k24_open {w : World} {x : S24} {cs : List Value} (h : k24.K w x cs) : ∃ A2 c2, cs = [.int .i64 x.f0, .int .i64 x.f1, .slice A2 x.f2.length c2] ∧ x.f2.length ≤ c2 ∧ k24.C w A2 x.f2.length x.f2 := by
 obtain ⟨n, h⟩ := h
 cases n with
 | zero => exact h.elim
 | succ n =>
  obtain ⟨_, _, rfl, rfl, ⟨_, _, rfl, rfl, ⟨A2, c2, rfl, l2, g2⟩⟩⟩ := h
  exact ⟨A2, c2, rfl, l2, Kd.fix_C g2⟩
theorem k24_openM {w : World} {base : Nat} {ok : Nat → Prop} {x : S24} {cs : List Value} (h : k24.M w base ok x cs) : ∃ v2, cs = [.int .i64 x.f0, .int .i64 x.f1, v2] ∧ k24.R 24 w base ok v2 x.f2 := by
 obtain ⟨n, h⟩ := h
 cases n with
 | zero => exact h.elim
 | succ n =>
  obtain ⟨_, _, rfl, rfl, ⟨_, _, rfl, rfl, ⟨v2, rfl, g2⟩⟩⟩ := h
  exact ⟨v2, rfl, Kd.fix_R g2⟩
theorem k24_mk (w : World) (x : S24) {A2 : Option Addr} {c2 : Nat} (l2 : x.f2.length ≤ c2) (g2 : k24.C w A2 x.f2.length x.f2) : k24.K w x [.int .i64 x.f0, .int .i64 x.f1, .slice A2 x.f2.length c2] := by
 obtain ⟨n2, q2⟩ := Kd.fix_C_back mono24 g2
 have r2 := Kd.upto_C_le mono24 sz24 (show n2 ≤ n2 by omega) q2
 exact ⟨n2 + 1, ⟨[.int .i64 x.f0], [.int .i64 x.f1, .slice A2 x.f2.length c2], rfl, rfl, ⟨[.int .i64 x.f1], [.slice A2 x.f2.length c2], rfl, rfl, ⟨A2, c2, rfl, l2, r2⟩⟩⟩⟩
theorem k24_mkM (w : World) (base : Nat) (ok : Nat → Prop) (x : S24) {v2 : Value} (g2 : k24.R 24 w base ok v2 x.f2) : k24.M w base ok x [.int .i64 x.f0, .int .i64 x.f1, v2] := by
 obtain ⟨n2, q2⟩ := Kd.fix_R_back mono24 g2
 have r2 := Kd.upto_R_le mono24 sz24 (show n2 ≤ n2 by omega) q2
 exact ⟨n2 + 1, ⟨[.int .i64 x.f0], [.int .i64 x.f1, v2], rfl, rfl, ⟨[.int .i64 x.f1], [v2], rfl, rfl, ⟨v2, rfl, r2⟩⟩⟩⟩
theorem k24_openF {W : World} {ok : Nat → Prop} {x : S24} {cs : List Value} (h : Kd.FK k24 W ok x cs) : ∃ A2 c2, cs = [.int .i64 x.f0, .int .i64 x.f1, .slice A2 x.f2.length c2] ∧ x.f2.length ≤ c2 ∧ Kd.F k24 W ok A2 x.f2.length x.f2 := by
 obtain ⟨A2, c2, rfl, l2, _⟩ := k24_open (Kd.FK_now h)
 exact ⟨A2, c2, rfl, l2, (fun W' hW => by obtain ⟨A2_, c2_, he, l2_, g2_⟩ := k24_open (h W' hW); injection (Option.some.inj (show some (Value.slice A2 x.f2.length c2) = some (Value.slice A2_ x.f2.length c2_) from congrArg (fun l => l[2]?) he)) with ha_ _ _; rw [ha_]; exact g2_)⟩
theorem k24_mkF (W : World) (ok : Nat → Prop) (x : S24) {A2 : Option Addr} {c2 : Nat} (l2 : x.f2.length ≤ c2) (g2 : Kd.F k24 W ok A2 x.f2.length x.f2) : Kd.FK k24 W ok x [.int .i64 x.f0, .int .i64 x.f1, .slice A2 x.f2.length c2] := fun W2 hW => k24_mk W2 x l2 (g2 W2 hW)
def rd_T24 (xs : List S24) (i : Int) : S24 := xs.getD i.toNat z24
theorem at_T24 {w : World} {A : Option Addr} {n : Nat} {xs : List S24} (h : Kd.C k24 w A n xs) (i : Int) (h0 : 0 ≤ i) (h1 : i < n) : ∃ ad A2 c2, A = some ad ∧ w.cell? (ad.add (i.toNat * 3)) = some (.int .i64 (rd_T24 xs i).f0) ∧ w.cell? ⟨(ad.add (i.toNat * 3)).block, (ad.add (i.toNat * 3)).off + 1, none⟩ = some (.int .i64 (rd_T24 xs i).f1) ∧ w.cell? ⟨(ad.add (i.toNat * 3)).block, (ad.add (i.toNat * 3)).off + 2, none⟩ = some (.slice A2 (rd_T24 xs i).f2.length c2) ∧ (rd_T24 xs i).f2.length ≤ c2 ∧ k24.C w A2 (rd_T24 xs i).f2.length (rd_T24 xs i).f2 := by
 obtain ⟨ad, c, e, _, hK, hc0⟩ := Kd.C_get h z24 i h0 h1
 have hc : ∀ j u, c[j]? = some u → w.cell? (ad.add (i.toNat * 3 + j)) = some u := hc0
 obtain ⟨A2, c2, rfl, l2, g2⟩ := k24_open hK
 exact ⟨ad, A2, c2, e, hc 0 _ rfl, by rw [← add_field _ _ 1 (by omega)]; exact hc 1 _ rfl, by rw [← add_field _ _ 2 (by omega)]; exact hc 2 _ rfl, l2, g2⟩

def rd_L2 (xs : List (List Int)) (i : Int) : (List Int) := xs.getD i.toNat ([] : List Int)
theorem at_L2 {w : World} {A : Option Addr} {n : Nat} {xs : List (List Int)} (h : Kd.C (Kd.slice 3 (Kd.int .i64)) w A n xs) (i : Int) (h0 : 0 ≤ i) (h1 : i < n) : ∃ ad A0 c0, A = some ad ∧ w.cell? (ad.add i.toNat) = some (.slice A0 (rd_L2 xs i).length c0) ∧ (rd_L2 xs i).length ≤ c0 ∧ (Kd.int .i64).C w A0 (rd_L2 xs i).length (rd_L2 xs i) := by
 obtain ⟨ad, c, e, _, hK, hc0⟩ := Kd.C_get h ([] : List Int) i h0 h1
 have hc : ∀ j u, c[j]? = some u → w.cell? (ad.add (i.toNat * 1 + j)) = some u := hc0
 obtain ⟨A0, c0, rfl, l0, g0⟩ := hK
 exact ⟨ad, A0, c0, e, by have hq := hc 0 _ rfl; rwa [Nat.mul_one, Nat.add_zero] at hq, l0, g0⟩

/-! #### struct type 57 -/
structure S57 where
 f0 : Int
 f1 : (List Int)
def z57 : S57 := ⟨(0 : Int), ([] : List Int)⟩
def k57 : Kd S57 := Kd.iso (Kd.pair (Kd.int .i64) (Kd.slice 3 (Kd.int .i64))) (fun x : S57 => (x.f0, x.f1))
theorem k57_heap : Kd.Heap k57 := Kd.heap_iso _ (Kd.heap_pair (Kd.heap_int .i64) (Kd.heap_slice 3 (Kd.heap_int .i64)))
theorem k57_open {w : World} {x : S57} {cs : List Value} (h : k57.K w x cs) : ∃ A1 c1, cs = [.int .i64 x.f0, .slice A1 x.f1.length c1] ∧ x.f1.length ≤ c1 ∧ (Kd.int .i64).C w A1 x.f1.length x.f1 := by
 obtain ⟨_, _, rfl, rfl, ⟨A1, c1, rfl, l1, g1⟩⟩ := h
 exact ⟨A1, c1, rfl, l1, g1⟩
theorem k57_openM {w : World} {base : Nat} {ok : Nat → Prop} {x : S57} {cs : List Value} (h : k57.M w base ok x cs) : ∃ v1, cs = [.int .i64 x.f0, v1] ∧ (Kd.int .i64).R 3 w base ok v1 x.f1 := by
 obtain ⟨_, _, rfl, rfl, ⟨v1, rfl, g1⟩⟩ := h
 exact ⟨v1, rfl, g1⟩
theorem k57_mk (w : World) (x : S57) {A1 : Option Addr} {c1 : Nat} (l1 : x.f1.length ≤ c1) (g1 : (Kd.int .i64).C w A1 x.f1.length x.f1) : k57.K w x [.int .i64 x.f0, .slice A1 x.f1.length c1] := ⟨[.int .i64 x.f0], [.slice A1 x.f1.length c1], rfl, rfl, ⟨A1, c1, rfl, l1, g1⟩⟩
theorem k57_mkM (w : World) (base : Nat) (ok : Nat → Prop) (x : S57) {v1 : Value} (g1 : (Kd.int .i64).R 3 w base ok v1 x.f1) : k57.M w base ok x [.int .i64 x.f0, v1] := ⟨[.int .i64 x.f0], [v1], rfl, rfl, ⟨v1, rfl, g1⟩⟩
theorem k57_openF {W : World} {ok : Nat → Prop} {x : S57} {cs : List Value} (h : Kd.FK k57 W ok x cs) : ∃ A1 c1, cs = [.int .i64 x.f0, .slice A1 x.f1.length c1] ∧ x.f1.length ≤ c1 ∧ Kd.F (Kd.int .i64) W ok A1 x.f1.length x.f1 := by
 obtain ⟨A1, c1, rfl, l1, _⟩ := k57_open (Kd.FK_now h)
 exact ⟨A1, c1, rfl, l1, (fun W' hW => by obtain ⟨A1_, c1_, he, l1_, g1_⟩ := k57_open (h W' hW); injection (Option.some.inj (show some (Value.slice A1 x.f1.length c1) = some (Value.slice A1_ x.f1.length c1_) from congrArg (fun l => l[1]?) he)) with ha_ _ _; rw [ha_]; exact g1_)⟩
theorem k57_mkF (W : World) (ok : Nat → Prop) (x : S57) {A1 : Option Addr} {c1 : Nat} (l1 : x.f1.length ≤ c1) (g1 : Kd.F (Kd.int .i64) W ok A1 x.f1.length x.f1) : Kd.FK k57 W ok x [.int .i64 x.f0, .slice A1 x.f1.length c1] := fun W2 hW => k57_mk W2 x l1 (g1 W2 hW)
def rd_T57 (xs : List S57) (i : Int) : S57 := xs.getD i.toNat z57
theorem at_T57 {w : World} {A : Option Addr} {n : Nat} {xs : List S57} (h : Kd.C k57 w A n xs) (i : Int) (h0 : 0 ≤ i) (h1 : i < n) : ∃ ad A1 c1, A = some ad ∧ w.cell? (ad.add (i.toNat * 2)) = some (.int .i64 (rd_T57 xs i).f0) ∧ w.cell? ⟨(ad.add (i.toNat * 2)).block, (ad.add (i.toNat * 2)).off + 1, none⟩ = some (.slice A1 (rd_T57 xs i).f1.length c1) ∧ (rd_T57 xs i).f1.length ≤ c1 ∧ (Kd.int .i64).C w A1 (rd_T57 xs i).f1.length (rd_T57 xs i).f1 := by
 obtain ⟨ad, c, e, _, hK, hc0⟩ := Kd.C_get h z57 i h0 h1
 have hc : ∀ j u, c[j]? = some u → w.cell? (ad.add (i.toNat * 2 + j)) = some u := hc0
 obtain ⟨A1, c1, rfl, l1, g1⟩ := k57_open hK
 exact ⟨ad, A1, c1, e, hc 0 _ rfl, by rw [← add_field _ _ 1 (by omega)]; exact hc 1 _ rfl, l1, g1⟩

abbrev Am := @Aside0.mk
abbrev pN := @pw_below_drewN
abbrev pA := @below_alloc
abbrev pD := @below_drew1
abbrev pS := @below_set
abbrev bN := @blk_drewN
abbrev bA := @blk_alloc
abbrev bD := @blk_drew
abbrev wB := @World.block_lt_of_cell?
end Go.Proofs.Ytjnplfbggklkfaa.Rg

/- The ring's right (no number of an expression is above a bound), with the closure that it hands to slices.ContainsFunc. -/
namespace Go.Proofs.Ytjnplfbggklkfaa.Rg
open Go.RowKit Go.Proofs.YtjnplfbggklkfaaW.PrintWords
set_option linter.unusedVariables false
set_option linter.unusedSimpArgs false

mutual
/-- No number of an expression is above a bound. -/
def right : S24 → Int → Bool
  | ⟨op, n, l⟩, top => !(op == 1 && decide (top < n)) && rightL l top
def rightL : List S24 → Int → Bool
  | [], _ => true
  | x :: l, top => right x top && rightL l top
end
theorem right_eq (x : S24) (top : Int) : right x top = (!(x.f0 == 1 && decide (top < x.f1)) && rightL x.f2 top) := by
  cases x
  rw [right]
theorem rightL_all (l : List S24) (top : Int) : rightL l top = l.all (fun x => right x top) := by
  induction l with
  | nil => rw [rightL]; rfl
  | cons x l ih => rw [rightL, ih]; rfl

/-- An element of a slice of expressions. -/
theorem at24 {w : World} {A : Option Addr} {n : Nat} {xs : List S24} (h : Kd.C k24 w A n xs) (i : Nat) (h1 : i < n) :
    ∃ (ad : Addr) (A2 : Option Addr) (c2 : Nat) (x : S24), A = some ad ∧ xs[i]? = some x ∧ w.cell? (ad.add (i * 3)) = some (.int .i64 x.f0) ∧ w.cell? ⟨(ad.add (i * 3)).block, (ad.add (i * 3)).off + 1, none⟩ = some (.int .i64 x.f1) ∧
      w.cell? ⟨(ad.add (i * 3)).block, (ad.add (i * 3)).off + 2, none⟩ = some (.slice A2 x.f2.length c2) ∧ x.f2.length ≤ c2 ∧ k24.C w A2 x.f2.length x.f2 := by
  obtain ⟨ad, A2, c2, e, a0, a1, a2, hl, hc⟩ := at_T24 h (i : Int) (by omega) (by omega)
  have hx : xs[i]? = some (rd_T24 xs i) := by
    have hlen : i < xs.length := by have := h.1; omega
    rw [rd_T24, Int.toNat_natCast, List.getD_eq_getElem?_getD, List.getElem?_eq_getElem hlen]
    rfl
  exact ⟨ad, A2, c2, rd_T24 xs i, e, hx, by simpa using a0, by simpa using a1, by simpa using a2, hl, hc⟩
theorem cellB {w w' : World} (hb : Below w.heap.size w w') {a : Addr} {v : Value} (h : w.cell? a = some v) : w'.cell? a = some v := (hb.cell (World.block_lt_of_cell? w _ h)).trans h

/-- What the closure that is handed over does, at the elements of a list. -/
def Tests (f : Nat) (cap : Value) (w0 : World) (xs : List S24) (p : S24 → Bool) : Prop :=
  ∀ x ∈ xs, ∀ (A : Option Addr) (c : Nat) (w : World), Below w0.heap.size w0 w → Kd.C k24 w A x.f2.length x.f2 → x.f2.length ≤ c →
    Calls Try.prog f #[.agg #[.int .i64 x.f0, .int .i64 x.f1, .slice A x.f2.length c], cap] w fun e w' => e = .returned (.bool (p x)) ∧ Below w.heap.size w w'
def IdxPost (xs : List S24) (p : S24 → Bool) (w : World) (e : Ending) (w' : World) : Prop :=
  ∃ r : Int, e = .returned (.int .i64 r) ∧ (decide (0 ≤ r) = xs.any p) ∧ Below w.heap.size w w'
set_option maxHeartbeats 4000000 in
set_option maxRecDepth 100000 in
theorem index_calls (cap : Value) (p : S24 → Bool) (A : Option Addr) (c : Nat) (xs : List S24) (w : World) (hC : Kd.C k24 w A xs.length xs) (hc : xs.length ≤ c) (H : Tests 39 cap w xs p) :
    Calls Try.prog 44 #[.slice A xs.length c, .func (.func 39) #[] #[cap]] w (IdxPost xs p w) := by
  have hu24 := Try.underlying24
  have hmax : xs.length ≤ 9223372036854775807 := hC.2.1
  have HC := Lib.hid hC
  have HT := Lib.hid H
  clear hC H hc
  go_enter Try.func44, Try.ntmps44
  go_wp2
  go_loopg [8] xs.length (fun n v8 wr => ∃ k : Nat, v8 = .int .i64 k ∧ Hid (k ≤ xs.length) ∧ Hid (n = xs.length - k) ∧ Hid (Below w.heap.size w wr) ∧ Hid ((xs.take k).any p = false))
  case atStart => exact ⟨0, rfl, Lib.hid (by omega), Lib.hid (by omega), Lib.hid (Below.refl _ _), Lib.hid (by simp)⟩
  case round =>
    obtain ⟨k, rfl, HK, HN, B, HS⟩ := hrel
    by_cases hk : k < xs.length
    · have hkb : decide ((k : Int) < (xs.length : Int)) = true := decide_eq_true (by omega)
      obtain ⟨ad, A2, c2, x, rfl, hx, a0, a1, a2, hl2, hC2⟩ := at24 HC.out k hk
      have a0 := cellB B.out a0
      have a1 := cellB B.out a1
      have a2 := cellB B.out a2
      have hCt := HT.out x (List.mem_of_getElem? hx) A2 c2 wr B.out (Kd.C_below hC2 B.out) hl2
      have hk' : k + 1 ≤ 9223372036854775807 := by omega
      clear hC2 hl2
      have HX := Lib.hid hx
      clear hx
      cases hpx : p x with
      | true =>
        rw [hpx] at hCt
        have HCt := Lib.hid hCt
        have HA : Hid (xs.any p = true) := Lib.hid (by
          rw [List.any_eq_true]
          exact ⟨x, List.mem_of_getElem? HX.out, hpx⟩)
        clear hCt hpx
        go_wp2_with (go_at_call 39; refine HCt.out.mono ?_; rintro e w2 ⟨rfl, hb2⟩)
        go_ret
        exact ⟨k, rfl, by rw [HA.out]; exact decide_eq_true (by omega), B.out.trans ⟨hb2.os, hb2.tape, hb2.output, hb2.size, fun j hj => hb2.block j (Nat.lt_of_lt_of_le hj B.out.size)⟩⟩
      | false =>
        rw [hpx] at hCt
        have HCt := Lib.hid hCt
        have HA : Hid ((xs.take (k + 1)).any p = false) := Lib.hid (by
          rw [List.take_add_one, List.any_append, HS.out, HX.out]
          simp [hpx])
        clear hCt hpx
        go_wp2_with (go_at_call 39; refine HCt.out.mono ?_; rintro e w2 ⟨rfl, hb2⟩)
        go_roundg (xs.length - (k + 1))
        case measure => have := HN.out; omega
        case rel => exact ⟨k + 1, by go_num, Lib.hid (by omega), Lib.hid rfl, Lib.hid (B.out.trans ⟨hb2.os, hb2.tape, hb2.output, hb2.size, fun j hj => hb2.block j (Nat.lt_of_lt_of_le hj B.out.size)⟩), HA⟩
    · have hkb : decide ((k : Int) < (xs.length : Int)) = false := decide_eq_false (by omega)
      go_wp2
      go_ret
      refine ⟨-1, rfl, ?_, B.out⟩
      have := HS.out
      rw [List.take_of_length_le (by omega)] at this
      rw [this]
      decide
set_option maxHeartbeats 4000000 in
set_option maxRecDepth 100000 in
theorem contains_calls (cap : Value) (p : S24 → Bool) (A : Option Addr) (c : Nat) (xs : List S24) (w : World) (hC : Kd.C k24 w A xs.length xs) (hc : xs.length ≤ c) (H : Tests 39 cap w xs p) :
    Calls Try.prog 38 #[.slice A xs.length c, .func (.func 39) #[] #[cap]] w fun e w' => e = .returned (.bool (xs.any p)) ∧ Below w.heap.size w w' := by
  have HI := Lib.hid (index_calls cap p A c xs w hC hc H)
  clear hC hc H
  go_enter Try.func38, Try.ntmps38
  go_wp2_with (go_at_call 44; refine HI.out.mono ?_; rintro e w2 ⟨r, rfl, hr, hb2⟩; have HR := Lib.hid hr; clear hr)
  all_goals go_ret
  all_goals refine ⟨congrArg Ending.returned ?_, hb2⟩
  all_goals rw [← HR.out]
  all_goals rfl

theorem below_then' {a b c : World} (h : Below a.heap.size a b) (k : Below b.heap.size b c) : Below a.heap.size a c :=
  h.trans ⟨k.os, k.tape, k.output, k.size, fun j hj => k.block j (Nat.lt_of_lt_of_le hj h.size)⟩
def RightAt (x : S24) : Prop := ∀ (top : Int) (A : Option Addr) (c : Nat) (w : World), Kd.C k24 w A x.f2.length x.f2 → x.f2.length ≤ c →
  Calls Try.prog 33 #[.agg #[.int .i64 x.f0, .int .i64 x.f1, .slice A x.f2.length c], .int .i64 top] w fun e w' => e = .returned (.bool (right x top)) ∧ Below w.heap.size w w'
set_option maxHeartbeats 4000000 in
set_option maxRecDepth 100000 in
theorem closure_calls (x : S24) (h : RightAt x) (top : Int) (g : Nat) (A : Option Addr) (c : Nat) (w : World) (hb : w.heap[g]? = some (.cells #[.int .i64 top] 3 (0, 0))) (hC : Kd.C k24 w A x.f2.length x.f2) (hc : x.f2.length ≤ c) :
    Calls Try.prog 39 #[.agg #[.int .i64 x.f0, .int .i64 x.f1, .slice A x.f2.length c], .pointer (some ⟨g, 0, none⟩)] w fun e w' => e = .returned (.bool (!right x top)) ∧ Below w.heap.size w w' := by
  have hB : Below w.heap.size w (w.alloc (.cells #[.int .i64 x.f0, .int .i64 x.f1, .slice A x.f2.length c] 24)) := (Below.refl _ _).alloc (Nat.le_refl _) _
  have HR := Lib.hid (h top A c (w.alloc (.cells #[.int .i64 x.f0, .int .i64 x.f1, .slice A x.f2.length c] 24)) (Kd.C_below hC hB) hc)
  have HB := Lib.hid hB
  have c0 : (w.alloc (.cells #[.int .i64 x.f0, .int .i64 x.f1, .slice A x.f2.length c] 24)).cell? ⟨g, 0, none⟩ = some (.int .i64 top) := cellB hB (cell_of_row w g 0 _ _ _ hb)
  have hu24 := Try.underlying24
  clear hC hc hB hb h
  go_enter Try.func39, Try.ntmps39
  go_wp2_with (go_at_call 33; refine HR.out.mono ?_; rintro e w2 ⟨rfl, hb2⟩)
  go_ret
  exact ⟨rfl, below_then' HB.out hb2⟩
set_option maxHeartbeats 4000000 in
set_option maxRecDepth 100000 in
theorem right_at : ∀ (n : Nat) (x : S24), SizeOf.sizeOf x < n → RightAt x := by
  intro n
  induction n with
  | zero => intro x h; exact absurd h (by omega)
  | succ n ih =>
    intro x hx top A c w hC hc
    have IH : Hid (∀ y ∈ x.f2, RightAt y) := Lib.hid fun y hy => ih y (by
      have := List.sizeOf_lt_of_mem hy
      have h2 : SizeOf.sizeOf x = 1 + SizeOf.sizeOf x.f0 + SizeOf.sizeOf x.f1 + SizeOf.sizeOf x.f2 := by cases x; simp
      omega)
    clear ih hx
    have hu24 := Try.underlying24
    have hB : Below w.heap.size w ((w.alloc (.cells #[.int .i64 x.f0, .int .i64 x.f1, .slice A x.f2.length c] 24)).alloc (.cells #[.int .i64 top] 3)) := ((Below.refl _ _).alloc (Nat.le_refl _) _).alloc (by simp) _
    have hT : ((w.alloc (.cells #[.int .i64 x.f0, .int .i64 x.f1, .slice A x.f2.length c] 24)).alloc (.cells #[.int .i64 top] 3)).heap[w.heap.size + 1]? = some (.cells #[.int .i64 top] 3 (0, 0)) := by
      have h0 := heap_alloc_new (w.alloc (.cells #[.int .i64 x.f0, .int .i64 x.f1, .slice A x.f2.length c] 24)) (.cells #[.int .i64 top] 3)
      simpa using h0
    have HC := Lib.hid (contains_calls (.pointer (some ⟨w.heap.size + 1, 0, none⟩)) (fun y => !right y top) A c x.f2 _ (Kd.C_below hC hB) hc (fun y hy A2 c2 w2 hb2 hC2 hc2 =>
      closure_calls y (IH.out y hy) top (w.heap.size + 1) A2 c2 w2 ((hb2.block _ (Array.getElem?_eq_some_iff.1 hT).1).trans hT) hC2 hc2))
    have HB := Lib.hid hB
    have HE := Lib.hid (right_eq x top)
    have HL := Lib.hid (rightL_all x.f2 top)
    clear hC hc hB hT IH
    by_cases h1 : x.f0 = 1
    · by_cases h2 : top < x.f1
      · have b1 : (x.f0 == 1) = true := beq_iff_eq.2 h1
        have b2 : decide (top < x.f1) = true := decide_eq_true h2
        have R : Hid (right x top = false) := Lib.hid (by rw [HE.out, b1, b2]; rfl)
        clear h1 h2 HE HL HC
        go_enter Try.func33, Try.ntmps33
        go_wp2
        go_ret
        exact ⟨by rw [R.out]; rfl, HB.out⟩
      · have b1 : (x.f0 == 1) = true := beq_iff_eq.2 h1
        have b2 : decide (top < x.f1) = false := decide_eq_false h2
        have R : Hid (right x top = !(x.f2.any fun y => !right y top)) := Lib.hid (by rw [HE.out, b1, b2, HL.out]; simp [List.all_eq_not_any_not])
        clear h1 h2 HE HL
        go_enter Try.func33, Try.ntmps33
        go_wp2_with (go_at_call 38; refine HC.out.mono ?_; rintro e w2 ⟨rfl, hb2⟩)
        go_ret
        exact ⟨by rw [R.out]; rfl, below_then' HB.out hb2⟩
    · have b1 : (x.f0 == 1) = false := beq_eq_false_iff_ne.2 h1
      have R : Hid (right x top = !(x.f2.any fun y => !right y top)) := Lib.hid (by rw [HE.out, b1, HL.out]; simp [List.all_eq_not_any_not])
      clear h1 HE HL
      go_enter Try.func33, Try.ntmps33
      go_wp2_with (go_at_call 38; refine HC.out.mono ?_; rintro e w2 ⟨rfl, hb2⟩)
      go_ret
      exact ⟨by rw [R.out]; rfl, below_then' HB.out hb2⟩

/-- As the print's texts want it. -/
def ring_right.f (a0_0 a0_1 : Int) (l0_2 : List S24) (a1 : Int) : Option Bool := some (right ⟨a0_0, a0_1, l0_2⟩ a1)
theorem ring_right.calls (a0_0 : Int) (a0_1 : Int) (A0_2 : Option Addr) (c0_2 : Nat) (l0_2 : List (S24)) (a1 : Int) (r : Bool) (w : World) (hr0_2 : Kd.C k24 w A0_2 l0_2.length l0_2) (hc0_2 : l0_2.length ≤ c0_2) (h : ring_right.f a0_0 a0_1 l0_2 a1 = some r) :
    Calls Try.prog 33 #[.agg #[.int .i64 a0_0, .int .i64 a0_1, .slice A0_2 l0_2.length c0_2], .int .i64 a1] w fun e w' => e = .returned (.bool r) ∧ Below w.heap.size w w' := by
  obtain rfl := Option.some.inj h
  exact right_at (SizeOf.sizeOf (⟨a0_0, a0_1, l0_2⟩ : S24) + 1) ⟨a0_0, a0_1, l0_2⟩ (by omega) a1 A0_2 c0_2 w hr0_2 hc0_2
end Go.Proofs.Ytjnplfbggklkfaa.Rg

/- Maps from arrays of eight ints to ints, as the ring keeps its normal forms: what the operations on their blocks do. -/
namespace Go.Proofs.Ytjnplfbggklkfaa
open Go.RowKit
set_option linter.unusedVariables false
set_option linter.unusedSimpArgs false

/-- The cells of an exponent vector. -/
def exC (k : List Int) : Array Value := (k.map fun x => Value.int .i64 x).toArray
/-- An exponent vector: eight numbers that are ints. -/
def Vec (k : List Int) : Prop := k.length = 8 ∧ ∀ x ∈ k, -9223372036854775808 ≤ x ∧ x ≤ 9223372036854775807

theorem arr54 : WideMaps.ArrKey Try.prog 54 3 8 where
  hu := Try.underlying54
  plain := by kernel_rfl
  one := by kernel_rfl
  size := by kernel_rfl
theorem law54 : WideMaps.KeyLaw Try.prog 54 := arr54.law

theorem len8 (k : List Int) (h : k.length = 8) : ∃ a b c d e f g i, k = [a, b, c, d, e, f, g, i] := by
  match k, h with
  | [a, b, c, d, e, f, g, i], _ => exact ⟨a, b, c, d, e, f, g, i, rfl⟩
theorem kt54 : Try.prog.keyType 54 = true := by kernel_rfl
theorem sz54 : Try.prog.cellsOf 54 = 8 := by kernel_rfl
theorem sz3 : Try.prog.cellsOf 3 = 1 := by kernel_rfl
theorem nt : Try.prog.types.size = 93 := by kernel_rfl

theorem lits3 (d : Nat) (x : Int) (h : -9223372036854775808 ≤ x ∧ x ≤ 9223372036854775807) : Try.prog.keyLits (d + 1) 3 [.int .i64 x] = some [.int .i64 x] := by
  unfold Program.keyLits
  rw [Try.underlying3]
  simp [WalkArith.wf_i64 h]
theorem range8 : List.range 8 = [0, 1, 2, 3, 4, 5, 6, 7] := by decide
theorem key54 (k : List Int) (h : Vec k) : ∃ l, keyOf Try.prog 54 (.agg (exC k)) = some l := by
  obtain ⟨h8, hb⟩ := h
  obtain ⟨a, b, c, d, e, f, g, i, rfl⟩ := len8 k h8
  simp only [List.mem_cons, List.not_mem_nil, or_false, forall_eq_or_imp, forall_eq] at hb
  obtain ⟨ha, hb, hc, hd, he, hf, hg, hi⟩ := hb
  have hk : Try.prog.keyLits 94 54 [.int .i64 a, .int .i64 b, .int .i64 c, .int .i64 d, .int .i64 e, .int .i64 f, .int .i64 g, .int .i64 i] = some [.int .i64 a, .int .i64 b, .int .i64 c, .int .i64 d, .int .i64 e, .int .i64 f, .int .i64 g, .int .i64 i] := by
    rw [show (94 : Nat) = 92 + 1 + 1 from rfl]
    unfold Program.keyLits
    rw [Try.underlying54]
    dsimp only
    rw [if_pos (by rw [sz54]; rfl), sz3, range8]
    simp only [List.mapM_cons, List.mapM_nil, Nat.reduceMul, List.drop_succ_cons, List.drop_zero, List.take_succ_cons, List.take_zero, lits3 _ _ ha, lits3 _ _ hb, lits3 _ _ hc, lits3 _ _ hd, lits3 _ _ he, lits3 _ _ hf, lits3 _ _ hg, lits3 _ _ hi, Option.pure_def, Option.bind_eq_bind, Option.bind_some, Option.map_some, List.flatten_cons, List.flatten_nil, List.append_nil, List.cons_append, List.nil_append]
  refine Option.isSome_iff_exists.1 ?_
  · unfold keyOf
    rw [Try.underlying54]
    dsimp only
    rw [kt54, nt]
    have hfm : (Value.agg (exC [a, b, c, d, e, f, g, i])).formed Try.prog 54 = true := by
      unfold Value.formed
      rw [Try.underlying54]
      dsimp only
      rw [sz54]
      rfl
    rw [hfm]
    simp only [Bool.and_self, if_true]
    show (Option.map _ (Try.prog.keyLits 94 54 [.int .i64 a, .int .i64 b, .int .i64 c, .int .i64 d, .int .i64 e, .int .i64 f, .int .i64 g, .int .i64 i])).isSome = true
    rw [hk]
    rfl

/-! ### Association lists -/
abbrev Asc := List (List Int × Int)
def getA : Asc → List Int → Int
  | [], _ => 0
  | p :: es, k => if p.1 = k then p.2 else getA es k
def hasA : Asc → List Int → Bool
  | [], _ => false
  | p :: es, k => if p.1 = k then true else hasA es k
def idxA : Asc → List Int → Nat
  | [], _ => 0
  | p :: es, k => if p.1 = k then 0 else idxA es k + 1
def setA (es : Asc) (k : List Int) (c : Int) : Asc := if hasA es k then es.set (idxA es k) (k, c) else es ++ [(k, c)]
/-- The key is there, if with 0. -/
def touchA (es : Asc) (k : List Int) : Asc := if hasA es k then es else es ++ [(k, 0)]

def entOf (p : (List Int × Int) × Nat) : MapEntry := { key := .agg (exC p.1.1), val := .int .i64 p.1.2, born := p.2 }
/-- The entries of a map that is filled in this order, nothing ever struck. -/
def ents (es : Asc) : Array MapEntry := (es.zipIdx.map entOf).toArray
theorem ents_size (es : Asc) : (ents es).size = es.length := by simp [ents]
theorem ents_get (es : Asc) (i : Nat) : (ents es)[i]? = (es[i]?).map fun p => entOf (p, i) := by
  simp [ents, List.getElem?_zipIdx, Function.comp_def]
theorem ents_push (es : Asc) (k : List Int) (c : Int) : (ents es).push { key := .agg (exC k), val := .int .i64 c, born := es.length } = ents (es ++ [(k, c)]) := by
  simp [ents, List.zipIdx_append, entOf]
theorem ents_set (es : Asc) (i : Nat) (k : List Int) (c : Int) (hk : (es[i]?).map (·.1) = some k) : ((ents es).modify i fun e => { e with val := .int .i64 c }) = ents (es.set i (k, c)) := by
  apply Array.ext_getElem?
  intro j
  rw [Array.getElem?_modify, ents_get, ents_get, List.getElem?_set]
  by_cases hj : i = j
  · subst hj
    simp only [if_true]
    cases hp : es[i]? with
    | none => simp [hp] at hk
    | some p =>
      obtain ⟨hlt, _⟩ := List.getElem?_eq_some_iff.1 hp
      rw [hp] at hk
      simp only [Option.map_some, Option.some.injEq] at hk
      simp [hlt, entOf, hk]
  · simp [hj]
theorem ents_key (es : Asc) (i : Nat) (k : List Int) (hk : (es[i]?).map (·.1) = some k) : ((ents es).modify i fun e => { e with key := .agg (exC k) }) = ents es := by
  apply Array.ext_getElem?
  intro j
  rw [Array.getElem?_modify, ents_get]
  by_cases hj : i = j
  · subst hj
    cases hp : es[i]? with
    | none => simp [hp] at hk
    | some p =>
      rw [hp] at hk
      simp only [Option.map_some, Option.some.injEq] at hk
      simp [entOf, hk]
  · simp [hj]

theorem map_inj {k k' : List Int} (h : k.map (fun x => Value.int .i64 x) = k'.map (fun x => Value.int .i64 x)) : k = k' := by
  induction k generalizing k' with
  | nil => cases k' with
    | nil => rfl
    | cons a r => simp at h
  | cons a r ih => cases k' with
    | nil => simp at h
    | cons b s =>
      simp only [List.map_cons, List.cons.injEq, Value.int.injEq, true_and] at h
      rw [h.1, ih h.2]
theorem exC_inj {k k' : List Int} (h : exC k = exC k') : k = k' := map_inj (by simpa [exC] using h)

/-- Block r is a map that holds these entries. -/
structure MapIs (w : World) (r : Nat) (es : Asc) : Prop where
  blk : w.heap[r]? = some (.map (ents es) es.length)
  vec : ∀ p ∈ es, Vec p.1
  nd : (es.map (·.1)).Nodup

theorem keys_all (es : Asc) (h : ∀ p ∈ es, Vec p.1) : ∀ e ∈ (ents es).toList, ∃ l, keyOf Try.prog 54 e.key = some l := by
  intro e he
  rw [ents, List.toList_toArray, List.mem_map] at he
  obtain ⟨q, hq, rfl⟩ := he
  exact key54 _ (h _ (List.fst_mem_of_mem_zipIdx hq))

theorem idx_lt : ∀ {es : Asc} {k : List Int}, hasA es k = true → idxA es k < es.length
  | [], k, h => by simp [hasA] at h
  | p :: es, k, h => by
    unfold hasA at h
    unfold idxA
    split
    · simp
    · rename_i hne
      rw [if_neg hne] at h
      have := idx_lt h
      simp only [List.length_cons]
      omega
theorem idx_get : ∀ {es : Asc} {k : List Int}, hasA es k = true → es[idxA es k]? = some (k, getA es k)
  | [], k, h => by simp [hasA] at h
  | p :: es, k, h => by
    unfold hasA at h
    unfold idxA getA
    split
    · rename_i he
      subst he
      simp
    · rename_i hne
      rw [if_neg hne] at h
      simpa using idx_get h
theorem has_of_mem : ∀ {es : Asc} {k : List Int}, k ∈ es.map (·.1) → hasA es k = true
  | [], k, h => by simp at h
  | p :: es, k, h => by
    unfold hasA
    split
    · rfl
    · rename_i hne
      rw [List.map_cons, List.mem_cons] at h
      rcases h with h | h
      · exact absurd h.symm hne
      · exact has_of_mem h
theorem mem_of_has {es : Asc} {k : List Int} (h : hasA es k = true) : k ∈ es.map (·.1) := by
  have := idx_get h
  exact List.mem_map.2 ⟨_, List.mem_of_getElem? this, rfl⟩
theorem get_none : ∀ {es : Asc} {k : List Int}, hasA es k = false → getA es k = 0
  | [], k, h => rfl
  | p :: es, k, h => by
    unfold hasA at h
    unfold getA
    split
    · rename_i he
      rw [if_pos he] at h
      cases h
    · rename_i hne
      rw [if_neg hne] at h
      exact get_none h
theorem nodup_idx {α : Type} {a : α} : ∀ {l : List α}, l.Nodup → ∀ {i j : Nat}, l[i]? = some a → l[j]? = some a → i = j
  | [], _, i, j, h, _ => by simp at h
  | x :: l, nd, i, j, hi, hj => by
    obtain ⟨hx, nd⟩ := List.nodup_cons.1 nd
    cases i with
    | zero => cases j with
      | zero => rfl
      | succ j =>
        simp only [List.getElem?_cons_zero, Option.some.injEq] at hi
        subst hi
        exact absurd (List.mem_of_getElem? (by simpa using hj)) hx
    | succ i => cases j with
      | zero =>
        simp only [List.getElem?_cons_zero, Option.some.injEq] at hj
        subst hj
        exact absurd (List.mem_of_getElem? (by simpa using hi)) hx
      | succ j => rw [nodup_idx nd (i := i) (j := j) (by simpa using hi) (by simpa using hj)]
/-- In a list without doubles the place of a key is the place. -/
theorem idx_only {es : Asc} {k : List Int} (nd : (es.map (·.1)).Nodup) {j : Nat} {c : Int} (h : es[j]? = some (k, c)) : hasA es k = true ∧ idxA es k = j ∧ getA es k = c := by
  have hm : hasA es k = true := has_of_mem (List.mem_map.2 ⟨_, List.mem_of_getElem? h, rfl⟩)
  have hg := idx_get hm
  have e : idxA es k = j := by
    have h1 : (es.map (·.1))[idxA es k]? = some k := by rw [List.getElem?_map, hg]; rfl
    have h2 : (es.map (·.1))[j]? = some k := by rw [List.getElem?_map, h]; rfl
    exact nodup_idx nd h1 h2
  refine ⟨hm, e, ?_⟩
  rw [e, h] at hg
  injection hg with hg
  injection hg with _ hg
  exact hg.symm

/-- What finding a key comes to. -/
theorem run_find (es : Asc) (k : List Int) (hk : Vec k) (h : ∀ p ∈ es, Vec p.1) (nd : (es.map (·.1)).Nodup) (w : World) :
    (Instr.findKey 54 (.agg (exC k)) (ents es).toList).run Try.prog w = .ok (if hasA es k then some (idxA es k, .int .i64 (getA es k)) else none) w := by
  obtain ⟨l, hl⟩ := key54 k hk
  rcases law54.find w hl (ents es).toList (keys_all es h) with ⟨h1, h2⟩ | ⟨j, e, h1, h2, h3⟩
  · rw [h1]
    have : hasA es k = false := by
      cases hh : hasA es k with
      | false => rfl
      | true =>
        have hg := idx_get hh
        refine absurd rfl (h2 (entOf ((k, getA es k), idxA es k)) ?_)
        rw [Array.mem_toList_iff]
        exact Array.mem_of_getElem? (i := idxA es k) (by rw [ents_get, hg]; rfl)
    rw [this]
    rfl
  · rw [h1]
    rw [Array.getElem?_toList, ents_get] at h2
    obtain ⟨p, hp, rfl⟩ := Option.map_eq_some_iff.1 h2
    have hpk : p.1 = k := exC_inj (by injection h3)
    obtain ⟨a, b, c⟩ := idx_only nd (k := k) (j := j) (c := p.2) (by rw [hp, ← hpk])
    rw [a, b, c]
    rfl

theorem elem3 (w : World) : (zeroValue 3).run Try.prog w = .ok (.int .i64 0) w := by kernel_rfl

theorem run_look {w : World} {r : Nat} {es : Asc} (hm : MapIs w r es) {k : List Int} (hk : Vec k) :
    (Instr.lookup 41 (.map (some r)) (.agg (exC k)) false).run Try.prog w = .ok (.int .i64 (getA es k)) w := by
  obtain ⟨l, hl⟩ := key54 k hk
  have hc := law54.check w (ents es).isEmpty hl
  have hf := run_find es k hk hm.vec hm.nd w
  have hg : (getObj r).run Try.prog w = .ok (.map (ents es) es.length) w := by simp [getObj, Sem.run, hm.blk]
  simp only [Instr.lookup, Sem.run_bind, run_underlying Try.underlying41, Result.andThen_ok, hg, Sem.run_pure, hc, hf]
  cases hh : hasA es k with
  | true => simp
  | false => simp [elem3, get_none hh]
/-- The world with another map in block r. -/
def putMap (w : World) (r : Nat) (es : Asc) : World := { w with heap := w.heap.setIfInBounds r (.map (ents es) es.length) }
theorem putMap_is {w : World} {r : Nat} {o : Obj} (h : w.heap[r]? = some o) (es : Asc) (hv : ∀ p ∈ es, Vec p.1) (nd : (es.map (·.1)).Nodup) : MapIs (putMap w r es) r es := by
  refine ⟨?_, hv, nd⟩
  obtain ⟨hl, _⟩ := Array.getElem?_eq_some_iff.1 h
  simp [putMap, hl]
theorem putMap_other (w : World) {r j : Nat} (es : Asc) (h : j ≠ r) : (putMap w r es).heap[j]? = w.heap[j]? := by
  simp only [putMap]
  rw [Array.getElem?_setIfInBounds_ne (by omega)]
theorem touch_has (es : Asc) (k : List Int) : hasA (touchA es k) k = true := by
  unfold touchA
  cases h : hasA es k with
  | true => simpa using h
  | false => exact has_of_mem (by simp)
theorem idx_append : ∀ {es : Asc} {k : List Int} {c : Int}, hasA es k = false → idxA (es ++ [(k, c)]) k = es.length ∧ getA (es ++ [(k, c)]) k = c
  | [], k, c, h => by simp [idxA, getA]
  | p :: es, k, c, h => by
    unfold hasA at h
    simp only [List.cons_append, idxA, getA]
    split
    · rename_i he
      rw [if_pos he] at h
      cases h
    · rename_i hne
      rw [if_neg hne] at h
      obtain ⟨a, b⟩ := idx_append (c := c) h
      exact ⟨by rw [a]; rfl, b⟩
theorem has_append : ∀ {es : Asc} {k k' : List Int} {c : Int}, hasA (es ++ [(k, c)]) k' = (hasA es k' || decide (k = k'))
  | [], k, k', c => by simp [hasA]
  | p :: es, k, k', c => by
    simp only [List.cons_append, hasA]
    split
    · simp
    · exact has_append
theorem get_append : ∀ {es : Asc} {k k' : List Int} {c : Int}, getA (es ++ [(k, c)]) k' = if hasA es k' then getA es k' else if k = k' then c else 0
  | [], k, k', c => by simp [hasA, getA]
  | p :: es, k, k', c => by
    simp only [List.cons_append, hasA, getA]
    split
    · simp
    · exact get_append
theorem touch_get (es : Asc) (k k' : List Int) : getA (touchA es k) k' = getA es k' := by
  unfold touchA
  cases h : hasA es k with
  | true => simp
  | false =>
    simp only [Bool.false_eq_true, if_false]
    rw [get_append]
    cases h2 : hasA es k' with
    | true => simp
    | false =>
      rw [get_none h2]
      simp
theorem has_false {es : Asc} {k : List Int} (h : hasA es k = false) : k ∉ es.map (·.1) := fun hm => by
  rw [has_of_mem hm] at h
  cases h
theorem touch_ok {es : Asc} {k : List Int} (hk : Vec k) (hv : ∀ p ∈ es, Vec p.1) (nd : (es.map (·.1)).Nodup) : (∀ p ∈ touchA es k, Vec p.1) ∧ ((touchA es k).map (·.1)).Nodup := by
  unfold touchA
  cases h : hasA es k with
  | true => exact ⟨by simpa using hv, by simpa using nd⟩
  | false =>
    simp only [Bool.false_eq_true, if_false]
    refine ⟨fun p hp => ?_, ?_⟩
    · rcases List.mem_append.1 hp with hp | hp
      · exact hv p hp
      · rw [List.mem_singleton.1 hp]
        exact hk
    · rw [List.map_append, List.nodup_append]
      refine ⟨nd, by simp, fun a ha b hb e => ?_⟩
      simp only [List.map_cons, List.map_nil, List.mem_singleton] at hb
      exact has_false h (by rw [← hb, ← e]; exact ha)
theorem set_keys {es : Asc} {k : List Int} {c : Int} : ((setA es k c).map (·.1)) = (touchA es k).map (·.1) := by
  unfold setA touchA
  cases h : hasA es k with
  | true =>
    simp only [if_true, List.map_set]
    have := idx_get h
    apply List.ext_getElem?
    intro j
    rw [List.getElem?_set]
    split
    · rename_i e
      subst e
      simp [idx_lt h, this]
      have hl := idx_lt h
      rw [List.getElem?_eq_getElem hl] at this
      injection this with this
      rw [this]
    · rfl
  | false => simp
theorem set_ok {es : Asc} {k : List Int} {c : Int} (hk : Vec k) (hv : ∀ p ∈ es, Vec p.1) (nd : (es.map (·.1)).Nodup) : (∀ p ∈ setA es k c, Vec p.1) ∧ ((setA es k c).map (·.1)).Nodup := by
  obtain ⟨a, b⟩ := touch_ok hk hv nd
  refine ⟨fun p hp => ?_, by rw [set_keys]; exact b⟩
  have : p.1 ∈ (setA es k c).map (·.1) := List.mem_map.2 ⟨p, hp, rfl⟩
  rw [set_keys] at this
  obtain ⟨q, hq, e⟩ := List.mem_map.1 this
  rw [← e]
  exact a q hq
theorem set_touch {es : Asc} {k : List Int} {c : Int} : (touchA es k).set (idxA (touchA es k) k) (k, c) = setA es k c := by
  unfold touchA setA
  cases h : hasA es k with
  | true => simp
  | false =>
    simp only [Bool.false_eq_true, if_false]
    rw [(idx_append h).1]
    simp
theorem set_get {es : Asc} {k k' : List Int} {c : Int} (nd : (es.map (·.1)).Nodup) : getA (setA es k c) k' = if k = k' then c else getA es k' := by
  unfold setA
  cases h : hasA es k with
  | false =>
    simp only [Bool.false_eq_true, if_false]
    rw [get_append]
    by_cases e : k = k'
    · subst e
      simp [h]
    · simp only [if_neg e]
      cases h2 : hasA es k' with
      | true => simp
      | false => simp [get_none h2]
  | true =>
    simp only [if_true]
    induction es with
    | nil => simp [hasA] at h
    | cons p es ih =>
      unfold hasA at h
      unfold idxA
      by_cases e0 : p.1 = k
      · rw [if_pos e0]
        simp only [List.set_cons_zero, getA]
        by_cases e : k = k'
        · simp [e]
        · rw [if_neg e, if_neg e]
          rw [e0, if_neg e]
      · rw [if_neg e0] at h
        rw [if_neg e0]
        simp only [List.set_cons_succ, getA]
        rw [ih (List.nodup_cons.1 (by simpa using nd)).2 h]
        by_cases e : k = k'
        · subst e
          simp [e0]
        · simp [e]

theorem agg_bits : ∀ (l : List Value), (∀ v ∈ l, ∃ x, v = .int .i64 x) → (l.zip l).all (fun (x, y) => Instr.sameBits 9999 x y) = true
  | [], _ => rfl
  | v :: l, h => by
    obtain ⟨x, rfl⟩ := h v (by simp)
    simp only [List.zip_cons_cons, List.all_cons, Bool.and_eq_true]
    exact ⟨by simp [Instr.sameBits], agg_bits l fun v hv => h v (by simp [hv])⟩
theorem run_entry_ {w : World} {r : Nat} {es : Asc} (hm : MapIs w r es) {k : List Int} (hk : Vec k) :
    (Instr.mapEntry 41 (.map (some r)) (.agg (exC k))).run Try.prog w = .ok (.tuple #[.int .i64 (getA es k), .int .i64 (idxA (touchA es k) k : Nat)]) (putMap w r (touchA es k)) := by
  obtain ⟨l, hl⟩ := key54 k hk
  have hc := law54.check w false hl
  have hst := fun w => law54.stays w hl
  have hf := run_find es k hk hm.vec hm.nd w
  have hg : (getObj r).run Try.prog w = .ok (.map (ents es) es.length) w := by simp [getObj, Sem.run, hm.blk]
  have hs : ∀ o, (setObj r o).run Try.prog w = .ok () { w with heap := w.heap.setIfInBounds r o } := by
    intro o
    simp [setObj, Sem.run, hm.blk]
  have e3 : (Option.map (fun x : MapEntry => (x.born : Int)) (ents es)[idxA es k]?).getD 0 = ((((ents es)[idxA es k]?).map (·.born)).getD 0 : Nat) := by
    cases (ents es)[idxA es k]? <;> rfl
  simp only [Instr.mapEntry, Sem.run_bind, run_underlying Try.underlying41, Result.andThen_ok, hg, hc, hf]
  cases hh : hasA es k with
  | true =>
    have hi := idx_get hh
    have hlt := idx_lt hh
    have e1 : ((((ents es)[idxA es k]?).map (·.key)).getD (.agg (exC k))) = .agg (exC k) := by rw [ents_get, hi]; rfl
    have e2 : (((ents es)[idxA es k]?).map (·.born)).getD 0 = idxA es k := by rw [ents_get, hi]; rfl
    simp only [if_true, Sem.run_bind, e1, hst, Result.andThen_ok, hs, e2, Sem.run_pure]
    rw [ents_key es _ k (by rw [hi]; rfl)]
    simp only [goInt, touchA, hh, putMap, if_true, e3, e2]
  | false =>
    simp only [Bool.false_eq_true, if_false, Sem.run_bind, elem3, Result.andThen_ok, hs, Sem.run_pure]
    rw [ents_push]
    simp only [goInt, touchA, hh, putMap, Bool.false_eq_true, if_false, get_none hh, (idx_append hh).1, List.length_append, List.length_cons, List.length_nil]
theorem ents_find (es : Asc) (i : Nat) (h : i < es.length) : (ents es).findIdx? (fun e => (e.born : Int) == (i : Int)) = some i := by
  rw [Array.findIdx?_eq_some_iff_getElem]
  refine ⟨by rw [ents_size]; exact h, ?_, fun j hj => ?_⟩
  · have : (ents es)[i]? = some (entOf (es[i], i)) := by rw [ents_get, List.getElem?_eq_getElem h]; rfl
    obtain ⟨h1, h2⟩ := Array.getElem?_eq_some_iff.1 this
    rw [h2]
    simp [entOf]
  · have hjl : j < es.length := by omega
    have : (ents es)[j]? = some (entOf (es[j], j)) := by rw [ents_get, List.getElem?_eq_getElem hjl]; rfl
    obtain ⟨h1, h2⟩ := Array.getElem?_eq_some_iff.1 this
    rw [h2]
    simp [entOf]
    omega
theorem run_store_ {w : World} {r : Nat} {es : Asc} {k : List Int} (hm : MapIs w r (touchA es k)) (c : Int) :
    (Instr.entryStore 41 (.map (some r)) (.int .i64 (idxA (touchA es k) k : Nat)) (.int .i64 c)).run Try.prog w = .ok () (putMap w r (setA es k c)) := by
  have hg : (getObj r).run Try.prog w = .ok (.map (ents (touchA es k)) (touchA es k).length) w := by simp [getObj, Sem.run, hm.blk]
  have hs : ∀ o, (setObj r o).run Try.prog w = .ok () { w with heap := w.heap.setIfInBounds r o } := by
    intro o
    simp [setObj, Sem.run, hm.blk]
  have hh := touch_has es k
  simp only [Instr.entryStore, Sem.run_bind, hg, Result.andThen_ok, asInt, asIntOf, Sem.run_pure, ents_find _ _ (idx_lt hh), hs]
  rw [ents_set _ _ k c (by rw [idx_get hh]; rfl), set_touch]
  have : (touchA es k).length = (setA es k c).length := by
    have := congrArg List.length (set_keys (es := es) (k := k) (c := c))
    simpa using this.symm
  rw [putMap, this]
theorem run_len_ {w : World} {r : Nat} {es : Asc} (hm : MapIs w r es) (ty : TypeId) :
    (Builtin.len_ #[41] ty #[.map (some r)]).run Try.prog w = .ok (.int .i64 es.length) w := by
  have hg : (getObj r).run Try.prog w = .ok (.map (ents es) es.length) w := by simp [getObj, Sem.run, hm.blk]
  simp [Builtin.len_, Sem.run_bind, run_underlying Try.underlying41, hg, goInt, ents_size]

/-- Only block r may have changed; no block is new. -/
structure Only (r : Nat) (w w' : World) : Prop where
  os : w'.os = w.os
  tape : w'.tape = w.tape
  output : w'.output = w.output
  size : w'.heap.size = w.heap.size
  block : ∀ k, k ≠ r → w'.heap[k]? = w.heap[k]?
theorem Only.refl (r : Nat) (w : World) : Only r w w := ⟨rfl, rfl, rfl, rfl, fun _ _ => rfl⟩
theorem Only.trans {r : Nat} {a b c : World} (h : Only r a b) (k : Only r b c) : Only r a c :=
  ⟨k.os.trans h.os, k.tape.trans h.tape, k.output.trans h.output, k.size.trans h.size, fun i hi => (k.block i hi).trans (h.block i hi)⟩
theorem Only.drew {r : Nat} {a b : World} (h : Only r a b) : Only r a b.drew := ⟨h.os, h.tape, h.output, h.size, h.block⟩
theorem Only.below {B r : Nat} {a w w' : World} (h : Only r w w') (hb : Below B a w) (hr : B ≤ r) : Below B a w' :=
  hb.trans ⟨h.os, h.tape, h.output, by rw [h.size]; exact Nat.le_refl _, fun k hk => h.block k (by omega)⟩
theorem putMap_only (w : World) (r : Nat) (es : Asc) : Only r w (putMap w r es) := ⟨rfl, rfl, rfl, by simp [putMap], fun k hk => putMap_other w es hk⟩
theorem MapIs.only {w w' : World} {r q : Nat} {es : Asc} (h : MapIs w r es) (ho : Only q w w') (hne : r ≠ q) : MapIs w' r es := ⟨(ho.block r hne).trans h.blk, h.vec, h.nd⟩
theorem MapIs.below {w w' : World} {r : Nat} {es : Asc} (h : MapIs w r es) (hb : Below w.heap.size w w') : MapIs w' r es :=
  ⟨(hb.block r (Array.getElem?_eq_some_iff.1 h.blk).1).trans h.blk, h.vec, h.nd⟩
theorem MapIs.lt {w : World} {r : Nat} {es : Asc} (h : MapIs w r es) : r < w.heap.size := (Array.getElem?_eq_some_iff.1 h.blk).1

/-- Only block r, of those that were there, may have changed. -/
structure But (r : Nat) (w w' : World) : Prop where
  os : w'.os = w.os
  tape : w'.tape = w.tape
  output : w'.output = w.output
  size : w.heap.size ≤ w'.heap.size
  block : ∀ k, k < w.heap.size → k ≠ r → w'.heap[k]? = w.heap[k]?
theorem But.refl (r : Nat) (w : World) : But r w w := ⟨rfl, rfl, rfl, Nat.le_refl _, fun _ _ _ => rfl⟩
theorem But.of_below {r : Nat} {w w' : World} (h : Below w.heap.size w w') : But r w w' := ⟨h.os, h.tape, h.output, h.size, fun k hk _ => h.block k hk⟩
theorem But.trans {r : Nat} {a b c : World} (h : But r a b) (k : But r b c) : But r a c :=
  ⟨k.os.trans h.os, k.tape.trans h.tape, k.output.trans h.output, Nat.le_trans h.size k.size, fun i hi hne => (k.block i (Nat.lt_of_lt_of_le hi h.size) hne).trans (h.block i hi hne)⟩
theorem Only.but {r : Nat} {w w' : World} (h : Only r w w') : But r w w' := ⟨h.os, h.tape, h.output, by rw [h.size]; exact Nat.le_refl _, fun k _ hne => h.block k hne⟩
theorem But.below {B r : Nat} {a w w' : World} (h : But r w w') (hb : Below B a w) (hB : B ≤ w.heap.size) (hr : B ≤ r) : Below B a w' :=
  hb.trans ⟨h.os, h.tape, h.output, h.size, fun k hk => h.block k (by omega) (by omega)⟩
theorem MapIs.but {w w' : World} {r q : Nat} {es : Asc} (h : MapIs w r es) (ho : But q w w') (hne : r ≠ q) : MapIs w' r es := ⟨(ho.block r h.lt hne).trans h.blk, h.vec, h.nd⟩

/-! ### Ranging over a map that stays as it is -/
/-- Block it is an iterator over the map in block m, which holds n entries; these have been seen. -/
def IterIs (w : World) (it m n : Nat) (seen : List Nat) : Prop := w.heap[it]? = some (.mapIter (some m) n seen.toArray n)
theorem run_range_ {w : World} {r : Nat} {es : Asc} (hm : MapIs w r es) :
    (Instr.range 41 (.map (some r))).run Try.prog w = .ok (.pointer (some ⟨w.heap.size, 0, none⟩)) (w.alloc (.mapIter (some r) es.length #[] es.length)) := by
  have hg : (getObj r).run Try.prog w = .ok (.map (ents es) es.length) w := by simp [getObj, Sem.run, hm.blk]
  simp [Instr.range, Sem.run_bind, run_underlying Try.underlying41, hg, newObj, Sem.run]
theorem left_eq (es : Asc) (seen : List Nat) : (ents es).filter (fun e => !seen.toArray.contains e.born) = ((es.zipIdx.filter fun p => !seen.contains p.2).map entOf).toArray := by
  simp only [ents, List.filter_toArray, List.filter_map]
  congr 2
  apply List.filter_congr
  intro p hp
  simp [entOf, Function.comp]
theorem run_choose (n : Nat) (h : 0 < n) (w : World) : ∃ j w', j < n ∧ (choose (.mapNext n)).run Try.prog w = .ok j w' ∧ w'.heap = w.heap ∧ w'.os = w.os ∧ w'.tape = w.tape ∧ w'.output = w.output := by
  by_cases h1 : n ≤ 1
  · exact ⟨0, w, h, by simp [choose, Sem.run, Question.forced, h1], rfl, rfl, rfl, rfl⟩
  · exact ⟨w.tape w.drawn (.mapNext n) % n, { w with drawn := w.drawn + 1 }, Nat.mod_lt _ h, by simp only [choose, Sem.run, Question.forced, h1, decide_false, Bool.false_eq_true, if_false, Question.cut], rfl, rfl, rfl, rfl⟩
theorem run_next_ {w : World} {it r : Nat} {es : Asc} {seen : List Nat} (hm : MapIs w r es) (hi : IterIs w it r es.length seen) (ty : TypeId) :
    ∃ v w', (Instr.next (.pointer (some ⟨it, 0, none⟩)) false ty).run Try.prog w = .ok v w' ∧ Only it w w' ∧
      ((v = .tuple #[.bool false] ∧ w' = w ∧ ∀ i, i < es.length → i ∈ seen) ∨
       ∃ i k c, es[i]? = some (k, c) ∧ i ∉ seen ∧ v = .tuple #[.bool true, .agg (exC k), .int .i64 c] ∧ IterIs w' it r es.length (seen ++ [i])) := by
  have hg : (getObj r).run Try.prog w = .ok (.map (ents es) es.length) w := by simp [getObj, Sem.run, hm.blk]
  have hgi : (getObj it).run Try.prog w = .ok (.mapIter (some r) es.length seen.toArray es.length) w := by simp [getObj, Sem.run, show w.heap[it]? = _ from hi]
  have hall : (!(ents es).isEmpty && (ents es).all (·.born ≥ es.length)) = false := by
    cases es with
    | nil => simp [ents]
    | cons p es =>
      have : (ents (p :: es)).all (·.born ≥ (p :: es).length) = false := by
        rw [Bool.eq_false_iff]
        intro h
        rw [Array.all_eq_true] at h
        have h0 := h 0 (by rw [ents_size]; simp)
        have h1 : (ents (p :: es))[0]? = some (entOf (p, 0)) := by rw [ents_get]; rfl
        obtain ⟨h2, h3⟩ := Array.getElem?_eq_some_iff.1 h1
        rw [h3] at h0
        simp [entOf] at h0
      rw [this, Bool.and_false]
  have hold : ∀ l : List ((List Int × Int) × Nat), (∀ p ∈ l, p.2 < es.length) → ((l.map entOf).toArray.filter (·.born < es.length)) = (l.map entOf).toArray ∧ ((l.map entOf).toArray.filter (·.born ≥ es.length)) = #[] := by
    intro l hl
    constructor
    · rw [Array.filter_eq_self]
      intro e he
      simp only [List.mem_toArray, List.mem_map] at he
      obtain ⟨p, hp, rfl⟩ := he
      simp [entOf, hl p hp]
    · rw [Array.filter_eq_empty_iff]
      intro e he
      simp only [List.mem_toArray, List.mem_map] at he
      obtain ⟨p, hp, rfl⟩ := he
      have := hl p hp
      simp [entOf]
      omega
  have hlt : ∀ p ∈ es.zipIdx.filter fun p => !seen.contains p.2, p.2 < es.length := by
    intro p hp
    have := (List.mem_filter.1 hp).1
    have := List.snd_lt_of_mem_zipIdx this
    simpa using this
  generalize hL : (es.zipIdx.filter fun p => !seen.contains p.2) = L at *
  obtain ⟨ho, hn⟩ := hold L hlt
  have hmem : ∀ p, p ∈ L ↔ (es[p.2]? = some p.1 ∧ p.2 ∉ seen) := by
    intro p
    rw [← hL, List.mem_filter]
    obtain ⟨x, i⟩ := p
    rw [List.mk_mem_zipIdx_iff_getElem?]
    simp
  cases L with
  | nil =>
    refine ⟨.tuple #[.bool false], w, ?_, Only.refl _ _, .inl ⟨rfl, rfl, fun i hi => ?_⟩⟩
    · simp only [Instr.next, Sem.run_bind, hgi, Result.andThen_ok, hg]
      have : (!seen.toArray.isEmpty && !(ents es).isEmpty && (ents es).all (·.born ≥ es.length)) = false := by
        rw [Bool.and_assoc, hall, Bool.and_false]
      simp only [this, Bool.false_eq_true, if_false, Sem.run_pure, Result.andThen_ok, left_eq, hL, ho, hn]
      simp [choose, Sem.run, Question.forced]
    · by_cases hs : i ∈ seen
      · exact hs
      · have := (hmem (es[i], i)).2 ⟨List.getElem?_eq_getElem hi, hs⟩
        cases this
  | cons p L =>
    obtain ⟨j, w1, hj, hch, hh, h1, h2, h3⟩ := run_choose (p :: L).length (by simp) w
    have hq : (p :: L)[j]? = some (p :: L)[j] := List.getElem?_eq_getElem hj
    obtain ⟨q, hq'⟩ : ∃ q, q = (p :: L)[j] := ⟨_, rfl⟩
    rw [← hq'] at hq
    obtain ⟨ha, hb⟩ := (hmem q).1 (List.mem_of_getElem? hq)
    have hit : it < w.heap.size := (Array.getElem?_eq_some_iff.1 (show w.heap[it]? = _ from hi)).1
    refine ⟨.tuple #[.bool true, .agg (exC q.1.1), .int .i64 q.1.2], { w1 with heap := w1.heap.setIfInBounds it (.mapIter (some r) es.length (seen ++ [q.2]).toArray es.length) }, ?_, ⟨h1, h2, h3, by simp [hh], fun k hk => by simp only; rw [Array.getElem?_setIfInBounds_ne (by omega), hh]⟩, .inr ⟨q.2, q.1.1, q.1.2, ha, hb, rfl, ?_⟩⟩
    · simp only [Instr.next, Sem.run_bind, hgi, Result.andThen_ok, hg]
      have : (!seen.toArray.isEmpty && !(ents es).isEmpty && (ents es).all (·.born ≥ es.length)) = false := by
        rw [Bool.and_assoc, hall, Bool.and_false]
      have hs : ∀ o, (setObj it o).run Try.prog w1 = .ok () { w1 with heap := w1.heap.setIfInBounds it o } := by
        intro o
        have : w1.heap[it]? = some (.mapIter (some r) es.length seen.toArray es.length) := by rw [hh]; exact hi
        simp [setObj, Sem.run, this]
      simp only [this, Bool.false_eq_true, if_false, Sem.run_pure, Result.andThen_ok, left_eq, hL, ho, hn]
      have hsz : ((if ((p :: L).map entOf).toArray.isEmpty = true then #[none] else #[]) ++ (((p :: L).map entOf).toArray ++ #[]).map some) = (((p :: L).map entOf).map some).toArray := by simp
      rw [hsz]
      have hlen : (((p :: L).map entOf).map some).toArray.size = (p :: L).length := by simp
      rw [hlen, Sem.run_bind, hch]
      have hget : (((p :: L).map entOf).map some).toArray[j]? = some (some (entOf q)) := by
        simp only [List.getElem?_toArray, List.getElem?_map, hq, Option.map_some]
      simp only [Result.andThen_ok, hget, Sem.run_bind, hs, Sem.run_pure]
      simp [entOf]
    · simp [IterIs, hh, hit]
theorem run_entry_at {w : World} {it r : Nat} {es : Asc} {seen : List Nat} {i : Nat} {k : List Int} {c : Int} (hm : MapIs w r es) (hi : IterIs w it r es.length (seen ++ [i])) (he : es[i]? = some (k, c)) :
    (Instr.entry (.pointer (some ⟨it, 0, none⟩))).run Try.prog w = .ok (.tuple #[.agg (exC k), .int .i64 c]) w := by
  have hg : (getObj r).run Try.prog w = .ok (.map (ents es) es.length) w := by simp [getObj, Sem.run, hm.blk]
  have hgi : (getObj it).run Try.prog w = .ok (.mapIter (some r) es.length (seen ++ [i]).toArray es.length) w := by simp [getObj, Sem.run, show w.heap[it]? = _ from hi]
  have hb : (seen ++ [i]).toArray.back? = some i := by simp [Array.back?]
  have hf : (ents es).find? (·.born == i) = some (entOf ((k, c), i)) := by
    rw [Array.find?_eq_some_iff_getElem]
    have h0 : (ents es)[i]? = some (entOf ((k, c), i)) := by rw [ents_get, he]; rfl
    obtain ⟨h1, h2⟩ := Array.getElem?_eq_some_iff.1 h0
    refine ⟨by simp [entOf], i, h1, h2, fun j hj => ?_⟩
    have hjl : j < es.length := by rw [ents_size] at h1; omega
    have h3 : (ents es)[j]? = some (entOf (es[j], j)) := by rw [ents_get, List.getElem?_eq_getElem hjl]; rfl
    obtain ⟨h4, h5⟩ := Array.getElem?_eq_some_iff.1 h3
    rw [h5]
    simp [entOf]
    omega
  simp only [Instr.entry, Sem.run_bind, hgi, hg, Result.andThen_ok, hb, hf, bne_self_eq_false, Bool.false_eq_true, if_false, Sem.run_pure, entOf]
end Go.Proofs.Ytjnplfbggklkfaa

/- Polynomials as functions from exponent vectors to coefficients, and the maps that stand for them: no program here. -/
namespace Go.Proofs.Ytjnplfbggklkfaa
set_option linter.unusedVariables false
set_option linter.unusedSimpArgs false

/-- What of a map has been seen, as a function. -/
def part (a : Asc) (seen : List Nat) (k : List Int) : Int := if hasA a k = true ∧ idxA a k ∈ seen then getA a k else 0
def Pos (a : Asc) : Prop := ∀ p ∈ a, 0 < p.2 ∧ p.2 ≤ 1000000000000000 ∧ ∀ v ∈ p.1, 0 ≤ v ∧ v ≤ 60
theorem part_nil (a : Asc) (k : List Int) : part a [] k = 0 := by simp [part]
theorem part_all {a : Asc} {seen : List Nat} (h : ∀ i, i < a.length → i ∈ seen) (k : List Int) : part a seen k = getA a k := by
  unfold part
  cases hh : hasA a k with
  | false => simp [get_none hh]
  | true => simp [h _ (idx_lt hh)]
theorem part_snoc {a : Asc} (nd : (a.map (·.1)).Nodup) {seen : List Nat} {i : Nat} {k0 : List Int} {c : Int} (he : a[i]? = some (k0, c)) (hi : i ∉ seen) (k : List Int) :
    part a (seen ++ [i]) k = part a seen k + if k0 = k then c else 0 := by
  obtain ⟨h1, h2, h3⟩ := idx_only nd he
  unfold part
  by_cases hk : k0 = k
  · subst hk
    simp [h1, h2, h3, hi]
  · rw [if_neg hk, Int.add_zero]
    by_cases hh : hasA a k = true
    · have : idxA a k ≠ i := fun e => by
        have hg := idx_get hh
        rw [e, he] at hg
        injection hg with hg
        injection hg with hg _
        exact hk hg
      simp [hh, this]
    · simp [hh]
theorem get_bounds {a : Asc} (h : Pos a) (k : List Int) : 0 ≤ getA a k ∧ getA a k ≤ 1000000000000000 ∧ (hasA a k = true → 0 < getA a k) := by
  cases hh : hasA a k with
  | false => rw [get_none hh]; simp
  | true =>
    have h1 := (h _ (List.mem_of_getElem? (idx_get hh))).1
    have h2 := (h _ (List.mem_of_getElem? (idx_get hh))).2.1
    simp only at h1 h2
    omega
theorem part_le {a : Asc} (h : Pos a) (seen : List Nat) (k : List Int) : 0 ≤ part a seen k ∧ part a seen k ≤ getA a k := by
  have := get_bounds h k
  unfold part
  split <;> omega
/-- More than a normal form may bear. -/
def Big (f : List Int → Int) : Prop := (∃ k, 1000000000000000 < f k) ∨ ∃ l : List (List Int), l.Nodup ∧ 200 < l.length ∧ ∀ k ∈ l, 0 < f k
theorem Big.mono {f g : List Int → Int} (h : Big f) (hl : ∀ k, f k ≤ g k) : Big g := by
  rcases h with ⟨k, h⟩ | ⟨l, nd, hn, h⟩
  · exact .inl ⟨k, by have := hl k; omega⟩
  · exact .inr ⟨l, nd, hn, fun k hk => by have := h k hk; have := hl k; omega⟩
/-- A map stands for a function. -/
structure Rep (es : Asc) (f : List Int → Int) : Prop where
  nd : (es.map (·.1)).Nodup
  pos : Pos es
  len : es.length ≤ 200
  get : ∀ k, getA es k = f k
theorem Rep.nil : Rep [] (fun _ => 0) := ⟨by simp, (fun p h => by cases h), by simp, fun k => rfl⟩
theorem Rep.congr {es : Asc} {f g : List Int → Int} (h : Rep es f) (he : ∀ k, f k = g k) : Rep es g := ⟨h.nd, h.pos, h.len, fun k => (h.get k).trans (he k)⟩
/-- A monomial is added: it goes well. -/
theorem Rep.add {es : Asc} {f : List Int → Int} (h : Rep es f) {k : List Int} {c : Int} (hk : Vec k) (hks : ∀ v ∈ k, 0 ≤ v ∧ v ≤ 60) (hv : ∀ p ∈ es, Vec p.1) (hc : 0 < c)
    (h1 : getA es k + c ≤ 1000000000000000) (h2 : (setA es k (getA es k + c)).length ≤ 200) : Rep (setA es k (getA es k + c)) (fun k' => f k' + if k = k' then c else 0) := by
  have hb := get_bounds h.pos k
  refine ⟨(set_ok hk hv h.nd).2, fun p hp => ?_, h2, fun k' => ?_⟩
  · have hm : p.1 ∈ (setA es k (getA es k + c)).map (·.1) := List.mem_map.2 ⟨p, hp, rfl⟩
    obtain ⟨j, hj⟩ := List.mem_iff_getElem?.1 hp
    have hi := idx_only (set_ok hk hv h.nd).2 (k := p.1) (c := p.2) (j := j) hj
    have hg := set_get (k := k) (k' := p.1) (c := getA es k + c) h.nd
    rw [hi.2.2] at hg
    rw [hg]
    by_cases e : k = p.1
    · rw [if_pos e]
      exact ⟨by omega, by omega, e ▸ hks⟩
    · rw [if_neg e]
      have hq : hasA es p.1 = true := by
        rw [set_keys] at hm
        refine has_of_mem ?_
        unfold touchA at hm
        cases hh : hasA es k with
        | true => simpa [hh] using hm
        | false =>
          simp [hh] at hm
          rcases hm with ⟨x, hx⟩ | hm
          · exact List.mem_map.2 ⟨(p.1, x), hx, rfl⟩
          · exact absurd hm.symm e
      have hb2 := get_bounds h.pos p.1
      have hb3 := hb2.2.2 hq
      exact ⟨hb3, hb2.2.1, (h.pos _ (List.mem_of_getElem? (idx_get hq))).2.2⟩
  · rw [set_get h.nd]
    by_cases e : k = k'
    · subst e
      simp [h.get]
    · simp [e, h.get]
/-- A monomial is added: it goes wrong, and so the whole would. -/
theorem Rep.add_big {es : Asc} {f g : List Int → Int} (h : Rep es f) {k : List Int} {c : Int} (hk : Vec k) (hv : ∀ p ∈ es, Vec p.1) (hc : 0 < c)
    (hn : ¬ (getA es k + c ≤ 1000000000000000 ∧ (setA es k (getA es k + c)).length ≤ 200)) (hl : ∀ k', f k' + (if k = k' then c else 0) ≤ g k') : Big g := by
  by_cases h1 : getA es k + c ≤ 1000000000000000
  · have h2 : ¬ (setA es k (getA es k + c)).length ≤ 200 := fun h2 => hn ⟨h1, h2⟩
    refine .inr ⟨(setA es k (getA es k + c)).map (·.1), (set_ok hk hv h.nd).2, by simpa using h2, fun k' hm => ?_⟩
    have hl := hl k'
    rw [set_keys] at hm
    by_cases e : k = k'
    · rw [if_pos e] at hl
      have := get_bounds h.pos k'
      rw [h.get] at this
      omega
    · rw [if_neg e] at hl
      have hq : hasA es k' = true := by
        refine has_of_mem ?_
        unfold touchA at hm
        cases hh : hasA es k with
        | true => simpa [hh] using hm
        | false =>
          simp [hh] at hm
          rcases hm with ⟨x, hx⟩ | hm
          · exact List.mem_map.2 ⟨(k', x), hx, rfl⟩
          · exact absurd hm.symm e
      have := (get_bounds h.pos k').2.2 hq
      rw [h.get] at this
      omega
  · refine .inl ⟨k, ?_⟩
    have := hl k
    rw [if_pos rfl] at this
    rw [h.get] at h1
    omega
end Go.Proofs.Ytjnplfbggklkfaa

/- Products of polynomials as lists of monomials: what a product comes to in whatever order its monomials are met. -/
namespace Go.Proofs.Ytjnplfbggklkfaa
set_option linter.unusedVariables false
set_option linter.unusedSimpArgs false

/-- The coefficient at a key of a list of monomials, doubles summed up. -/
def coef : Asc → List Int → Int
  | [], _ => 0
  | p :: l, k => (if p.1 = k then p.2 else 0) + coef l k
theorem coef_append (a b : Asc) (k : List Int) : coef (a ++ b) k = coef a k + coef b k := by
  induction a with
  | nil => simp [coef]
  | cons p a ih => simp only [List.cons_append, coef, ih]; omega
theorem coef_perm {a b : Asc} (h : a.Perm b) (k : List Int) : coef a k = coef b k := by
  induction h with
  | nil => rfl
  | cons x _ ih => simp only [coef, ih]
  | swap x y l => simp only [coef]; omega
  | trans _ _ ih1 ih2 => exact ih1.trans ih2
theorem coef_nonneg {a : Asc} (h : ∀ p ∈ a, 0 ≤ p.2) (k : List Int) : 0 ≤ coef a k := by
  induction a with
  | nil => simp [coef]
  | cons p a ih =>
    have h1 := h p (by simp)
    have h2 := ih fun q hq => h q (by simp [hq])
    simp only [coef]
    split <;> omega
theorem coef_none {a : Asc} {k : List Int} (h : k ∉ a.map (·.1)) : coef a k = 0 := by
  induction a with
  | nil => rfl
  | cons p a ih =>
    simp only [List.map_cons, List.mem_cons, not_or] at h
    simp only [coef]
    rw [if_neg (fun e => h.1 e.symm), ih h.2]
    rfl
theorem coef_get {a : Asc} (nd : (a.map (·.1)).Nodup) (k : List Int) : coef a k = getA a k := by
  induction a with
  | nil => rfl
  | cons p a ih =>
    simp only [List.map_cons, List.nodup_cons] at nd
    simp only [coef, getA]
    by_cases e : p.1 = k
    · rw [if_pos e, if_pos e, coef_none (by rw [← e]; exact nd.1)]
      omega
    · rw [if_neg e, if_neg e, ih nd.2]
      omega
def vadd (x y : List Int) : List Int := List.zipWith (· + ·) x y
def mulM (p q : List Int × Int) : List Int × Int := (vadd p.1 q.1, p.2 * q.2)
def mulL (a b : Asc) : Asc := a.flatMap fun p => b.map (mulM p)
theorem mulL_append (a a' b : Asc) : mulL (a ++ a') b = mulL a b ++ mulL a' b := by simp [mulL]
theorem mulL_one (p : List Int × Int) (b : Asc) : mulL [p] b = b.map (mulM p) := by simp [mulL]
theorem flat_perm {α β : Type} {f g : α → List β} (h : ∀ p, (f p).Perm (g p)) : ∀ l : List α, (l.flatMap f).Perm (l.flatMap g)
  | [] => by simp
  | p :: l => by simpa using (h p).append (flat_perm h l)
theorem mulL_perm {a a' b b' : Asc} (h : a.Perm a') (h' : b.Perm b') : (mulL a b).Perm (mulL a' b') := by
  unfold mulL
  exact (List.Perm.flatMap_right _ h).trans (flat_perm (fun p => h'.map _) _)
/-- The entries at these places. -/
def pick (a : Asc) (l : List Nat) : Asc := l.filterMap (a[·]?)
theorem pick_nil (a : Asc) : pick a [] = [] := rfl
theorem pick_snoc {a : Asc} {l : List Nat} {i : Nat} {p : List Int × Int} (h : a[i]? = some p) : pick a (l ++ [i]) = pick a l ++ [p] := by simp [pick, h]
theorem pick_take (a : Asc) : ∀ n, n ≤ a.length → pick a (List.range n) = a.take n
  | 0, _ => by simp [pick]
  | n + 1, h => by
    have h1 : a[n]? = some a[n] := List.getElem?_eq_getElem (by omega)
    rw [List.range_succ, pick_snoc h1, pick_take a n (by omega), List.take_add_one, h1]
    rfl
theorem pick_range (a : Asc) : pick a (List.range a.length) = a := by
  rw [pick_take a _ (Nat.le_refl _), List.take_length]
theorem pick_rest {a : Asc} {l : List Nat} (nd : l.Nodup) (hl : ∀ i ∈ l, i < a.length) : ∃ r, a.Perm (pick a l ++ r) := by
  refine ⟨pick a ((List.range a.length).filter fun i => !l.contains i), ?_⟩
  have hp : (List.range a.length).Perm (l ++ (List.range a.length).filter fun i => !l.contains i) := by
    refine (List.perm_ext_iff_of_nodup List.nodup_range ?_).2 fun i => ?_
    · rw [List.nodup_append]
      refine ⟨nd, List.Pairwise.filter _ List.nodup_range, fun x hx y hy e => ?_⟩
      subst e
      simp [hx] at hy
    · simp only [List.mem_append, List.mem_filter, List.mem_range]
      by_cases hi : i ∈ l
      · simp [hi, hl i hi]
      · simp [hi]
  have h2 := hp.filterMap (fun i => a[i]?)
  rw [List.filterMap_append] at h2
  have h3 := pick_range a
  unfold pick at h3 ⊢
  rwa [h3] at h2
theorem pick_all {a : Asc} {l : List Nat} (nd : l.Nodup) (hl : ∀ i ∈ l, i < a.length) (h : ∀ i, i < a.length → i ∈ l) : a.Perm (pick a l) := by
  have hp : (List.range a.length).Perm l := (List.perm_ext_iff_of_nodup List.nodup_range nd).2 fun i => ⟨fun hi => h i (List.mem_range.1 hi), fun hi => List.mem_range.2 (hl i hi)⟩
  have h2 := hp.filterMap (fun i => a[i]?)
  have h3 := pick_range a
  unfold pick at h3 ⊢
  rwa [h3] at h2
theorem mul_nonneg {a b : Asc} (ha : ∀ p ∈ a, 0 ≤ p.2) (hb : ∀ p ∈ b, 0 ≤ p.2) : ∀ m ∈ mulL a b, 0 ≤ m.2 := by
  intro m hm
  simp only [mulL, List.mem_flatMap, List.mem_map] at hm
  obtain ⟨p, hp, q, hq, rfl⟩ := hm
  exact Int.mul_nonneg (ha p hp) (hb q hq)
/-- What has been met is a part of the whole. -/
theorem part_whole {a b : Asc} (ha : ∀ p ∈ a, 0 ≤ p.2) (hb : ∀ p ∈ b, 0 ≤ p.2) {la lb : List Nat} {i : Nat} {p : List Int × Int} (na : (la ++ [i]).Nodup) (hla : ∀ j ∈ la ++ [i], j < a.length)
    (nb : lb.Nodup) (hlb : ∀ j ∈ lb, j < b.length) (hp : a[i]? = some p) : ∃ r : Asc, (∀ m ∈ r, 0 ≤ m.2) ∧ (mulL a b).Perm (mulL (pick a la) b ++ (pick b lb).map (mulM p) ++ r) := by
  obtain ⟨ra, h1⟩ := pick_rest na hla
  obtain ⟨rb, h2⟩ := pick_rest nb hlb
  rw [pick_snoc hp] at h1
  refine ⟨rb.map (mulM p) ++ mulL ra b, ?_, ?_⟩
  · intro m hm
    have ha' : ∀ q ∈ ra, 0 ≤ q.2 := fun q hq => ha q (h1.mem_iff.2 (by simp [hq]))
    have hb' : ∀ q ∈ rb, 0 ≤ q.2 := fun q hq => hb q (h2.mem_iff.2 (by simp [hq]))
    have hp' := ha p (List.mem_of_getElem? hp)
    rcases List.mem_append.1 hm with hm | hm
    · obtain ⟨q, hq, rfl⟩ := List.mem_map.1 hm
      exact Int.mul_nonneg hp' (hb' q hq)
    · exact mul_nonneg ha' hb m hm
  · refine (mulL_perm h1 (List.Perm.refl b)).trans ?_
    rw [mulL_append, mulL_append, mulL_one]
    have h3 : (b.map (mulM p)).Perm ((pick b lb).map (mulM p) ++ rb.map (mulM p)) := by
      rw [← List.map_append]
      exact h2.map _
    simp only [List.append_assoc]
    refine List.Perm.append_left _ ?_
    rw [← List.append_assoc]
    exact List.Perm.append_right _ h3
theorem part_le_whole {a b : Asc} (ha : ∀ p ∈ a, 0 ≤ p.2) (hb : ∀ p ∈ b, 0 ≤ p.2) {la lb : List Nat} {i : Nat} {p : List Int × Int} (na : (la ++ [i]).Nodup) (hla : ∀ j ∈ la ++ [i], j < a.length)
    (nb : lb.Nodup) (hlb : ∀ j ∈ lb, j < b.length) (hp : a[i]? = some p) (k : List Int) : coef (mulL (pick a la) b ++ (pick b lb).map (mulM p)) k ≤ coef (mulL a b) k := by
  obtain ⟨r, hr, h⟩ := part_whole ha hb na hla nb hlb hp
  rw [coef_perm h, coef_append _ r]
  have := coef_nonneg hr k
  omega
/-- An exponent above the limit somewhere in a product. -/
def Steep (l : Asc) : Prop := ∃ m ∈ l, ∃ v ∈ m.1, 60 < v
def Flat (l : Asc) : Prop := ∀ m ∈ l, ∀ v ∈ m.1, v ≤ 60
end Go.Proofs.Ytjnplfbggklkfaa

/- What an expression of the ring is as a list of monomials, and when a limit is passed on the way: no program here. -/
namespace Go.Proofs.Ytjnplfbggklkfaa
set_option linter.unusedVariables false
set_option linter.unusedSimpArgs false

/-! ### Products hang on coefficients alone -/
def sumW (a : Asc) (h : List Int → Int) : Int := match a with
  | [] => 0
  | p :: l => p.2 * h p.1 + sumW l h
def ddup : List (List Int) → List (List Int)
  | [] => []
  | x :: l => if x ∈ ddup l then ddup l else x :: ddup l
theorem mem_ddup {l : List (List Int)} {k : List Int} : k ∈ ddup l ↔ k ∈ l := by
  induction l generalizing k with
  | nil => simp [ddup]
  | cons x l ih =>
    unfold ddup
    split
    · rename_i h
      rw [ih] at h ⊢
      constructor
      · exact fun hk => by simp [hk]
      · intro hk
        rcases List.mem_cons.1 hk with rfl | hk
        · exact h
        · exact hk
    · simp [ih]
theorem ddup_nd (l : List (List Int)) : (ddup l).Nodup := by
  induction l with
  | nil => simp [ddup]
  | cons x l ih =>
    unfold ddup
    split
    · exact ih
    · rename_i h
      exact List.nodup_cons.2 ⟨h, ih⟩
def sumK (K : List (List Int)) (f : List Int → Int) : Int := match K with
  | [] => 0
  | k :: l => f k + sumK l f
theorem sumK_congr {K : List (List Int)} {f g : List Int → Int} (h : ∀ k ∈ K, f k = g k) : sumK K f = sumK K g := by
  induction K with
  | nil => rfl
  | cons k l ih =>
    simp only [sumK]
    rw [h k (by simp), ih fun k hk => h k (by simp [hk])]
theorem sumK_add (K : List (List Int)) (f g : List Int → Int) : sumK K (fun k => f k + g k) = sumK K f + sumK K g := by
  induction K with
  | nil => rfl
  | cons k l ih => simp only [sumK, ih]; omega
theorem sumK_one {K : List (List Int)} (nd : K.Nodup) (u : List Int) (c : Int) (h : List Int → Int) : sumK K (fun k => (if u = k then c else 0) * h k) = if u ∈ K then c * h u else 0 := by
  induction K with
  | nil => simp [sumK]
  | cons k l ih =>
    obtain ⟨h1, h2⟩ := List.nodup_cons.1 nd
    simp only [sumK, ih h2]
    by_cases e : u = k
    · subst e
      simp [h1]
    · rw [if_neg e]
      simp [e]
theorem sumW_K {K : List (List Int)} (nd : K.Nodup) : ∀ (a : Asc), (∀ p ∈ a, p.1 ∈ K) → ∀ h : List Int → Int, sumW a h = sumK K (fun k => coef a k * h k)
  | [], _, h => by
    simp only [sumW, coef]
    have : ∀ L : List (List Int), sumK L (fun k => (0 : Int) * h k) = 0 := fun L => by
      induction L with
      | nil => rfl
      | cons k l ih =>
        have e : sumK (k :: l) (fun k => (0 : Int) * h k) = 0 * h k + sumK l (fun k => (0 : Int) * h k) := rfl
        rw [e, ih, Int.zero_mul]
        rfl
    rw [this]
  | p :: a, hk, h => by
    simp only [sumW, coef]
    have h1 : sumK K (fun k => ((if p.1 = k then p.2 else 0) + coef a k) * h k) = sumK K (fun k => (if p.1 = k then p.2 else 0) * h k + coef a k * h k) :=
      sumK_congr fun k _ => Int.add_mul _ _ _
    rw [h1, sumK_add, sumK_one nd, if_pos (hk p (by simp)), sumW_K nd a (fun q hq => hk q (by simp [hq])) h]
theorem sumW_congr {a b : Asc} (hab : ∀ k, coef a k = coef b k) (h : List Int → Int) : sumW a h = sumW b h := by
  have nd := ddup_nd (a.map (·.1) ++ b.map (·.1))
  rw [sumW_K nd a (fun p hp => mem_ddup.2 (by simp; exact .inl ⟨p.2, hp⟩)) h, sumW_K nd b (fun p hp => mem_ddup.2 (by simp; exact .inr ⟨p.2, hp⟩)) h]
  exact sumK_congr fun k _ => by rw [hab]
theorem coef_map (p : List Int × Int) (b : Asc) (k : List Int) : coef (b.map (mulM p)) k = p.2 * sumW b (fun u => if vadd p.1 u = k then 1 else 0) := by
  induction b with
  | nil => simp [coef, sumW]
  | cons q b ih =>
    simp only [List.map_cons, coef, sumW, ih, mulM, Int.mul_add]
    split <;> simp
theorem coef_mul (a b : Asc) (k : List Int) : coef (mulL a b) k = sumW a (fun u => sumW b (fun v => if vadd u v = k then 1 else 0)) := by
  induction a with
  | nil => simp [mulL, coef, sumW]
  | cons p a ih =>
    have : mulL (p :: a) b = b.map (mulM p) ++ mulL a b := rfl
    rw [this, coef_append, coef_map, ih]
    rfl
theorem mul_congr {a a' b b' : Asc} (ha : ∀ k, coef a k = coef a' k) (hb : ∀ k, coef b k = coef b' k) (k : List Int) : coef (mulL a b) k = coef (mulL a' b') k := by
  rw [coef_mul, coef_mul, sumW_congr ha]
  congr 1
  funext u
  exact sumW_congr hb _
/-- All coefficients above 0. -/
def Plus (a : Asc) : Prop := ∀ p ∈ a, 0 < p.2
theorem Plus.nn {a : Asc} (h : Plus a) : ∀ p ∈ a, 0 ≤ p.2 := fun p hp => Int.le_of_lt (h p hp)
theorem coef_pos {a : Asc} (h : Plus a) {k : List Int} : 0 < coef a k ↔ k ∈ a.map (·.1) := by
  constructor
  · intro hk
    by_cases hm : k ∈ a.map (·.1)
    · exact hm
    · rw [coef_none hm] at hk
      omega
  · intro hm
    induction a with
    | nil => simp at hm
    | cons p a ih =>
      have h1 := h p (by simp)
      have h2 := coef_nonneg (a := a) (fun q hq => Int.le_of_lt (h q (by simp [hq]))) k
      simp only [coef]
      rw [List.map_cons, List.mem_cons] at hm
      rcases hm with hm | hm
      · rw [if_pos hm.symm]
        omega
      · have := ih (fun q hq => h q (by simp [hq])) hm
        split <;> omega
theorem steep_iff {a b : Asc} (ha : Plus a) (hb : Plus b) : Steep (mulL a b) ↔ ∃ u v : List Int, 0 < coef a u ∧ 0 < coef b v ∧ ∃ x ∈ vadd u v, 60 < x := by
  constructor
  · rintro ⟨m, hm, x, hx, h⟩
    simp only [mulL, List.mem_flatMap, List.mem_map] at hm
    obtain ⟨p, hp, q, hq, rfl⟩ := hm
    exact ⟨p.1, q.1, (coef_pos ha).2 (List.mem_map.2 ⟨p, hp, rfl⟩), (coef_pos hb).2 (List.mem_map.2 ⟨q, hq, rfl⟩), x, hx, h⟩
  · rintro ⟨u, v, h1, h2, x, hx, h⟩
    obtain ⟨p, hp, rfl⟩ := List.mem_map.1 ((coef_pos ha).1 h1)
    obtain ⟨q, hq, rfl⟩ := List.mem_map.1 ((coef_pos hb).1 h2)
    refine ⟨mulM p q, ?_, x, hx, h⟩
    simp only [mulL, List.mem_flatMap, List.mem_map]
    exact ⟨p, hp, q, hq, rfl⟩
theorem steep_congr {a a' b b' : Asc} (pa : Plus a) (pa' : Plus a') (pb : Plus b) (pb' : Plus b') (ha : ∀ k, coef a k = coef a' k) (hb : ∀ k, coef b k = coef b' k) : Steep (mulL a b) ↔ Steep (mulL a' b') := by
  rw [steep_iff pa pb, steep_iff pa' pb']
  simp only [ha, hb]
theorem mul_plus {a b : Asc} (ha : Plus a) (hb : Plus b) : Plus (mulL a b) := by
  intro m hm
  simp only [mulL, List.mem_flatMap, List.mem_map] at hm
  obtain ⟨p, hp, q, hq, rfl⟩ := hm
  exact Int.mul_pos (ha p hp) (hb q hq)
theorem Flat.not_steep {a : Asc} (h : Flat a) : ¬ Steep a := fun ⟨m, hm, v, hv, hx⟩ => by have := h m hm v hv; omega
theorem Big.congr {f g : List Int → Int} (h : Big f) (he : ∀ k, f k = g k) : Big g := h.mono fun k => by rw [he]; exact Int.le_refl _
theorem nodup_le {α : Type} [DecidableEq α] : ∀ {l m : List α}, l.Nodup → l ⊆ m → l.length ≤ m.length
  | [], m, _, _ => by simp
  | a :: l, m, nd, h => by
    obtain ⟨h1, h2⟩ := List.nodup_cons.1 nd
    have hm : a ∈ m := h (by simp)
    have := nodup_le (l := l) (m := m.erase a) h2 fun x hx => (List.mem_erase_of_ne (fun e => h1 (by rw [← e]; exact hx))).2 (h (by simp [hx]))
    rw [List.length_erase_of_mem hm] at this
    have := List.length_pos_of_mem hm
    simp only [List.length_cons]
    omega
/-- A map that stands for a function: the function is within the limits. -/
theorem Rep.not_big {es : Asc} {f : List Int → Int} (h : Rep es f) : ¬ Big f := by
  rintro (⟨k, hk⟩ | ⟨l, nd, hn, hl⟩)
  · have := get_bounds h.pos k
    rw [h.get] at this
    omega
  · have hsub : l ⊆ es.map (·.1) := fun k hk => by
      have := hl k hk
      rw [← h.get] at this
      cases hh : hasA es k with
      | true => exact mem_of_has hh
      | false => rw [get_none hh] at this; omega
    have h1 : l.length ≤ (es.map (·.1)).length := nodup_le nd hsub
    have := h.len
    simp at h1
    omega

/-! ### Expressions -/
open Go.Proofs.Ytjnplfbggklkfaa.Rg (S24)
def zeros8 : List Int := [0, 0, 0, 0, 0, 0, 0, 0]
def unit8 (n : Int) : List Int := zeros8.set n.toNat 1
def joinD (op : Int) (l : List Asc) : Asc := match l with
  | [a, b] => if op = 3 then a ++ b else mulL a b
  | _ => []
mutual
/-- An expression as a list of monomials. -/
def den : S24 → Asc
  | ⟨op, n, l⟩ => if op = 1 then (if n = 0 then [] else [(zeros8, n)]) else if op = 2 then [(unit8 n, 1)] else joinD op (denL l)
def denL : List S24 → List Asc
  | [] => []
  | x :: l => den x :: denL l
end
mutual
/-- The form of an expression, and that its numbers are small. -/
def good : S24 → Bool
  | ⟨op, n, l⟩ => (op == 1 && l.isEmpty && decide (0 ≤ n) && decide (n ≤ 1000000)) || (op == 2 && l.isEmpty && decide (0 ≤ n) && decide (n < 8)) || ((op == 3 || op == 4) && n == 0 && l.length == 2 && goodL l)
def goodL : List S24 → Bool
  | [] => true
  | x :: l => good x && goodL l
end
mutual
/-- A limit is passed somewhere. -/
def Bad : S24 → Prop
  | ⟨op, n, l⟩ => BadL l ∨ (op = 3 ∧ Big (coef (den ⟨op, n, l⟩))) ∨ (op = 4 ∧ (Big (coef (den ⟨op, n, l⟩)) ∨ Steep (den ⟨op, n, l⟩)))
def BadL : List S24 → Prop
  | [] => False
  | x :: l => Bad x ∨ BadL l
end
/-- The shapes of good expressions. -/
theorem good_cases {x : S24} (h : good x = true) : (x.f0 = 1 ∧ x.f2 = [] ∧ 0 ≤ x.f1 ∧ x.f1 ≤ 1000000 ∧ den x = (if x.f1 = 0 then [] else [(zeros8, x.f1)]) ∧ ¬ Bad x) ∨
    (x.f0 = 2 ∧ x.f2 = [] ∧ 0 ≤ x.f1 ∧ x.f1 < 8 ∧ den x = [(unit8 x.f1, 1)] ∧ ¬ Bad x) ∨
    (∃ y z, (x.f0 = 3 ∨ x.f0 = 4) ∧ x.f1 = 0 ∧ x.f2 = [y, z] ∧ good y = true ∧ good z = true ∧ den x = (if x.f0 = 3 then den y ++ den z else mulL (den y) (den z)) ∧
      (Bad x ↔ (Bad y ∨ Bad z) ∨ (x.f0 = 3 ∧ Big (coef (den x))) ∨ (x.f0 = 4 ∧ (Big (coef (den x)) ∨ Steep (den x))))) := by
  obtain ⟨op, n, l⟩ := x
  rw [good] at h
  simp only [Bool.or_eq_true, Bool.and_eq_true, beq_iff_eq, decide_eq_true_eq, List.isEmpty_iff] at h
  rcases h with (⟨⟨⟨rfl, rfl⟩, h1⟩, h2⟩ | ⟨⟨⟨rfl, rfl⟩, h1⟩, h2⟩) | ⟨⟨⟨h0, rfl⟩, hl⟩, hg⟩
  · refine .inl ⟨rfl, rfl, h1, h2, by rw [den]; rfl, ?_⟩
    rw [Bad, BadL]
    rintro (h | ⟨h, _⟩ | ⟨h, _⟩)
    · exact h
    · exact absurd h (by decide)
    · exact absurd h (by decide)
  · refine .inr (.inl ⟨rfl, rfl, h1, h2, by rw [den]; rfl, ?_⟩)
    rw [Bad, BadL]
    rintro (h | ⟨h, _⟩ | ⟨h, _⟩)
    · exact h
    · exact absurd h (by decide)
    · exact absurd h (by decide)
  · match l, hl with
    | [y, z], _ =>
      rw [goodL, goodL, goodL] at hg
      simp only [Bool.and_eq_true, Bool.and_true] at hg
      refine .inr (.inr ⟨y, z, h0, rfl, rfl, hg.1, hg.2, ?_, ?_⟩)
      · rw [den, denL, denL, denL]
        rcases h0 with rfl | rfl <;> rfl
      · rw [Bad, BadL, BadL, BadL]
        simp
theorem den_plus : ∀ (n : Nat) (x : S24), SizeOf.sizeOf x < n → good x = true → Plus (den x)
  | 0, _, h, _ => absurd h (by omega)
  | n + 1, x, h, hg => by
    rcases good_cases hg with ⟨_, _, h1, _, h2, _⟩ | ⟨_, _, _, _, h2, _⟩ | ⟨y, z, h0, _, hl, gy, gz, h2, _⟩
    · rw [h2]
      intro p hp
      split at hp
      · cases hp
      · rw [List.mem_singleton.1 hp]
        simp only
        omega
    · rw [h2]
      intro p hp
      rw [List.mem_singleton.1 hp]
      exact (by decide : (0 : Int) < 1)
    · have hs : SizeOf.sizeOf y < SizeOf.sizeOf x ∧ SizeOf.sizeOf z < SizeOf.sizeOf x := by
        obtain ⟨op, m, l⟩ := x
        simp only at hl
        subst hl
        simp
        omega
      have py := den_plus n y (by omega) gy
      have pz := den_plus n z (by omega) gz
      rw [h2]
      split
      · intro p hp
        rcases List.mem_append.1 hp with hp | hp
        · exact py p hp
        · exact pz p hp
      · exact mul_plus py pz
theorem den_plus' {x : S24} (h : good x = true) : Plus (den x) := den_plus (SizeOf.sizeOf x + 1) x (by omega) h
end Go.Proofs.Ytjnplfbggklkfaa

/- The ring's poly.add: a coefficient is added to a map's entry. -/
namespace Go.Proofs.Ytjnplfbggklkfaa
open Go.RowKit
set_option linter.unusedVariables false
set_option linter.unusedSimpArgs false

theorem sz54i : (Try.prog.info? 54).map (·.size) = some 8 := by kernel_rfl
theorem load54 {w : World} {g : Nat} {k : List Int} (hk : k.length = 8) (h : w.heap[g]? = some (.cells (exC k) 54 (0, 0))) :
    (loadVar 54 ⟨g, 0, none⟩).run Try.prog w = .ok (.agg (exC k)) w :=
  run_loadVar_row w g 54 54 (exC k) (0, 0) _ h Try.underlying54 rfl (by
    have : (exC k).size = 8 := by simp [exC, hk]
    rw [this]
    exact sz54i)
theorem MapIs.alloc {w : World} {r : Nat} {es : Asc} (h : MapIs w r es) (o : Obj) : MapIs (w.alloc o) r es :=
  ⟨(Below.heap_alloc w o r h.lt).trans h.blk, h.vec, h.nd⟩
theorem MapIs.drew {w : World} {r : Nat} {es : Asc} (h : MapIs w r es) : MapIs w.drew r es := ⟨h.blk, h.vec, h.nd⟩

set_option maxRecDepth 100000 in
set_option maxHeartbeats 4000000 in
theorem add_calls (r : Nat) (es : Asc) (k : List Int) (c : Int) (w : World) (hm : MapIs w r es) (hk : Vec k) (h0 : 0 ≤ getA es k) (h1 : getA es k ≤ 1000000000000000) (h2 : 0 ≤ c) (h3 : c ≤ 1000000000000000) (hl : es.length ≤ 1000000) :
    Calls Try.prog 40 #[.map (some r), .agg (exC k), .int .i64 c] w fun e w' => e = .returned (.bool (decide (getA es k + c ≤ 1000000000000000) && decide ((setA es k (getA es k + c)).length ≤ 200))) ∧ MapIs w' r (setA es k (getA es k + c)) ∧ But r w w' := by
  have hsz : (exC k).size = 8 := by simp [exC, hk.1]
  obtain ⟨W1, hW1⟩ : ∃ W1, W1 = (w.alloc (.cells (exC k) 54)).drew := ⟨_, rfl⟩
  have m1 : MapIs W1 r es := by rw [hW1]; exact (hm.alloc _).drew
  have b1 : W1.heap[w.heap.size]? = some (.cells (exC k) 54 (0, 0)) := by rw [hW1]; exact heap_alloc_new w _
  have hr := m1.lt
  have m2 : MapIs (putMap W1 r (touchA es k)) r (touchA es k) := putMap_is m1.blk _ (touch_ok hk hm.vec hm.nd).1 (touch_ok hk hm.vec hm.nd).2
  have m3 : MapIs (putMap (putMap W1 r (touchA es k)) r (setA es k (getA es k + c))) r (setA es k (getA es k + c)) := putMap_is m2.blk _ (set_ok hk hm.vec hm.nd).1 (set_ok hk hm.vec hm.nd).2
  have b3 : (putMap (putMap W1 r (touchA es k)) r (setA es k (getA es k + c))).heap[w.heap.size]? = some (.cells (exC k) 54 (0, 0)) := by
    have := hm.lt
    rw [putMap_other _ _ (by omega), putMap_other _ _ (by omega)]
    exact b1
  have e1 := load54 hk.1 b1
  have e2 := run_look m1 hk
  have e3 := run_look m2 hk
  rw [touch_get] at e3
  have e4 := run_entry_ m1 hk
  have e5 := run_store_ m2 (getA es k + c)
  have e6 := load54 hk.1 b3
  have e7 := run_look m3 hk
  have e8 := run_len_ m3
  rw [set_get hm.nd, if_pos rfl] at e7
  have hbut : But r w (putMap (putMap W1 r (touchA es k)) r (setA es k (getA es k + c))) := by
    have hb : Below w.heap.size w W1 := by rw [hW1]; exact ((Below.refl _ _).alloc (Nat.le_refl _) _).drew
    exact (But.of_below hb).trans ((putMap_only _ _ _).but.trans (putMap_only _ _ _).but)
  have c3 : ∀ j, (putMap (putMap W1 r (touchA es k)) r (setA es k (getA es k + c))).cell? ⟨w.heap.size, j, none⟩ = (exC k)[j]? := fun j => cell_of_row _ _ j _ _ _ b3
  clear hm m1 m2 b1 b3 hr e1 e6
  have M3 := Lib.hid m3
  have HB := Lib.hid hbut
  clear m3 hbut
  generalize hw2 : putMap W1 r (touchA es k) = W2 at *
  generalize idxA (touchA es k) k = ix at *
  generalize hw3 : putMap W2 r (setA es k (getA es k + c)) = W3 at *
  generalize setA es k (getA es k + c) = t3 at *
  generalize getA es k = n at *
  have HW2 := Lib.hid hw2
  have HW3 := Lib.hid hw3
  clear hw2 hw3
  subst hW1
  obtain ⟨x0, x1, x2, x3, x4, x5, x6, x7, rfl⟩ := len8 k hk.1
  have c0 := c3 0
  have c1 := c3 1
  have c2 := c3 2
  have c4 := c3 4
  have c5 := c3 5
  have c6 := c3 6
  have c7 := c3 7
  replace c3 := c3 3
  clear hsz hk
  simp only [exC, List.map_cons, List.map_nil, List.getElem?_toArray, List.getElem?_cons_zero, List.getElem?_cons_succ] at *
  go_enter Try.func40, Try.ntmps40
  go_wp2
  go_region
  all_goals go_wp2
  all_goals go_ret
  · have hc : n + c ≤ 1000000000000000 := by assumption
    refine ⟨congrArg Ending.returned ?_, M3.out, HB.out⟩
    show Value.bool (decide ((t3.length : Int) ≤ 200)) = _
    rw [decide_eq_true hc, Bool.true_and]
    congr 1
    exact decide_eq_decide.2 (by omega)
  · have hc : ¬ n + c ≤ 1000000000000000 := by omega
    refine ⟨congrArg Ending.returned ?_, M3.out, HB.out⟩
    show Value.bool false = _
    rw [decide_eq_false hc, Bool.false_and]
end Go.Proofs.Ytjnplfbggklkfaa

/- The ring's same: two normal forms kept as maps are compared. -/
namespace Go.Proofs.Ytjnplfbggklkfaa
open Go.RowKit
set_option linter.unusedVariables false
set_option linter.unusedSimpArgs false

theorem nodup_len : ∀ (n : Nat) (l : List Nat), l.Nodup → (∀ i ∈ l, i < n) → l.length ≤ n := by
  intro n
  induction n with
  | zero => intro l _ h; cases l with
    | nil => simp
    | cons a l => exact absurd (h a (by simp)) (by omega)
  | succ n ih =>
    intro l nd h
    by_cases hm : n ∈ l
    · have := ih (l.erase n) (nd.erase n) (fun i hi => by
        have h1 := h i (List.mem_of_mem_erase hi)
        have h2 : i ≠ n := fun e => by subst e; exact (List.Nodup.not_mem_erase nd) hi
        omega)
      rw [List.length_erase_of_mem hm] at this
      omega
    · have := ih l nd (fun i hi => by
        have h1 := h i hi
        have h2 : i ≠ n := fun e => by subst e; exact hm hi
        omega)
      omega
/-- A map's iterator in the middle of its way: what is seen are places, each once. -/
structure Going (w : World) (it r : Nat) (es : Asc) (seen : List Nat) : Prop where
  map : MapIs w r es
  iter : IterIs w it r es.length seen
  nd : seen.Nodup
  lt : ∀ i ∈ seen, i < es.length
  ne : it ≠ r
theorem Going.len {w : World} {it r : Nat} {es : Asc} {seen : List Nat} (h : Going w it r es seen) : seen.length ≤ es.length := nodup_len _ _ h.nd h.lt
theorem Going.start {w : World} {r : Nat} {es : Asc} (h : MapIs w r es) : Going (w.alloc (.mapIter (some r) es.length #[] es.length)) w.heap.size r es [] :=
  ⟨h.alloc _, heap_alloc_new _ _, by simp, by simp, by have := h.lt; omega⟩
theorem Going.below {w w' : World} {it r : Nat} {es : Asc} {seen : List Nat} (h : Going w it r es seen) (hb : Below w.heap.size w w') : Going w' it r es seen :=
  ⟨h.map.below hb, (hb.block it (Array.getElem?_eq_some_iff.1 h.iter).1).trans h.iter, h.nd, h.lt, h.ne⟩
theorem Going.but {w w' : World} {it r q : Nat} {es : Asc} {seen : List Nat} (h : Going w it r es seen) (hb : But q w w') (h1 : it ≠ q) (h2 : r ≠ q) : Going w' it r es seen :=
  ⟨h.map.but hb h2, (hb.block it (Array.getElem?_eq_some_iff.1 h.iter).1 h1).trans h.iter, h.nd, h.lt, h.ne⟩
theorem Going.ltIt {w : World} {it r : Nat} {es : Asc} {seen : List Nat} (h : Going w it r es seen) : it < w.heap.size := (Array.getElem?_eq_some_iff.1 h.iter).1
/-- One step of the range. -/
theorem Going.next {w : World} {it r : Nat} {es : Asc} {seen : List Nat} (h : Going w it r es seen) :
    ((∀ ty, (Instr.next (.pointer (some ⟨it, 0, none⟩)) false ty).run Try.prog w = .ok (.tuple #[.bool false]) w) ∧ ∀ i, i < es.length → i ∈ seen) ∨
    ∃ w' i k c, (∀ ty, (Instr.next (.pointer (some ⟨it, 0, none⟩)) false ty).run Try.prog w = .ok (.tuple #[.bool true, .agg (exC k), .int .i64 c]) w') ∧ Only it w w' ∧ es[i]? = some (k, c) ∧ i ∉ seen ∧
      Going w' it r es (seen ++ [i]) ∧ (Instr.entry (.pointer (some ⟨it, 0, none⟩))).run Try.prog w' = .ok (.tuple #[.agg (exC k), .int .i64 c]) w' ∧ seen.length < es.length ∧ Vec k := by
  obtain ⟨v, w', hr, ho, ⟨rfl, rfl, hs⟩ | ⟨i, k, c, he, hi, rfl, hit⟩⟩ := run_next_ h.map h.iter 0
  · exact .inl ⟨fun ty => hr, hs⟩
  · have hlt := (List.getElem?_eq_some_iff.1 he).1
    have hg : Going w' it r es (seen ++ [i]) := by
      refine ⟨h.map.only ho (Ne.symm h.ne), hit, ?_, ?_, h.ne⟩
      · rw [List.nodup_append]
        exact ⟨h.nd, by simp, fun a ha b hb e => hi (by rw [List.mem_singleton] at hb; rw [← hb, ← e]; exact ha)⟩
      · intro j hj
        rcases List.mem_append.1 hj with hj | hj
        · exact h.lt j hj
        · rw [List.mem_singleton.1 hj]; exact hlt
    refine .inr ⟨w', i, k, c, fun ty => hr, ho, he, hi, hg, run_entry_at hg.map hit he, ?_, h.map.vec _ (List.mem_of_getElem? he)⟩
    have := hg.len
    simp at this
    omega

def sameB (a b : Asc) : Bool := a.all (fun p => decide (getA b p.1 = p.2)) && decide (a.length = b.length)
theorem sameB_yes {a b : Asc} (seen : List Nat) (h : ∀ i, i < a.length → i ∈ seen) (hs : ∀ i ∈ seen, ∀ p, a[i]? = some p → getA b p.1 = p.2) : sameB a b = decide (a.length = b.length) := by
  unfold sameB
  have : a.all (fun p => decide (getA b p.1 = p.2)) = true := by
    rw [List.all_eq_true]
    intro p hp
    obtain ⟨i, hi⟩ := List.mem_iff_getElem?.1 hp
    exact decide_eq_true (hs i (h i (List.getElem?_eq_some_iff.1 hi).1) p hi)
  rw [this, Bool.true_and]
theorem sameB_no {a b : Asc} {i : Nat} {p : List Int × Int} (h : a[i]? = some p) (hn : getA b p.1 ≠ p.2) : sameB a b = false := by
  unfold sameB
  have : a.all (fun p => decide (getA b p.1 = p.2)) = false := by
    rw [Bool.eq_false_iff]
    intro ha
    exact hn (of_decide_eq_true (List.all_eq_true.1 ha p (List.mem_of_getElem? h)))
  rw [this, Bool.false_and]

set_option maxRecDepth 100000 in
set_option maxHeartbeats 4000000 in
theorem same_calls (r1 r2 : Nat) (a b : Asc) (w : World) (h1 : MapIs w r1 a) (h2 : MapIs w r2 b) :
    Calls Try.prog 18 #[.map (some r1), .map (some r2)] w fun e w' => e = .returned (.bool (sameB a b)) ∧ Below w.heap.size w w' := by
  have hrg := run_range_ h1
  have g0 := Going.start h1
  have m0 := h2.alloc (.mapIter (some r1) a.length #[] a.length)
  have hl1 := h1.lt
  have hl2 := h2.lt
  clear h1 h2
  have G0 := Lib.hid g0
  have M0 := Lib.hid m0
  have L2 := Lib.hid hl2
  clear g0 m0 hl1 hl2
  go_enter Try.func18, Try.ntmps18
  go_wp2
  go_loopg [9] a.length (fun n v9 wr => ∃ seen, Hid (Going wr w.heap.size r1 a seen) ∧ Hid (MapIs wr r2 b) ∧ Hid (Below w.heap.size w wr) ∧ Hid (n = a.length - seen.length) ∧ Hid (∀ i ∈ seen, ∀ p, a[i]? = some p → getA b p.1 = p.2))
  case atStart => exact ⟨[], G0, M0, Lib.hid ((Below.refl _ _).alloc (Nat.le_refl _) _), Lib.hid (by simp), Lib.hid (by simp)⟩
  case round =>
    clear G0 M0 hrg
    obtain ⟨seen, G, M, B, N, S⟩ := hrel
    rcases G.out.next with ⟨hn, hs⟩ | ⟨w1, i, k, c, hn, ho, he, hi, G1, hen, hlt, hv⟩
    · have l1 := run_len_ G.out.map
      have l2 := run_len_ M.out
      have R := Lib.hid (sameB_yes seen hs S.out)
      clear hs S G M
      go_wp2
      go_ret
      refine ⟨?_, B.out⟩
      rw [R.out]
      refine congrArg Ending.returned (congrArg Value.bool ?_)
      rw [Bool.eq_iff_iff, beq_iff_eq, decide_eq_true_eq]
      omega
    · have hb1 : Below w.heap.size w w1 := ho.below B.out (Nat.le_refl _)
      have lk := run_look (((M.out.only ho (fun e => by have := L2.out; omega))).alloc (.cells (exC k) 54)) hv
      have HG := Lib.hid (G1.below ((Below.refl w1.heap.size w1).alloc (Nat.le_refl _) (.cells (exC k) 54)))
      have HM := Lib.hid (((M.out.only ho (fun e => by have := L2.out; omega))).alloc (.cells (exC k) 54))
      have HB := Lib.hid (hb1.alloc hb1.size (.cells (exC k) 54))
      have HE := Lib.hid he
      have HL := Lib.hid hlt
      have HI := Lib.hid hi
      clear G M B hb1 ho he hlt hi G1 L2
      by_cases hc : getA b k = c
      · have HS : Hid (∀ j ∈ seen ++ [i], ∀ p, a[j]? = some p → getA b p.1 = p.2) := by
          refine Lib.hid fun j hj p hp => ?_
          rcases List.mem_append.1 hj with hj | hj
          · exact S.out j hj p hp
          · rw [List.mem_singleton.1 hj, HE.out] at hp
            injection hp with hp
            subst hp
            exact hc
        rw [hc] at lk
        clear S hc
        obtain ⟨x0, x1, x2, x3, x4, x5, x6, x7, rfl⟩ := len8 k hv.1
        clear hv
        simp only [exC, List.map_cons, List.map_nil] at hn hen lk HG HM HB
        go_wp2
        go_roundg (a.length - (seen.length + 1))
        case measure => have := N.out; have := HL.out; omega
        case rel => exact ⟨seen ++ [i], HG, HM, HB, Lib.hid (by simp), HS⟩
      · have R := Lib.hid (sameB_no HE.out hc)
        have hcb : (getA b k != c) = true := by simpa using hc
        clear S hc HM HG HE
        generalize getA b k = gb at *
        obtain ⟨x0, x1, x2, x3, x4, x5, x6, x7, rfl⟩ := len8 k hv.1
        clear hv
        simp only [exC, List.map_cons, List.map_nil] at hn hen lk HB
        go_wp2
        go_ret
        rw [R.out]
        exact ⟨rfl, HB.out⟩
end Go.Proofs.Ytjnplfbggklkfaa

/- The ring's plus: the sum of two normal forms kept as maps. -/
namespace Go.Proofs.Ytjnplfbggklkfaa
open Go.RowKit
set_option linter.unusedVariables false
set_option linter.unusedSimpArgs false

theorem blk_lt' {w : World} {g : Nat} {o : Obj} (h : w.heap[g]? = some o) : g < w.heap.size := (Array.getElem?_eq_some_iff.1 h).1
/-- The call of add, its key written out. -/
theorem add_calls8 (r : Nat) (es : Asc) (x0 x1 x2 x3 x4 x5 x6 x7 c : Int) (w : World) (hm : MapIs w r es) (hk : Vec [x0, x1, x2, x3, x4, x5, x6, x7]) (hp : Pos es) (h2 : 0 < c) (h3 : c ≤ 1000000000000000) (hl : es.length ≤ 200) :
    Calls Try.prog 40 #[.map (some r), .agg #[.int .i64 x0, .int .i64 x1, .int .i64 x2, .int .i64 x3, .int .i64 x4, .int .i64 x5, .int .i64 x6, .int .i64 x7], .int .i64 c] w fun e w' =>
      e = .returned (.bool (decide (getA es [x0, x1, x2, x3, x4, x5, x6, x7] + c ≤ 1000000000000000) && decide ((setA es [x0, x1, x2, x3, x4, x5, x6, x7] (getA es [x0, x1, x2, x3, x4, x5, x6, x7] + c)).length ≤ 200))) ∧
      MapIs w' r (setA es [x0, x1, x2, x3, x4, x5, x6, x7] (getA es [x0, x1, x2, x3, x4, x5, x6, x7] + c)) ∧ But r w w' :=
  have hb := get_bounds hp [x0, x1, x2, x3, x4, x5, x6, x7]
  add_calls r es [x0, x1, x2, x3, x4, x5, x6, x7] c w hm hk hb.1 hb.2.1 (by omega) h3 (by omega)

/-- The sum of the first j of two functions. -/
def sumF (a b : Asc) (j : Nat) (k : List Int) : Int := if j = 0 then 0 else if j = 1 then getA a k else getA a k + getA b k
theorem sumF_mono (a b : Asc) (ha : Pos a) (hb : Pos b) (j : Nat) (k : List Int) : sumF a b j k ≤ getA a k + getA b k := by
  have := get_bounds ha k
  have := get_bounds hb k
  unfold sumF
  split
  · omega
  · split <;> omega
def PlusPost (w : World) (a b : Asc) (e : Ending) (w' : World) : Prop :=
  Below w.heap.size w w' ∧
  ((e = .returned (.tuple #[.map none, .bool false]) ∧ Big (fun k => getA a k + getA b k)) ∨
   ∃ r es, e = .returned (.tuple #[.map (some r), .bool true]) ∧ w.heap.size ≤ r ∧ MapIs w' r es ∧ Rep es (fun k => getA a k + getA b k))
theorem PlusPost.bad {w : World} {a b : Asc} {w' : World} (h : Below w.heap.size w w') (hb : Big (fun k => getA a k + getA b k)) : PlusPost w a b (.returned (.tuple #[.map none, .bool false])) w' := ⟨h, .inl ⟨rfl, hb⟩⟩
theorem PlusPost.good {w : World} {a b : Asc} {w' : World} {r : Nat} {es : Asc} (h : Below w.heap.size w w') (hr : w.heap.size ≤ r) (hm : MapIs w' r es) (hp : Rep es (fun k => getA a k + getA b k)) : PlusPost w a b (.returned (.tuple #[.map (some r), .bool true])) w' :=
  ⟨h, .inr ⟨r, es, rfl, hr, hm, hp⟩⟩

set_option maxRecDepth 100000 in
set_option maxHeartbeats 8000000 in
theorem plus_calls (r1 r2 : Nat) (a b : Asc) (w : World) (h1 : MapIs w r1 a) (h2 : MapIs w r2 b) (pa : Pos a) (pb : Pos b) :
    Calls Try.prog 34 #[.map (some r1), .map (some r2)] w (PlusPost w a b) := by
  have hmm := @run_makeMap Try.prog
  have H1 := Lib.hid h1
  have H2 := Lib.hid h2
  have l1 := Lib.hid h1.lt
  have l2 := Lib.hid h2.lt
  have PA := Lib.hid pa
  have PB := Lib.hid pb
  clear h1 h2 pa pb
  go_enter Try.func34, Try.ntmps34
  go_wp2
  have G0 : Hid (MapIs ((w.alloc (.map #[] 0)).alloc (.cells #[.map (some r1), .map (some r2)] 41)) w.heap.size []) := Lib.hid ⟨by
      have := heap_alloc_new w (.map #[] 0)
      rw [Below.heap_alloc _ _ _ (by simp)]
      exact this, by simp, by simp⟩
  have B0 : Hid (((w.alloc (.map #[] 0)).alloc (.cells #[.map (some r1), .map (some r2)] 41)).heap[w.heap.size + 1]? = some (.cells #[.map (some r1), .map (some r2)] 41 (0, 0))) := Lib.hid (by
      have := heap_alloc_new (w.alloc (.map #[] 0)) (.cells #[.map (some r1), .map (some r2)] 41)
      simpa using this)
  have W0 : Hid (Below w.heap.size w ((w.alloc (.map #[] 0)).alloc (.cells #[.map (some r1), .map (some r2)] 41))) := Lib.hid (((Below.refl _ _).alloc (Nat.le_refl _) _).alloc (by simp) _)
  go_loopg [16] 2 (fun n v16 wr => ∃ (j : Nat) (es : Asc), v16 = .int .i64 j ∧ Hid (j ≤ 2) ∧ Hid (n = 2 - j) ∧ Hid (MapIs wr w.heap.size es) ∧ Hid (Rep es (sumF a b j)) ∧ Hid (wr.heap[w.heap.size + 1]? = some (.cells #[.map (some r1), .map (some r2)] 41 (0, 0))) ∧ Hid (Below w.heap.size w wr))
  case atStart => exact ⟨0, [], rfl, Lib.hid (by omega), Lib.hid rfl, G0, Lib.hid (Rep.nil.congr fun k => rfl), B0, W0⟩
  case round =>
    clear G0 B0 W0 hmm
    obtain ⟨j, es, rfl, HJ, HN, M, R, BL, B⟩ := hrel
    by_cases hj : j = 2
    · subst hj
      have RR := Lib.hid (R.out.congr (g := fun k => getA a k + getA b k) fun k => rfl)
      clear HJ HN BL R
      go_wp2
      go_ret2
      exact PlusPost.good B.out (Nat.le_refl _) M.out RR.out
    · have hj2 : j < 2 := by have := HJ.out; omega
      obtain ⟨rq, q, hq, hlq, hpq, hcell, hsum⟩ : ∃ rq q, MapIs wr rq q ∧ rq < w.heap.size ∧ Pos q ∧ wr.cell? ⟨w.heap.size + 1, j, none⟩ = some (.map (some rq)) ∧ ∀ k, sumF a b (j + 1) k = sumF a b j k + getA q k := by
        have hc := cell_of_row wr (w.heap.size + 1) j _ _ _ BL.out
        by_cases h0 : j = 0
        · subst h0
          exact ⟨r1, a, H1.out.below B.out, l1.out, PA.out, hc, fun k => by simp [sumF]⟩
        · obtain rfl : j = 1 := by omega
          exact ⟨r2, b, H2.out.below B.out, l2.out, PB.out, hc, fun k => by simp [sumF]⟩
      have hrg := run_range_ hq
      have GI := Lib.hid (Going.start hq)
      have MI := Lib.hid (M.out.alloc (.mapIter (some rq) q.length #[] q.length))
      have BI := Lib.hid ((Below.heap_alloc wr (.mapIter (some rq) q.length #[] q.length) _ (blk_lt' BL.out)).trans BL.out)
      have WI := Lib.hid (B.out.alloc B.out.size (.mapIter (some rq) q.length #[] q.length))
      have HLQ := Lib.hid hlq
      have HPQ := Lib.hid hpq
      have HSUM := Lib.hid hsum
      have HWS := Lib.hid (blk_lt' BL.out)
      clear hq hlq hpq hsum M BL B hj
      have hjb : decide ((j : Int) < 2) = true := decide_eq_true (by omega)
      go_wp2
      obtain ⟨wo, rfl⟩ : ∃ wo : World, wo = wr := ⟨_, rfl⟩
      obtain ⟨go, rfl⟩ : ∃ go : Nat, go = gk := ⟨_, rfl⟩
      obtain ⟨it, hit⟩ : ∃ it, it = wo.heap.size := ⟨_, rfl⟩
      simp only [← hit] at *
      clear hit
      go_loopg [22] q.length (fun n v22 w2 => ∃ (seen : List Nat) (es2 : Asc), Hid (n = q.length - seen.length) ∧ Hid (Going w2 it rq q seen) ∧ Hid (MapIs w2 w.heap.size es2) ∧ Hid (Rep es2 (fun k => sumF a b j k + part q seen k)) ∧ Hid (w2.heap[w.heap.size + 1]? = some (.cells #[.map (some r1), .map (some r2)] 41 (0, 0))) ∧ Hid (Below w.heap.size w w2))
      case atStart => exact ⟨[], es, Lib.hid (by simp), GI, MI, Lib.hid (R.out.congr fun k => by rw [part_nil, Int.add_zero]), BI, WI⟩
      case round =>
        clear GI MI R BI WI hrg hcell
        obtain ⟨seen, es2, N2, G, M, R, BL, B⟩ := hrel
        have HNE : Hid (it ≠ w.heap.size) := Lib.hid (by have := HWS.out; omega)
        rcases G.out.next with ⟨hn, hs⟩ | ⟨w1, i, k, c, hn, ho, he, hi, G1, hen, hlt, hv⟩
        · have M1 := M
          have R1 : Hid (Rep es2 (sumF a b (j + 1))) := Lib.hid (R.out.congr fun k => by rw [part_all hs, HSUM.out])
          clear hs G M R
          go_wp2
          go_roundg (2 - (j + 1))
          case measure => have := HN.out; have := HJ.out; omega
          case rel => exact ⟨j + 1, es2, by go_num, Lib.hid (by have := HJ.out; omega), Lib.hid rfl, M1, R1, BL, B⟩
        · have hlen := M.out.lt
          have hb1 : Below w.heap.size w w1 := ho.below B.out (by have := HWS.out; omega)
          have m1 : MapIs (w1.alloc (.cells (exC k) 54)) w.heap.size es2 := (M.out.only ho (Ne.symm HNE.out)).alloc _
          have g1 : Going (w1.alloc (.cells (exC k) 54)) it rq q (seen ++ [i]) := G1.below ((Below.refl w1.heap.size w1).alloc (Nat.le_refl _) _)
          have bl1 : (w1.alloc (.cells (exC k) 54)).heap[w.heap.size + 1]? = some (.cells #[.map (some r1), .map (some r2)] 41 (0, 0)) := by
            have h0 := (ho.block (w.heap.size + 1) (by have := HWS.out; omega)).trans BL.out
            exact (Below.heap_alloc w1 _ _ (blk_lt' h0)).trans h0
          have hcp := HPQ.out _ (List.mem_of_getElem? he)
          have hrep : ∀ k', sumF a b j k' + part q (seen ++ [i]) k' = sumF a b j k' + part q seen k' + (if k = k' then c else 0) := fun k' => by
            rw [part_snoc G.out.map.nd he hi]
            omega
          have hle : ∀ k', sumF a b j k' + part q seen k' + (if k = k' then c else 0) ≤ getA a k' + getA b k' := fun k' => by
            rw [← hrep]
            have h1 := (part_le HPQ.out (seen ++ [i]) k').2
            have h2 := HSUM.out k'
            have h3 := sumF_mono a b PA.out PB.out (j + 1) k'
            omega
          have hw1 : Below w.heap.size w (w1.alloc (.cells (exC k) 54)) := hb1.alloc hb1.size _
          by_cases hok : getA es2 k + c ≤ 1000000000000000 ∧ (setA es2 k (getA es2 k + c)).length ≤ 200
          · have R2 := Lib.hid ((R.out.add hv hcp.2.2 m1.vec hcp.1 hok.1 hok.2).congr fun k' => (hrep k').symm)
            have HB1 := Lib.hid hw1
            have HG1 := Lib.hid g1
            have HL1 := Lib.hid bl1
            have HLT := Lib.hid hlt
            have CT : Calls Try.prog 40 #[.map (some w.heap.size), .agg (exC k), .int .i64 c] (w1.alloc (.cells (exC k) 54)) fun e w' => e = .returned (.bool true) ∧ MapIs w' w.heap.size (setA es2 k (getA es2 k + c)) ∧ But w.heap.size (w1.alloc (.cells (exC k) 54)) w' := by
              have hb := get_bounds R.out.pos k
              refine (add_calls w.heap.size es2 k c _ m1 hv hb.1 hb.2.1 (by omega) hcp.2.1 (by have := R.out.len; omega)).mono ?_
              rintro e w' ⟨rfl, h1, h2⟩
              refine ⟨?_, h1, h2⟩
              rw [decide_eq_true hok.1, decide_eq_true hok.2]
              rfl
            clear hlen hb1 m1 g1 bl1 hcp hrep hle hw1 hok R G M BL B ho he hi G1 hlt
            generalize setA es2 k (getA es2 k + c) = es3 at *
            obtain ⟨x0, x1, x2, x3, x4, x5, x6, x7, rfl⟩ := len8 k hv.1
            clear hv
            simp only [exC, List.map_cons, List.map_nil] at hn hen CT HB1 HG1 HL1
            have HCT := Lib.hid CT
            clear CT
            go_wp2_with (go_at_call 40; refine HCT.out.mono ?_; rintro e w3 ⟨rfl, hm3, hb3⟩)
            have HM3 := Lib.hid hm3
            have HB3 := Lib.hid hb3
            clear hm3 hb3
            go_roundg (q.length - (seen.length + 1))
            case measure => have := N2.out; have := HLT.out; omega
            case rel => exact ⟨seen ++ [i], es3, Lib.hid (by simp), Lib.hid (HG1.out.but HB3.out HNE.out (by have := HLQ.out; omega)), HM3, R2, Lib.hid ((HB3.out.block _ (blk_lt' HL1.out) (by omega)).trans HL1.out), Lib.hid (HB3.out.below HB1.out HB1.out.size (Nat.le_refl _))⟩
          · have RB := Lib.hid (R.out.add_big (g := fun k => getA a k + getA b k) hv m1.vec hcp.1 hok hle)
            have HB1 := Lib.hid hw1
            have CT : Calls Try.prog 40 #[.map (some w.heap.size), .agg (exC k), .int .i64 c] (w1.alloc (.cells (exC k) 54)) fun e w' => e = .returned (.bool false) ∧ But w.heap.size (w1.alloc (.cells (exC k) 54)) w' := by
              have hb := get_bounds R.out.pos k
              refine (add_calls w.heap.size es2 k c _ m1 hv hb.1 hb.2.1 (by omega) hcp.2.1 (by have := R.out.len; omega)).mono ?_
              rintro e w' ⟨rfl, h1, h2⟩
              refine ⟨?_, h2⟩
              rw [← Bool.decide_and, decide_eq_false hok]
            clear hlen hb1 m1 g1 bl1 hcp hrep hle hw1 hok R G M BL B ho he hi G1 hlt
            obtain ⟨x0, x1, x2, x3, x4, x5, x6, x7, rfl⟩ := len8 k hv.1
            clear hv
            simp only [exC, List.map_cons, List.map_nil] at hn hen CT HB1
            have HCT := Lib.hid CT
            clear CT
            go_wp2_with (go_at_call 40; refine HCT.out.mono ?_; rintro e w3 ⟨rfl, hb3⟩)
            go_ret2
            exact PlusPost.bad (hb3.below HB1.out HB1.out.size (Nat.le_refl _)) RB.out
end Go.Proofs.Ytjnplfbggklkfaa

/- math/bits.Mul64, and the ring's times: a product of two coefficients, and whether it is within the limit. -/
namespace Go.Proofs.Ytjnplfbggklkfaa
open Go.RowKit
set_option linter.unusedVariables false
set_option linter.unusedSimpArgs false

theorem wrap_u64 (n : Int) : IntKind.u64.wrap n = n % 18446744073709551616 := by rfl
theorem mul64_val (x y : Int) (hx0 : 0 ≤ x) (hx : x < 18446744073709551616) (hy0 : 0 ≤ y) (hy : y < 18446744073709551616) :
    (IntKind.u64.wrap ((IntKind.u64.wrap ((IntKind.u64.wrap ((x / 4294967296) * (y / 4294967296))) + ((IntKind.u64.wrap ((IntKind.u64.wrap ((x / 4294967296) * (Go.bits .and .u64 y 4294967295))) + ((IntKind.u64.wrap ((Go.bits .and .u64 x 4294967295) * (Go.bits .and .u64 y 4294967295))) / 4294967296))) / 4294967296))) + ((IntKind.u64.wrap ((Go.bits .and .u64 (IntKind.u64.wrap ((IntKind.u64.wrap ((x / 4294967296) * (Go.bits .and .u64 y 4294967295))) + ((IntKind.u64.wrap ((Go.bits .and .u64 x 4294967295) * (Go.bits .and .u64 y 4294967295))) / 4294967296))) 4294967295) + (IntKind.u64.wrap ((Go.bits .and .u64 x 4294967295) * (y / 4294967296))))) / 4294967296))) = x * y / 18446744073709551616 := by
  rw [and_low32 x hx0 hx, and_low32 y hy0 hy, and_low32 _ (by rw [wrap_u64]; omega) (by rw [wrap_u64]; omega)]
  simp only [wrap_u64]
  exact mul64_arith x y hx0 hx hy0 hy
set_option maxHeartbeats 4000000 in
set_option maxRecDepth 100000 in
theorem mul64_calls (x y : Int) (w : World) (hx0 : 0 ≤ x) (hx : x < 18446744073709551616) (hy0 : 0 ≤ y) (hy : y < 18446744073709551616) :
    Calls Try.prog 45 #[.int .u64 x, .int .u64 y] w fun e w' => e = .returned (.tuple #[.int .u64 (x * y / 18446744073709551616), .int .u64 (x * y % 18446744073709551616)]) ∧ Below w.heap.size w w' := by
  have E := Lib.hid (mul64_val x y hx0 hx hy0 hy)
  clear hx hx0 hy hy0
  go_enter Try.func45, Try.ntmps45
  go_wp2
  go_ret2
  refine ⟨congrArg Ending.returned ?_, Below.refl _ _⟩
  have e2 := wrap_u64 (x * y)
  rw [← E.out, ← e2]
  rfl
def TimesPost (w : World) (p : Int) (e : Ending) (w' : World) : Prop :=
  ∃ n : Int, e = .returned (.tuple #[.int .i64 n, .bool (decide (p ≤ 1000000000000000))]) ∧ (p ≤ 1000000000000000 → n = p) ∧ Below w.heap.size w w'
theorem TimesPost.yes {w w' : World} {p : Int} (h : Below w.heap.size w w') (hp : p ≤ 1000000000000000) : TimesPost w p (.returned (.tuple #[.int .i64 p, .bool true])) w' :=
  ⟨p, by rw [decide_eq_true hp], fun _ => rfl, h⟩
theorem TimesPost.no {w w' : World} {p n : Int} (h : Below w.heap.size w w') (hp : ¬ p ≤ 1000000000000000) : TimesPost w p (.returned (.tuple #[.int .i64 n, .bool false])) w' :=
  ⟨n, by rw [decide_eq_false hp], fun h => absurd h hp, h⟩
set_option maxHeartbeats 4000000 in
set_option maxRecDepth 100000 in
theorem times_calls (x y : Int) (w : World) (hx0 : 0 ≤ x) (hx : x ≤ 1000000000000000) (hy0 : 0 ≤ y) (hy : y ≤ 1000000000000000) :
    Calls Try.prog 41 #[.int .i64 x, .int .i64 y] w (TimesPost w (x * y)) := by
  have hp : 0 ≤ x * y := Int.mul_nonneg hx0 hy0
  have C := mul64_calls x y w hx0 (by omega) hy0 (by omega)
  generalize x * y = p at *
  have e1 : IntKind.u64.wrap x = x := by rw [wrap_u64]; omega
  have e2 : IntKind.u64.wrap y = y := by rw [wrap_u64]; omega
  by_cases h1 : p ≤ 1000000000000000
  · rw [show p / 18446744073709551616 = 0 by omega, show p % 18446744073709551616 = p by omega] at C
    have HC := Lib.hid C
    clear C
    go_enter Try.func41, Try.ntmps41
    go_wp2_with (go_at_call 45; refine HC.out.mono ?_; rintro e w3 ⟨rfl, hb⟩)
    go_ret2
    exact TimesPost.yes hb h1
  · have hh : p / 18446744073709551616 = 0 → ¬ p % 18446744073709551616 ≤ 1000000000000000 := by omega
    generalize p / 18446744073709551616 = hi at *
    generalize p % 18446744073709551616 = lo at *
    have HC := Lib.hid C
    have HP := Lib.hid h1
    clear C hp h1
    by_cases h0 : hi = 0
    · subst h0
      have hl := hh rfl
      have hld : decide (lo ≤ 1000000000000000) = false := decide_eq_false hl
      clear hh hl
      go_enter Try.func41, Try.ntmps41
      go_wp2_with (go_at_call 45; refine HC.out.mono ?_; rintro e w3 ⟨rfl, hb⟩)
      go_ret2
      exact TimesPost.no hb (by have := HP.out; omega)
    · have hz : (hi == 0) = false := beq_eq_false_iff_ne.2 h0
      clear hh h0
      go_enter Try.func41, Try.ntmps41
      go_wp2_with (go_at_call 45; refine HC.out.mono ?_; rintro e w3 ⟨rfl, hb⟩)
      go_ret2
      exact TimesPost.no hb (by have := HP.out; omega)
end Go.Proofs.Ytjnplfbggklkfaa

/- The ring's product: the product of two normal forms kept as maps. -/
namespace Go.Proofs.Ytjnplfbggklkfaa
open Go.RowKit
set_option linter.unusedVariables false
set_option linter.unusedSimpArgs false

/-- The sums so far, and zeros. -/
def upTo (x y : List Int) (n : Nat) : List Int := (vadd x y).take n ++ List.replicate (8 - n) 0

def ProdPost (w : World) (a b : Asc) (e : Ending) (w' : World) : Prop :=
  Below w.heap.size w w' ∧
  ((e = .returned (.tuple #[.map none, .bool false]) ∧ (Big (coef (mulL a b)) ∨ Steep (mulL a b))) ∨
   ∃ r es, e = .returned (.tuple #[.map (some r), .bool true]) ∧ w.heap.size ≤ r ∧ MapIs w' r es ∧ Rep es (coef (mulL a b)) ∧ Flat (mulL a b))
theorem ProdPost.bad {w : World} {a b : Asc} {w' : World} (h : Below w.heap.size w w') (hb : Big (coef (mulL a b)) ∨ Steep (mulL a b)) : ProdPost w a b (.returned (.tuple #[.map none, .bool false])) w' := ⟨h, .inl ⟨rfl, hb⟩⟩
theorem ProdPost.good {w : World} {a b : Asc} {w' : World} {r : Nat} {es : Asc} (h : Below w.heap.size w w') (hr : w.heap.size ≤ r) (hm : MapIs w' r es) (hp : Rep es (coef (mulL a b))) (hf : Flat (mulL a b)) : ProdPost w a b (.returned (.tuple #[.map (some r), .bool true])) w' :=
  ⟨h, .inr ⟨r, es, rfl, hr, hm, hp, hf⟩⟩


theorem exC_set (l : List Int) (n : Nat) (v : Int) : (exC l).setIfInBounds n (.int .i64 v) = exC (l.set n v) := by
  unfold exC
  simp
theorem exC_get (l : List Int) (n : Nat) : (exC l)[n]? = (l[n]?).map (Value.int .i64) := by
  unfold exC
  simp
theorem vadd_len {x y : List Int} (hx : x.length = 8) (hy : y.length = 8) : (vadd x y).length = 8 := by simp [vadd, hx, hy]
theorem vadd_get {x y : List Int} {n : Nat} {u v : Int} (hx : x[n]? = some u) (hy : y[n]? = some v) : (vadd x y)[n]? = some (u + v) := by
  unfold vadd
  rw [List.getElem?_zipWith, hx, hy]
theorem upTo_len {x y : List Int} (hx : x.length = 8) (hy : y.length = 8) {n : Nat} (h : n ≤ 8) : (upTo x y n).length = 8 := by
  simp [upTo, vadd_len hx hy]
  omega
theorem upTo_set {x y : List Int} (hx : x.length = 8) (hy : y.length = 8) {n : Nat} (h : n < 8) {s : Int} (hs : (vadd x y)[n]? = some s) : (upTo x y n).set n s = upTo x y (n + 1) := by
  have hl := vadd_len hx hy
  unfold upTo
  generalize vadd x y = z at *
  obtain ⟨z0, z1, z2, z3, z4, z5, z6, z7, rfl⟩ := len8 z hl
  match n, h with
  | 0, _ | 1, _ | 2, _ | 3, _ | 4, _ | 5, _ | 6, _ | 7, _ =>
    simp only [List.getElem?_cons_zero, List.getElem?_cons_succ, Option.some.injEq] at hs
    subst hs
    rfl
theorem upTo_zero (x y : List Int) : upTo x y 0 = [0, 0, 0, 0, 0, 0, 0, 0] := by simp [upTo]
theorem upTo_all {x y : List Int} (hx : x.length = 8) (hy : y.length = 8) : upTo x y 8 = vadd x y := by
  simp [upTo, List.take_of_length_le, vadd_len hx hy]

structure ProdOut (w wr : World) (a b : Asc) (r1 r2 it1 : Nat) (la : List Nat) (es : Asc) : Prop where
  ga : Going wr it1 r1 a la
  m : MapIs wr w.heap.size es
  rep : Rep es (coef (mulL (pick a la) b))
  flat : Flat (mulL (pick a la) b)
  bel : Below w.heap.size w wr
  o1 : w.heap.size < it1
structure ProdIn (w wr : World) (a b : Asc) (r1 r2 it1 gx it2 : Nat) (la : List Nat) (i : Nat) (p : List Int × Int) (lb : List Nat) (es : Asc) : Prop where
  ga : Going wr it1 r1 a (la ++ [i])
  pi : a[i]? = some p
  bx : wr.heap[gx]? = some (.cells (exC p.1) 54 (0, 0))
  gb : Going wr it2 r2 b lb
  m : MapIs wr w.heap.size es
  rep : Rep es (coef (mulL (pick a la) b ++ (pick b lb).map (mulM p)))
  flat : Flat (mulL (pick a la) b ++ (pick b lb).map (mulM p))
  bel : Below w.heap.size w wr
  o1 : w.heap.size < it1
  o2 : it1 < gx
  o3 : gx < it2
theorem ProdOut.start {w : World} {a b : Asc} {r1 r2 : Nat} (h1 : MapIs w r1 a) : ProdOut w ((w.alloc (.map #[] 0)).alloc (.mapIter (some r1) a.length #[] a.length)) a b r1 r2 (w.heap.size + 1) [] [] where
  ga := by
    have := Going.start (h1.alloc (.map #[] 0))
    simpa using this
  m := ⟨by
    have := heap_alloc_new w (.map #[] 0)
    rw [Below.heap_alloc _ _ _ (by simp)]
    exact this, by simp, by simp⟩
  rep := Rep.nil.congr fun k => by simp [pick_nil, mulL, coef]
  flat := by simp [Flat, pick_nil, mulL]
  bel := ((Below.refl _ _).alloc (Nat.le_refl _) _).alloc (by simp) _
  o1 := by omega
/-- The outer range is through. -/
theorem ProdOut.done {w wr : World} {a b : Asc} {r1 r2 it1 : Nat} {la : List Nat} {es : Asc} (h : ProdOut w wr a b r1 r2 it1 la es) (hs : ∀ i, i < a.length → i ∈ la) :
    ProdPost w a b (.returned (.tuple #[.map (some w.heap.size), .bool true])) wr := by
  have hp := mulL_perm (pick_all h.ga.nd h.ga.lt hs) (List.Perm.refl b)
  exact ProdPost.good h.bel (Nat.le_refl _) h.m (h.rep.congr fun k => (coef_perm hp k).symm) fun m hm => h.flat m (hp.mem_iff.1 hm)
/-- The inner range begins. -/
theorem ProdOut.inner {w wr w1 : World} {a b : Asc} {r1 r2 it1 : Nat} {la : List Nat} {es : Asc} (h : ProdOut w wr a b r1 r2 it1 la es) {i : Nat} {p : List Int × Int} (ho : Only it1 wr w1) (hp : a[i]? = some p)
    (g1 : Going w1 it1 r1 a (la ++ [i])) (h2 : MapIs w r2 b) :
    MapIs (w1.alloc (.cells (exC p.1) 54)) r2 b ∧ ProdIn w ((w1.alloc (.cells (exC p.1) 54)).alloc (.mapIter (some r2) b.length #[] b.length)) a b r1 r2 it1 w1.heap.size (w1.heap.size + 1) la i p [] es := by
  have hb1 : Below w.heap.size w w1 := ho.below h.bel (by have := h.o1; omega)
  have m2 : MapIs (w1.alloc (.cells (exC p.1) 54)) r2 b := (h2.below hb1).alloc _
  have hb2 := (Below.refl w1.heap.size w1).alloc (Nat.le_refl _) (.cells (exC p.1) 54)
  have hb3 := hb2.alloc (by simp) (.mapIter (some r2) b.length #[] b.length)
  refine ⟨m2, ?_⟩
  constructor
  · exact g1.below hb3
  · exact hp
  · have h0 := heap_alloc_new w1 (.cells (exC p.1) 54)
    rw [Below.heap_alloc _ _ _ (by simp)]
    exact h0
  · have := Going.start m2
    simpa using this
  · exact (((h.m.only ho (by have := h.o1; omega)).alloc _).alloc _)
  · simpa [pick_nil] using h.rep
  · simpa [pick_nil] using h.flat
  · exact (hb1.alloc hb1.size _).alloc (Nat.le_trans hb1.size (by simp)) _
  · exact h.o1
  · have := g1.ltIt; omega
  · omega
/-- The inner range is through. -/
theorem ProdIn.done {w wr : World} {a b : Asc} {r1 r2 it1 gx it2 : Nat} {la : List Nat} {i : Nat} {p : List Int × Int} {lb : List Nat} {es : Asc} (h : ProdIn w wr a b r1 r2 it1 gx it2 la i p lb es) (hs : ∀ i, i < b.length → i ∈ lb) :
    ProdOut w wr a b r1 r2 it1 (la ++ [i]) es := by
  have hp : (mulL (pick a (la ++ [i])) b).Perm (mulL (pick a la) b ++ (pick b lb).map (mulM p)) := by
    rw [pick_snoc h.pi, mulL_append, mulL_one]
    exact List.Perm.append_left _ ((pick_all h.gb.nd h.gb.lt hs).map _)
  exact ⟨h.ga, h.m, h.rep.congr fun k => (coef_perm hp k).symm, fun m hm => h.flat m (hp.mem_iff.1 hm), h.bel, h.o1⟩
theorem Pos.nn {a : Asc} (h : Pos a) : ∀ p ∈ a, 0 ≤ p.2 := fun p hp => by have := (h p hp).1; omega
theorem mem_mul {a b : Asc} {p q : List Int × Int} (hp : p ∈ a) (hq : q ∈ b) : mulM p q ∈ mulL a b := by
  simp only [mulL, List.mem_flatMap, List.mem_map]
  exact ⟨p, hp, q, hq, rfl⟩
theorem coef_mem {a : Asc} (h : ∀ p ∈ a, 0 ≤ p.2) {p : List Int × Int} (hp : p ∈ a) : p.2 ≤ coef a p.1 := by
  induction a with
  | nil => cases hp
  | cons q a ih =>
    have h1 := coef_nonneg (a := a) (fun q hq => h q (by simp [hq])) p.1
    simp only [coef]
    rcases List.mem_cons.1 hp with rfl | hp
    · rw [if_pos rfl]; omega
    · have h2 := ih (fun q hq => h q (by simp [hq])) hp
      have h3 := h q (by simp)
      split <;> omega
/-- The inner range's step, its world, and what a monomial more comes to. -/
structure ProdAt (w w1 : World) (a b : Asc) (r1 r2 it1 gx it2 : Nat) (la : List Nat) (i : Nat) (p : List Int × Int) (lb : List Nat) (j : Nat) (q : List Int × Int) (es : Asc) : Prop where
  ga : Going w1 it1 r1 a (la ++ [i])
  pi : a[i]? = some p
  bx : w1.heap[gx]? = some (.cells (exC p.1) 54 (0, 0))
  gb : Going w1 it2 r2 b (lb ++ [j])
  qj : b[j]? = some q
  nj : j ∉ lb
  m : MapIs w1 w.heap.size es
  rep : Rep es (coef (mulL (pick a la) b ++ (pick b lb).map (mulM p)))
  flat : Flat (mulL (pick a la) b ++ (pick b lb).map (mulM p))
  bel : Below w.heap.size w w1
  o1 : w.heap.size < it1
  o2 : it1 < gx
  o3 : gx < it2
theorem ProdIn.at_ {w wr w1 : World} {a b : Asc} {r1 r2 it1 gx it2 : Nat} {la : List Nat} {i : Nat} {p : List Int × Int} {lb : List Nat} {es : Asc} (h : ProdIn w wr a b r1 r2 it1 gx it2 la i p lb es) {j : Nat} {q : List Int × Int} (l1 : r1 < w.heap.size)
    (ho : Only it2 wr w1) (hq : b[j]? = some q) (hj : j ∉ lb) (g1 : Going w1 it2 r2 b (lb ++ [j])) : ProdAt w w1 a b r1 r2 it1 gx it2 la i p lb j q es := by
  have o1 := h.o1
  have o2 := h.o2
  have o3 := h.o3
  exact ⟨h.ga.but ho.but (by omega) (by omega), h.pi, (ho.block gx (by omega)).trans h.bx, g1, hq, hj, h.m.only ho (by omega), h.rep, h.flat, ho.below h.bel (by omega), o1, o2, o3⟩
theorem ProdAt.below {w w1 w2 : World} {a b : Asc} {r1 r2 it1 gx it2 : Nat} {la : List Nat} {i : Nat} {p : List Int × Int} {lb : List Nat} {j : Nat} {q : List Int × Int} {es : Asc} (h : ProdAt w w1 a b r1 r2 it1 gx it2 la i p lb j q es)
    (hb : Below w1.heap.size w1 w2) : ProdAt w w2 a b r1 r2 it1 gx it2 la i p lb j q es :=
  ⟨h.ga.below hb, h.pi, (hb.block gx (blk_lt' h.bx)).trans h.bx, h.gb.below hb, h.qj, h.nj, h.m.below hb, h.rep, h.flat, h.bel.trans ⟨hb.os, hb.tape, hb.output, hb.size, fun k hk => hb.block k (Nat.lt_of_lt_of_le hk h.bel.size)⟩, h.o1, h.o2, h.o3⟩
theorem ProdAt.but {w w1 w2 : World} {a b : Asc} {r1 r2 it1 gx it2 g : Nat} {la : List Nat} {i : Nat} {p : List Int × Int} {lb : List Nat} {j : Nat} {q : List Int × Int} {es : Asc} (h : ProdAt w w1 a b r1 r2 it1 gx it2 la i p lb j q es)
    (hb : But g w1 w2) (hg : it2 < g) (l1 : r1 < w.heap.size) (l2 : r2 < w.heap.size) : ProdAt w w2 a b r1 r2 it1 gx it2 la i p lb j q es := by
  have o1 := h.o1
  have o2 := h.o2
  have o3 := h.o3
  exact ⟨h.ga.but hb (by omega) (by omega), h.pi, (hb.block gx (blk_lt' h.bx) (by omega)).trans h.bx, h.gb.but hb (by omega) (by omega), h.qj, h.nj, h.m.but hb (by omega), h.rep, h.flat, hb.below h.bel h.bel.size (by omega), o1, o2, o3⟩
theorem But.store (w : World) (g n : Nat) (v : Value) : But g w (w.drew.setCell ⟨g, n, none⟩ v) :=
  ⟨rfl, rfl, rfl, by simp [World.setCell], fun k _ hne => Below.heap_setCell w.drew ⟨g, n, none⟩ v k hne⟩
theorem ProdAt.vecs {w w1 : World} {a b : Asc} {r1 r2 it1 gx it2 : Nat} {la : List Nat} {i : Nat} {p : List Int × Int} {lb : List Nat} {j : Nat} {q : List Int × Int} {es : Asc} (h : ProdAt w w1 a b r1 r2 it1 gx it2 la i p lb j q es) : p.1.length = 8 ∧ q.1.length = 8 :=
  ⟨(h.ga.map.vec _ (List.mem_of_getElem? h.pi)).1, (h.gb.map.vec _ (List.mem_of_getElem? h.qj)).1⟩
theorem ProdAt.steep {w w1 : World} {a b : Asc} {r1 r2 it1 gx it2 : Nat} {la : List Nat} {i : Nat} {p : List Int × Int} {lb : List Nat} {j : Nat} {q : List Int × Int} {es : Asc} (h : ProdAt w w1 a b r1 r2 it1 gx it2 la i p lb j q es) {n : Nat} {s : Int}
    (hs : (vadd p.1 q.1)[n]? = some s) (h60 : 60 < s) : Steep (mulL a b) :=
  ⟨mulM p q, mem_mul (List.mem_of_getElem? h.pi) (List.mem_of_getElem? h.qj), s, List.mem_of_getElem? hs, h60⟩
theorem ProdAt.great {w w1 : World} {a b : Asc} {r1 r2 it1 gx it2 : Nat} {la : List Nat} {i : Nat} {p : List Int × Int} {lb : List Nat} {j : Nat} {q : List Int × Int} {es : Asc} (h : ProdAt w w1 a b r1 r2 it1 gx it2 la i p lb j q es)
    (pa : Pos a) (pb : Pos b) (hn : ¬ p.2 * q.2 ≤ 1000000000000000) : Big (coef (mulL a b)) := by
  refine .inl ⟨vadd p.1 q.1, ?_⟩
  have := coef_mem (mul_nonneg pa.nn pb.nn) (mem_mul (List.mem_of_getElem? h.pi) (List.mem_of_getElem? h.qj))
  simp only [mulM] at this
  omega
/-- A monomial more: it goes well. -/
theorem ProdAt.more {w w1 w2 : World} {a b : Asc} {r1 r2 it1 gx it2 : Nat} {la : List Nat} {i : Nat} {p : List Int × Int} {lb : List Nat} {j : Nat} {q : List Int × Int} {es : Asc} (h : ProdAt w w1 a b r1 r2 it1 gx it2 la i p lb j q es)
    (pa : Pos a) (pb : Pos b) (l1 : r1 < w.heap.size) (l2 : r2 < w.heap.size) (hf : ∀ v ∈ vadd p.1 q.1, v ≤ 60)
    (hok : getA es (vadd p.1 q.1) + p.2 * q.2 ≤ 1000000000000000 ∧ (setA es (vadd p.1 q.1) (getA es (vadd p.1 q.1) + p.2 * q.2)).length ≤ 200)
    (hm : MapIs w2 w.heap.size (setA es (vadd p.1 q.1) (getA es (vadd p.1 q.1) + p.2 * q.2))) (hb : But w.heap.size w1 w2) :
    ProdIn w w2 a b r1 r2 it1 gx it2 la i p (lb ++ [j]) (setA es (vadd p.1 q.1) (getA es (vadd p.1 q.1) + p.2 * q.2)) := by
  have o1 := h.o1
  have o2 := h.o2
  have o3 := h.o3
  have hp := pa _ (List.mem_of_getElem? h.pi)
  have hq := pb _ (List.mem_of_getElem? h.qj)
  have hsm : ∀ v ∈ vadd p.1 q.1, 0 ≤ v ∧ v ≤ 60 := fun v hv => by
    refine ⟨?_, hf v hv⟩
    obtain ⟨n, hn⟩ := List.mem_iff_getElem?.1 hv
    unfold vadd at hn
    rw [List.getElem?_zipWith] at hn
    cases hx : p.1[n]? with
    | none => simp [hx] at hn
    | some x =>
      cases hy : q.1[n]? with
      | none => simp [hx, hy] at hn
      | some y =>
        simp only [hx, hy, Option.some.injEq] at hn
        have := hp.2.2 x (List.mem_of_getElem? hx)
        have := hq.2.2 y (List.mem_of_getElem? hy)
        omega
  have hvec : Vec (vadd p.1 q.1) := ⟨vadd_len h.vecs.1 h.vecs.2, fun v hv => by have := hsm v hv; omega⟩
  have hpos : 0 < p.2 * q.2 := Int.mul_pos hp.1 hq.1
  constructor
  · exact h.ga.but hb (by omega) (by omega)
  · exact h.pi
  · exact (hb.block gx (blk_lt' h.bx) (by omega)).trans h.bx
  · exact h.gb.but hb (by omega) (by omega)
  · exact hm
  · refine (h.rep.add hvec hsm h.m.vec hpos hok.1 hok.2).congr fun k => ?_
    rw [pick_snoc h.qj, List.map_append, ← List.append_assoc, coef_append _ (List.map (mulM p) [q])]
    simp [coef, mulM]
  · intro m hm
    rw [pick_snoc h.qj, List.map_append, ← List.append_assoc] at hm
    rcases List.mem_append.1 hm with hm | hm
    · exact h.flat m hm
    · simp only [List.map_cons, List.map_nil, List.mem_singleton] at hm
      subst hm
      exact hf
  · exact hb.below h.bel h.bel.size (Nat.le_refl _)
  · exact o1
  · exact o2
  · exact o3
/-- A monomial more: it goes wrong. -/
theorem ProdAt.wrong {w w1 : World} {a b : Asc} {r1 r2 it1 gx it2 : Nat} {la : List Nat} {i : Nat} {p : List Int × Int} {lb : List Nat} {j : Nat} {q : List Int × Int} {es : Asc} (h : ProdAt w w1 a b r1 r2 it1 gx it2 la i p lb j q es)
    (pa : Pos a) (pb : Pos b) (hvec : Vec (vadd p.1 q.1))
    (hok : ¬ (getA es (vadd p.1 q.1) + p.2 * q.2 ≤ 1000000000000000 ∧ (setA es (vadd p.1 q.1) (getA es (vadd p.1 q.1) + p.2 * q.2)).length ≤ 200)) : Big (coef (mulL a b)) := by
  have hp := pa _ (List.mem_of_getElem? h.pi)
  have hq := pb _ (List.mem_of_getElem? h.qj)
  refine h.rep.add_big hvec h.m.vec (Int.mul_pos hp.1 hq.1) hok fun k => ?_
  have h1 := part_le_whole pa.nn pb.nn h.ga.nd h.ga.lt h.gb.nd h.gb.lt h.pi k
  rw [pick_snoc h.qj, List.map_append, ← List.append_assoc, coef_append _ (List.map (mulM p) [q])] at h1
  simpa [coef, mulM] using h1
theorem ProdAt.vec {w w1 : World} {a b : Asc} {r1 r2 it1 gx it2 : Nat} {la : List Nat} {i : Nat} {p : List Int × Int} {lb : List Nat} {j : Nat} {q : List Int × Int} {es : Asc} (h : ProdAt w w1 a b r1 r2 it1 gx it2 la i p lb j q es)
    (pa : Pos a) (pb : Pos b) : Vec (vadd p.1 q.1) := by
  refine ⟨vadd_len h.vecs.1 h.vecs.2, fun v hv => ?_⟩
  have hp := pa _ (List.mem_of_getElem? h.pi)
  have hq := pb _ (List.mem_of_getElem? h.qj)
  obtain ⟨n, hn⟩ := List.mem_iff_getElem?.1 hv
  unfold vadd at hn
  rw [List.getElem?_zipWith] at hn
  cases hx : p.1[n]? with
  | none => simp [hx] at hn
  | some x =>
    cases hy : q.1[n]? with
    | none => simp [hx, hy] at hn
    | some y =>
      simp only [hx, hy, Option.some.injEq] at hn
      have := hp.2.2 x (List.mem_of_getElem? hx)
      have := hq.2.2 y (List.mem_of_getElem? hy)
      omega
theorem cells8 {w : World} {g : Nat} {z0 z1 z2 z3 z4 z5 z6 z7 : Int} (h : w.heap[g]? = some (.cells (exC [z0, z1, z2, z3, z4, z5, z6, z7]) 54 (0, 0))) :
    w.cell? ⟨g, 0, none⟩ = some (.int .i64 z0) ∧ w.cell? ⟨g, 1, none⟩ = some (.int .i64 z1) ∧ w.cell? ⟨g, 2, none⟩ = some (.int .i64 z2) ∧ w.cell? ⟨g, 3, none⟩ = some (.int .i64 z3) ∧
    w.cell? ⟨g, 4, none⟩ = some (.int .i64 z4) ∧ w.cell? ⟨g, 5, none⟩ = some (.int .i64 z5) ∧ w.cell? ⟨g, 6, none⟩ = some (.int .i64 z6) ∧ w.cell? ⟨g, 7, none⟩ = some (.int .i64 z7) := by
  have hc := fun j => cell_of_row w g j _ _ _ h
  refine ⟨hc 0, hc 1, hc 2, hc 3, hc 4, hc 5, hc 6, hc 7⟩

set_option maxRecDepth 100000 in
set_option maxHeartbeats 8000000 in
theorem product_calls (r1 r2 : Nat) (a b : Asc) (w : World) (h1 : MapIs w r1 a) (h2 : MapIs w r2 b) (pa : Pos a) (pb : Pos b) :
    Calls Try.prog 35 #[.map (some r1), .map (some r2)] w (ProdPost w a b) := by
  have hmm := @run_makeMap Try.prog
  have H2 := Lib.hid h2
  have l1 := Lib.hid h1.lt
  have l2 := Lib.hid h2.lt
  have PA := Lib.hid pa
  have PB := Lib.hid pb
  have hrg := run_range_ (h1.alloc (.map #[] 0))
  have P0 := ProdOut.start (r2 := r2) (b := b) h1
  clear h1 h2 pa pb
  go_enter Try.func35, Try.ntmps35
  go_wp2
  go_loopg [18] a.length (fun n v18 wr => ∃ (la : List Nat) (es : Asc), Hid (n = a.length - la.length) ∧ ProdOut w wr a b r1 r2 (w.heap.size + 1) la es)
  case atStart => exact ⟨[], [], Lib.hid (by simp), P0⟩
  case round =>
    clear P0 hrg hmm
    obtain ⟨la, es, N, P⟩ := hrel
    rcases P.ga.next with ⟨hn, hs⟩ | ⟨w1, i, x, c, hn, ho, he, hi, G1, hen, hlt, hv⟩
    · have R := P.done hs
      clear hs P
      go_wp2
      go_ret2
      exact R
    · obtain ⟨m2, I0⟩ := P.inner ho he G1 H2.out
      have hrg := run_range_ m2
      have HLT := Lib.hid hlt
      have HV := Lib.hid hv.1
      clear P ho he G1 m2 hlt hi hv
      obtain ⟨X, hX⟩ : ∃ X, X = x := ⟨_, rfl⟩
      rw [← hX] at I0
      have HX := Lib.hid hX
      clear hX
      obtain ⟨x0, x1, x2, x3, x4, x5, x6, x7, rfl⟩ := len8 x HV.out
      have hXl : Hid (X.length = 8) := Lib.hid (by rw [HX.out]; rfl)
      have hw2 : Hid (w1.alloc (.cells (exC X) 54) = w1.alloc (.cells #[.int .i64 x0, .int .i64 x1, .int .i64 x2, .int .i64 x3, .int .i64 x4, .int .i64 x5, .int .i64 x6, .int .i64 x7] 54)) := Lib.hid (by rw [HX.out]; rfl)
      rw [hw2.out] at I0
      simp only [exC, List.map_cons, List.map_nil] at hn hen hrg
      go_wp2
      obtain ⟨wo, rfl⟩ : ∃ wo : World, wo = wr := ⟨_, rfl⟩
      obtain ⟨go, rfl⟩ : ∃ go : Nat, go = gk := ⟨_, rfl⟩
      clear hw2
      obtain ⟨gx, hgx⟩ : ∃ gx, gx = w1.heap.size := ⟨_, rfl⟩
      simp only [← hgx] at *
      clear hgx
      go_loopg [25] b.length (fun n v25 wr => ∃ (lb : List Nat) (es2 : Asc), Hid (n = b.length - lb.length) ∧ ProdIn w wr a b r1 r2 (w.heap.size + 1) gx (gx + 1) la i (X, c) lb es2)
      case atStart => exact ⟨[], es, Lib.hid (by simp), I0⟩
      case round =>
        clear I0 hrg hen
        obtain ⟨lb, es2, N2, I⟩ := hrel
        rcases I.gb.next with ⟨hn2, hs⟩ | ⟨w3, j, y, d, hn2, ho, he, hj, G1, hen, hlt2, hv⟩
        · have R := I.done hs
          clear hs I
          go_wp2
          go_roundg (a.length - (la.length + 1))
          case measure => have := N.out; have := HLT.out; omega
          case rel => exact ⟨la ++ [i], es2, Lib.hid (by simp), R⟩
        · have A := I.at_ l1.out ho he hj G1
          have HLT2 := Lib.hid hlt2
          have HV2 := Lib.hid hv.1
          clear I ho he hj G1 hlt2 hv
          obtain ⟨Y, hY⟩ : ∃ Y, Y = y := ⟨_, rfl⟩
          rw [← hY] at A
          have HY := Lib.hid hY
          clear hY
          obtain ⟨y0, y1, y2, y3, y4, y5, y6, y7, rfl⟩ := len8 y HV2.out
          have hYl : Hid (Y.length = 8) := Lib.hid (by rw [HY.out]; rfl)
          have A2 := A.below (((Below.refl w3.heap.size w3).alloc (Nat.le_refl _) (.cells (exC Y) 54)).alloc (by simp) (.cells (exC [0, 0, 0, 0, 0, 0, 0, 0]) 54))
          have BY : Hid (((w3.alloc (.cells (exC Y) 54)).alloc (.cells (exC [0, 0, 0, 0, 0, 0, 0, 0]) 54)).heap[w3.heap.size]? = some (.cells (exC Y) 54 (0, 0))) := Lib.hid (by
            have h0 := heap_alloc_new w3 (.cells (exC Y) 54)
            rw [Below.heap_alloc _ _ _ (by simp)]
            exact h0)
          have BE : Hid (((w3.alloc (.cells (exC Y) 54)).alloc (.cells (exC [0, 0, 0, 0, 0, 0, 0, 0]) 54)).heap[w3.heap.size + 1]? = some (.cells (exC [0, 0, 0, 0, 0, 0, 0, 0]) 54 (0, 0))) := Lib.hid (by
            have h0 := heap_alloc_new (w3.alloc (.cells (exC Y) 54)) (.cells (exC [0, 0, 0, 0, 0, 0, 0, 0]) 54)
            simpa using h0)
          have hgy : Hid (gx + 1 < w3.heap.size ∧ w.heap.size < w3.heap.size ∧ gx ≠ w3.heap.size + 1) := Lib.hid (by
            have h1 := A.gb.ltIt
            have h2 := A.o1
            have h3 := A.o2
            omega)
          clear A
          have hw4 : Hid ((w3.alloc (.cells (exC Y) 54)).alloc (.cells (exC [0, 0, 0, 0, 0, 0, 0, 0]) 54) = (w3.alloc (.cells #[.int .i64 y0, .int .i64 y1, .int .i64 y2, .int .i64 y3, .int .i64 y4, .int .i64 y5, .int .i64 y6, .int .i64 y7] 54)).alloc (.cells #[.int .i64 0, .int .i64 0, .int .i64 0, .int .i64 0, .int .i64 0, .int .i64 0, .int .i64 0, .int .i64 0] 54)) := Lib.hid (by rw [HY.out]; rfl)
          obtain ⟨w4, hw⟩ : ∃ w4, w4 = (w3.alloc (.cells (exC Y) 54)).alloc (.cells (exC [0, 0, 0, 0, 0, 0, 0, 0]) 54) := ⟨_, rfl⟩
          rw [← hw] at A2 BY BE hw4
          have H4 := Lib.hid (hw.trans (hw.symm.trans hw4.out))
          clear hw hw4
          simp only [exC, List.map_cons, List.map_nil] at hn2 hen
          go_wp2
          simp only [← H4.out]
          obtain ⟨wi, rfl⟩ : ∃ wi : World, wi = wr := ⟨_, rfl⟩
          obtain ⟨gi, rfl⟩ : ∃ gi : Nat, gi = gk := ⟨_, rfl⟩
          clear H4
          obtain ⟨gy, hgy'⟩ : ∃ gy, gy = w3.heap.size := ⟨_, rfl⟩
          simp only [← hgy'] at *
          clear hgy'
          go_loopg [30] 8 (fun n v30 wr => ∃ m : Nat, v30 = .int .i64 m ∧ Hid (m ≤ 8) ∧ Hid (n = 8 - m) ∧ ProdAt w wr a b r1 r2 (w.heap.size + 1) gx (gx + 1) la i (X, c) lb j (Y, d) es2 ∧ Hid (wr.heap[gy]? = some (.cells (exC Y) 54 (0, 0))) ∧ Hid (wr.heap[gy + 1]? = some (.cells (exC (upTo X Y m)) 54 (0, 0))) ∧ Hid (∀ v ∈ (vadd X Y).take m, v ≤ 60))
          case atStart => exact ⟨0, rfl, Lib.hid (by omega), Lib.hid rfl, A2, BY, Lib.hid (by rw [upTo_zero]; exact BE.out), Lib.hid (by simp)⟩
          case round =>
            clear A2 BY BE hen hn2
            obtain ⟨m, rfl, HM, HN, A, BY, BE, HF⟩ := hrel
            by_cases hm : m = 8
            · subst hm
              rw [upTo_all hXl.out hYl.out] at BE
              have hf : Hid (∀ v ∈ vadd X Y, v ≤ 60) := Lib.hid (by
                have := HF.out
                rwa [List.take_of_length_le (by rw [vadd_len hXl.out hYl.out]; omega)] at this)
              clear HF HM HN BY
              obtain ⟨z0, z1, z2, z3, z4, z5, z6, z7, hz⟩ := len8 (vadd X Y) (vadd_len hXl.out hYl.out)
              have hvec := A.vec PA.out PB.out
              have hcd := PA.out _ (List.mem_of_getElem? A.pi)
              have hdd := PB.out _ (List.mem_of_getElem? A.qj)
              simp only at hcd hdd hvec
              have HT := Lib.hid (times_calls c d wr (by omega) (by omega) (by omega) (by omega))
              have h8 : decide ((8 : Int) < 8) = false := by decide
              have HZ := Lib.hid hz
              by_cases hp : c * d ≤ 1000000000000000
              · have hpos : 0 < c * d := Int.mul_pos hcd.1 hdd.1
                have hb := get_bounds A.rep.pos (vadd X Y)
                by_cases hok : getA es2 (vadd X Y) + c * d ≤ 1000000000000000 ∧ (setA es2 (vadd X Y) (getA es2 (vadd X Y) + c * d)).length ≤ 200
                · have HA : ∀ w5, Below wr.heap.size wr w5 → Calls Try.prog 40 #[.map (some w.heap.size), .agg (exC (vadd X Y)), .int .i64 (c * d)] w5 fun e w' => e = .returned (.bool true) ∧ ProdIn w w' a b r1 r2 (w.heap.size + 1) gx (gx + 1) la i (X, c) (lb ++ [j]) (setA es2 (vadd X Y) (getA es2 (vadd X Y) + c * d)) := by
                    intro w5 hb5
                    have A5 := A.below hb5
                    refine (add_calls w.heap.size es2 (vadd X Y) (c * d) w5 A5.m hvec hb.1 hb.2.1 (by omega) hp (by have := A5.rep.len; omega)).mono ?_
                    rintro e w' ⟨rfl, h1, h2⟩
                    exact ⟨by rw [decide_eq_true hok.1, decide_eq_true hok.2]; rfl, A5.more PA.out PB.out l1.out l2.out hf.out hok h1 h2⟩
                  have HA' := Lib.hid HA
                  have HP := Lib.hid hp
                  clear HA hok hb hpos hvec hcd hdd A hz hp
                  simp only [HZ.out, exC, List.map_cons, List.map_nil] at HA' BE
                  generalize c * d = cd at *
                  go_wp2_with (first | (go_at_call 41; refine HT.out.mono ?_; rintro e w5 ⟨nn, rfl, hnn, hb5⟩; obtain rfl := hnn HP.out; have cc := cells8 ((hb5.block _ (blk_lt' BE.out)).trans BE.out); obtain ⟨cc0, cc1, cc2, cc3, cc4, cc5, cc6, cc7⟩ := cc; have hdp := decide_eq_true HP.out) | (go_at_call 40; refine (HA'.out _ hb5).mono ?_; rintro e w6 ⟨rfl, hin⟩))
                  go_roundg (b.length - (lb.length + 1))
                  case measure => have := N2.out; have := HLT2.out; omega
                  case rel => exact ⟨lb ++ [j], _, Lib.hid (by simp), hin⟩
                · have RB := Lib.hid (A.wrong PA.out PB.out hvec hok)
                  have HA : ∀ w5, Below wr.heap.size wr w5 → Calls Try.prog 40 #[.map (some w.heap.size), .agg (exC (vadd X Y)), .int .i64 (c * d)] w5 fun e w' => e = .returned (.bool false) ∧ Below w.heap.size w w' := by
                    intro w5 hb5
                    have A5 := A.below hb5
                    refine (add_calls w.heap.size es2 (vadd X Y) (c * d) w5 A5.m hvec hb.1 hb.2.1 (by omega) hp (by have := A5.rep.len; omega)).mono ?_
                    rintro e w' ⟨rfl, h1, h2⟩
                    exact ⟨by rw [← Bool.decide_and, decide_eq_false hok], h2.below A5.bel A5.bel.size (Nat.le_refl _)⟩
                  have HA' := Lib.hid HA
                  have HP := Lib.hid hp
                  clear HA hok hb hpos hvec hcd hdd A hz hp
                  simp only [HZ.out, exC, List.map_cons, List.map_nil] at HA' BE
                  generalize c * d = cd at *
                  go_wp2_with (first | (go_at_call 41; refine HT.out.mono ?_; rintro e w5 ⟨nn, rfl, hnn, hb5⟩; obtain rfl := hnn HP.out; have cc := cells8 ((hb5.block _ (blk_lt' BE.out)).trans BE.out); obtain ⟨cc0, cc1, cc2, cc3, cc4, cc5, cc6, cc7⟩ := cc; have hdp := decide_eq_true HP.out) | (go_at_call 40; refine (HA'.out _ hb5).mono ?_; rintro e w6 ⟨rfl, hin⟩))
                  go_ret2
                  exact ProdPost.bad hin (.inl RB.out)
              · have RB := Lib.hid (A.great PA.out PB.out hp)
                have WB := Lib.hid A.bel
                have HP := Lib.hid (decide_eq_false hp)
                clear hvec hcd hdd A hz hp BE
                generalize c * d = cd at *
                go_wp2_with (go_at_call 41; refine HT.out.mono ?_; rintro e w5 ⟨nn, rfl, hnn, hb5⟩; have hdp := HP.out)
                go_ret2
                exact ProdPost.bad (WB.out.trans ⟨hb5.os, hb5.tape, hb5.output, hb5.size, fun k hk => hb5.block k (Nat.lt_of_lt_of_le hk WB.out.size)⟩) (.inl RB.out)
            · have hm8 : m < 8 := by have := HM.out; omega
              clear hm
              have hmb : decide ((m : Int) < 8) = true := decide_eq_true (by omega)
              obtain ⟨xv, hxv⟩ : ∃ xv, X[m]? = some xv := ⟨_, List.getElem?_eq_getElem (by rw [hXl.out]; exact hm8)⟩
              obtain ⟨yv, hyv⟩ : ∃ yv, Y[m]? = some yv := ⟨_, List.getElem?_eq_getElem (by rw [hYl.out]; exact hm8)⟩
              have hxb := (PA.out _ (List.mem_of_getElem? A.pi)).2.2 xv (List.mem_of_getElem? hxv)
              have hyb := (PB.out _ (List.mem_of_getElem? A.qj)).2.2 yv (List.mem_of_getElem? hyv)
              have cx : wr.cell? ⟨gx, m, none⟩ = some (.int .i64 xv) := by rw [cell_of_row _ _ _ _ _ _ A.bx, exC_get, hxv]; rfl
              have cy : wr.cell? ⟨gy, m, none⟩ = some (.int .i64 yv) := by rw [cell_of_row _ _ _ _ _ _ BY.out, exC_get, hyv]; rfl
              obtain ⟨ev, ce⟩ : ∃ ev, wr.cell? ⟨gy + 1, m, none⟩ = some (.int .i64 ev) := by
                rw [cell_of_row _ _ _ _ _ _ BE.out, exC_get]
                have hl := upTo_len hXl.out hYl.out (Nat.le_of_lt hm8)
                exact ⟨(upTo X Y m)[m]'(by rw [hl]; exact hm8), by rw [List.getElem?_eq_getElem (by rw [hl]; exact hm8)]; rfl⟩
              have fe : wr.frozen? ⟨gy + 1, m, none⟩ = false := frozen_of_row _ _ _ _ _ BE.out
              have hs := vadd_get hxv hyv
              have HS := Lib.hid hs
              have hb := But.store wr (gy + 1) m (.int .i64 (xv + yv))
              have A2 := A.but hb (by have := hgy.out; omega) l1.out l2.out
              have BY2 : Hid ((wr.drew.setCell ⟨gy + 1, m, none⟩ (.int .i64 (xv + yv))).heap[gy]? = some (.cells (exC Y) 54 (0, 0))) := Lib.hid ((hb.block gy (blk_lt' BY.out) (by omega)).trans BY.out)
              have BE2 : Hid ((wr.drew.setCell ⟨gy + 1, m, none⟩ (.int .i64 (xv + yv))).heap[gy + 1]? = some (.cells (exC (upTo X Y (m + 1))) 54 (0, 0))) := Lib.hid (by
                have h0 := heap_setCell_same wr.drew (gy + 1) m (exC (upTo X Y m)) 54 (.int .i64 (xv + yv)) BE.out
                rwa [exC_set, upTo_set hXl.out hYl.out hm8 hs] at h0)
              clear hxv hyv hs hb BY BE A
              go_wp2
              go_region
              go_wp2
              · have h60 : 60 < xv + yv := by assumption
                go_ret2
                exact ProdPost.bad A2.bel (.inr (A2.steep HS.out h60))
              · have h60 : xv + yv ≤ 60 := by assumption
                have HF2 : Hid (∀ v ∈ (vadd X Y).take (m + 1), v ≤ 60) := Lib.hid fun v hv => by
                  rw [List.take_add_one, HS.out] at hv
                  rcases List.mem_append.1 hv with hv | hv
                  · exact HF.out v hv
                  · simp only [Option.toList_some, List.mem_singleton] at hv
                    omega
                go_roundg (8 - (m + 1))
                case measure => have := HN.out; omega
                case rel => exact ⟨m + 1, by go_num, Lib.hid (by omega), Lib.hid rfl, A2, BY2, BE2, HF2⟩
end Go.Proofs.Ytjnplfbggklkfaa
