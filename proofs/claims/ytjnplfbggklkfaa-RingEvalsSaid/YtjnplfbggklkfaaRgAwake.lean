/- The law's awake: two expressions of the ring that are equal, and found equal. -/
import Derived.Test.YtjnplfbggklkfaaRgMake
import Derived.Test.YtjnplfbggklkfaaRgEqual
import Derived.Deep.RegionHeld3
import Derived.Deep.CutRange
namespace Go.Proofs.Ytjnplfbggklkfaa
open Go.RowKit Go.Proofs.YtjnplfbggklkfaaW.PrintWords Go.Proofs.Ytjnplfbggklkfaa.Rg
set_option linter.unusedVariables false
set_option linter.unusedSimpArgs false

def eV : S24 := ⟨2, 0, []⟩
def e1 : S24 := ⟨1, 1, []⟩
def e2 : S24 := ⟨1, 2, []⟩
def eS : S24 := ⟨3, 0, [eV, e1]⟩
def eL : S24 := ⟨4, 0, [eS, eS]⟩
def eM : S24 := ⟨4, 0, [eV, eV]⟩
def eN : S24 := ⟨4, 0, [e2, eV]⟩
def eT : S24 := ⟨3, 0, [eM, eN]⟩
def eR : S24 := ⟨3, 0, [eT, e1]⟩
theorem C_nil (w : World) : Kd.C k24 w none 0 [] := ⟨rfl, by omega, fun h => absurd h (by omega)⟩
abbrev Z24 : Obj := .cells #[.int .i64 0, .int .i64 0, .slice none 0 0] 24
theorem t2_new {q w' : World} (hb : Below (q.alloc Z24).heap.size (q.alloc Z24) w') : w'.heap[q.heap.size]? = some (.cells #[.int .i64 0, .int .i64 0, .slice none 0 0] 24 (0, 0)) :=
  (hb.block _ (by simp)).trans (heap_alloc_new q Z24)
theorem t2_ne {q w' : World} (g : Nat) (v : Value) (hb : Below (q.alloc Z24).heap.size (q.alloc Z24) w') (h : q.cell? ⟨g, 0, none⟩ = some v) : q.heap.size ≠ g := Nat.ne_of_gt (World.block_lt_of_cell? q _ h)
theorem t2_newd {q w' : World} (hb : Below (q.alloc Z24).drew.heap.size (q.alloc Z24).drew w') : w'.heap[q.heap.size]? = some (.cells #[.int .i64 0, .int .i64 0, .slice none 0 0] 24 (0, 0)) :=
  (hb.block _ (by simp)).trans (heap_alloc_new q Z24)
theorem t2_ned {q w' : World} (g : Nat) (v : Value) (hb : Below (q.alloc Z24).drew.heap.size (q.alloc Z24).drew w') (h : q.cell? ⟨g, 0, none⟩ = some v) : q.heap.size ≠ g := Nat.ne_of_gt (World.block_lt_of_cell? q _ h)
theorem put3_cell {w : World} {g : Nat} {a : Addr} {v : Value} (x y z : Value) (hne : g ≠ a.block) (h : w.cell? a = some v) :
    (((w.setCell ⟨g, 0, none⟩ x).setCell ⟨g, 1, none⟩ y).setCell ⟨g, 2, none⟩ z).cell? a = some v := by
  rw [World.cell?_setCell_far _ _ _ _ hne, World.cell?_setCell_far _ _ _ _ hne, World.cell?_setCell_far _ _ _ _ hne]
  exact h
theorem t2_old {p w' : World} {g : Nat} {o : Obj} (hb : Below p.heap.size p w') (h : p.heap[g]? = some o) : w'.heap[g]? = some o := (hb.block _ (Array.getElem?_eq_some_iff.1 h).1).trans h
theorem C_alloc {w : World} {A : Option Addr} {n : Nat} {xs : List S24} (o : Obj) (h : Kd.C k24 w A n xs) : Kd.C k24 (w.alloc o) A n xs := Kd.C_below h ((Below.refl _ _).alloc (Nat.le_refl _) _)
theorem cell_alloc {w : World} {a : Addr} {v : Value} (o : Obj) (h : w.cell? a = some v) : (w.alloc o).cell? a = some v := cellB ((Below.refl _ _).alloc (Nat.le_refl _) o) h
theorem cell_drew {w : World} {a : Addr} {v : Value} (h : w.cell? a = some v) : w.drew.cell? a = some v := h
theorem C_drew {w : World} {A : Option Addr} {n : Nat} {xs : List S24} (h : Kd.C k24 w A n xs) : Kd.C k24 w.drew A n xs := Kd.C_below h (Below.refl w.heap.size w).drew
theorem below_alloc_ {a w : World} (o : Obj) (h : Below a.heap.size a w) : Below a.heap.size a (w.alloc o) := h.alloc h.size o
/-! ### The makers' calls -/
theorem addV1 (w : World) : Calls Try.prog 10 #[.agg #[.int .i64 2, .int .i64 0, .slice none 0 0], .agg #[.int .i64 1, .int .i64 1, .slice none 0 0]] w fun e w' => ∃ D, e = .returned (.agg #[.int .i64 3, .int .i64 0, .slice D 2 2]) ∧ Lays w.heap.size w' D none eV none e1 ∧ Below w.heap.size w w' :=
  add10 eV e1 none 0 none 0 w (Nat.le_refl _) (Nat.le_refl _)
theorem mulSS (w : World) (B : Option Addr) (B' : Option Addr) : Calls Try.prog 11 #[.agg #[.int .i64 3, .int .i64 0, .slice B 2 2], .agg #[.int .i64 3, .int .i64 0, .slice B' 2 2]] w fun e w' => ∃ D, e = .returned (.agg #[.int .i64 4, .int .i64 0, .slice D 2 2]) ∧ Lays w.heap.size w' D B eS B' eS ∧ Below w.heap.size w w' :=
  mul11 eS eS B 2 B' 2 w (Nat.le_refl _) (Nat.le_refl _)
theorem mulVV (w : World) : Calls Try.prog 11 #[.agg #[.int .i64 2, .int .i64 0, .slice none 0 0], .agg #[.int .i64 2, .int .i64 0, .slice none 0 0]] w fun e w' => ∃ D, e = .returned (.agg #[.int .i64 4, .int .i64 0, .slice D 2 2]) ∧ Lays w.heap.size w' D none eV none eV ∧ Below w.heap.size w w' :=
  mul11 eV eV none 0 none 0 w (Nat.le_refl _) (Nat.le_refl _)
theorem mul2V (w : World) : Calls Try.prog 11 #[.agg #[.int .i64 1, .int .i64 2, .slice none 0 0], .agg #[.int .i64 2, .int .i64 0, .slice none 0 0]] w fun e w' => ∃ D, e = .returned (.agg #[.int .i64 4, .int .i64 0, .slice D 2 2]) ∧ Lays w.heap.size w' D none e2 none eV ∧ Below w.heap.size w w' :=
  mul11 e2 eV none 0 none 0 w (Nat.le_refl _) (Nat.le_refl _)
theorem addMN (w : World) (B : Option Addr) (B' : Option Addr) : Calls Try.prog 10 #[.agg #[.int .i64 4, .int .i64 0, .slice B 2 2], .agg #[.int .i64 4, .int .i64 0, .slice B' 2 2]] w fun e w' => ∃ D, e = .returned (.agg #[.int .i64 3, .int .i64 0, .slice D 2 2]) ∧ Lays w.heap.size w' D B eM B' eN ∧ Below w.heap.size w w' :=
  add10 eM eN B 2 B' 2 w (Nat.le_refl _) (Nat.le_refl _)
theorem addT1 (w : World) (B : Option Addr) : Calls Try.prog 10 #[.agg #[.int .i64 3, .int .i64 0, .slice B 2 2], .agg #[.int .i64 1, .int .i64 1, .slice none 0 0]] w fun e w' => ∃ D, e = .returned (.agg #[.int .i64 3, .int .i64 0, .slice D 2 2]) ∧ Lays w.heap.size w' D B eT none e1 ∧ Below w.heap.size w w' :=
  add10 eT e1 B 2 none 0 w (Nat.le_refl _) (Nat.le_refl _)
theorem Lays.go {p : Nat} {w' w6 : World} {D A A' : Option Addr} {x y : S24} (h : Lays p w' D A x A' y) (hx : Kd.C k24 w6 A x.f2.length x.f2) (hy : Kd.C k24 w6 A' y.f2.length y.f2) (hk : Agree p w' w6) : Kd.C k24 w6 D 2 [x, y] := h w6 hx hy hk
theorem Lays.go' {p n : Nat} {xs : List S24} {w' w6 : World} {D A A' : Option Addr} {x y : S24} (h : Lays p w' D A x A' y) (hn : n = 2) (hx' : xs = [x, y]) (hx : Kd.C k24 w6 A x.f2.length x.f2) (hy : Kd.C k24 w6 A' y.f2.length y.f2) (hk : Agree p w' w6) : Kd.C k24 w6 D n xs := by
  subst hn hx'
  exact h w6 hx hy hk
theorem Agree.below {p : Nat} {w' w6 : World} (h : Below w'.heap.size w' w6) : Agree p w' w6 := fun k _ hk => h.block k hk
theorem Agree.put3 {p : Nat} {w' w6 : World} (h : Below w'.heap.size w' w6) (g : Nat) (x y z : Value) (hg : g < p ∨ w'.heap.size ≤ g) : Agree p w' (((w6.setCell ⟨g, 0, none⟩ x).setCell ⟨g, 1, none⟩ y).setCell ⟨g, 2, none⟩ z) := fun k h1 h2 =>
  (put3_but w6 g x y z k (by omega)).trans (h.block k h2)
theorem below_put3 {a w6 : World} (h : Below a.heap.size a w6) (g : Nat) (x y z : Value) (hg : a.heap.size ≤ g) : Below a.heap.size a (((w6.setCell ⟨g, 0, none⟩ x).setCell ⟨g, 1, none⟩ y).setCell ⟨g, 2, none⟩ z) :=
  ((h.setCell (p := ⟨g, 0, none⟩) hg x).setCell (p := ⟨g, 1, none⟩) hg y).setCell (p := ⟨g, 2, none⟩) hg z
theorem below_drew_ {a w : World} (h : Below a.heap.size a w) : Below a.heap.size a w.drew := h.drew
theorem row_below {w w' : World} {g : Nat} {o : Obj} (h : w.heap[g]? = some o) (hb : Below w.heap.size w w') : w'.heap[g]? = some o := t2_old hb h
theorem size_drew (w : World) : w.drew.heap.size = w.heap.size := rfl
theorem row_alloc {w : World} {g : Nat} {r : Obj} (o : Obj) (h : w.heap[g]? = some r) : (w.alloc o).heap[g]? = some r := t2_old ((Below.refl _ _).alloc (Nat.le_refl _) o) h
theorem row_put3 {w : World} {k : Nat} {r : Obj} (g : Nat) (x y z : Value) (hk : k ≠ g) (h : w.heap[k]? = some r) : (((w.setCell ⟨g, 0, none⟩ x).setCell ⟨g, 1, none⟩ y).setCell ⟨g, 2, none⟩ z).heap[k]? = some r := (put3_but w g x y z k hk).trans h
theorem row_drew {w : World} {g : Nat} {r : Obj} (h : w.heap[g]? = some r) : w.drew.heap[g]? = some r := h
/-- What stands when the left expression is laid down. -/
structure AwA (w : World) (g1 g2 : Nat) (B : Option Addr) (wx : World) : Prop where
  b : Below w.heap.size w wx
  r1 : wx.heap[g1]? = some (.cells #[.int .i64 2, .int .i64 0, .slice none 0 0] 24 (0, 0))
  r2 : wx.heap[g2]? = some (.cells #[.int .i64 4, .int .i64 0, .slice B 2 2] 24 (0, 0))
  c : Kd.C k24 wx B 2 [eS, eS]
theorem AwA.new {w w4 : World} {g1 : Nat} {B : Option Addr} (h : Below w.heap.size w w4) (r1 : w4.heap[g1]? = some (.cells #[.int .i64 2, .int .i64 0, .slice none 0 0] 24 (0, 0)))
    (c : Kd.C k24 (w4.alloc (.cells #[.int .i64 4, .int .i64 0, .slice B 2 2] 24)) B 2 [eS, eS]) :
    ∃ g2 B', Value.pointer (some ⟨w4.heap.size, 0, none⟩) = .pointer (some ⟨g2, 0, none⟩) ∧ Hid (AwA w g1 g2 B' (w4.alloc (.cells #[.int .i64 4, .int .i64 0, .slice B 2 2] 24))) :=
  ⟨_, B, rfl, Lib.hid ⟨below_alloc_ _ h, row_alloc _ r1, heap_alloc_new _ _, c⟩⟩
theorem AwA.put {w w4 : World} {g1 g : Nat} {B : Option Addr} (h : Below w.heap.size w w4) (r1 : w4.heap[g1]? = some (.cells #[.int .i64 2, .int .i64 0, .slice none 0 0] 24 (0, 0))) (bk : w4.heap[g]? = some (.cells #[.int .i64 0, .int .i64 0, .slice none 0 0] 24 (0, 0)))
    (hne : g ≠ g1) (hg : w.heap.size ≤ g) (c : Kd.C k24 (((w4.setCell ⟨g, 0, none⟩ (.int .i64 4)).setCell ⟨g, 1, none⟩ (.int .i64 0)).setCell ⟨g, 2, none⟩ (.slice B 2 2)) B 2 [eS, eS]) :
    ∃ g2 B', Value.pointer (some ⟨g, 0, none⟩) = .pointer (some ⟨g2, 0, none⟩) ∧ Hid (AwA w g1 g2 B' (((w4.setCell ⟨g, 0, none⟩ (.int .i64 4)).setCell ⟨g, 1, none⟩ (.int .i64 0)).setCell ⟨g, 2, none⟩ (.slice B 2 2))) :=
  ⟨_, B, rfl, Lib.hid ⟨below_put3 h _ _ _ _ hg, row_put3 _ _ _ _ (fun e => hne e.symm) r1, put3 bk _ _ _, c⟩⟩
/-- What stands when both are laid down. -/
structure AwB (w : World) (g2 g3 : Nat) (B D : Option Addr) (wx : World) : Prop where
  b : Below w.heap.size w wx
  r2 : wx.heap[g2]? = some (.cells #[.int .i64 4, .int .i64 0, .slice B 2 2] 24 (0, 0))
  r3 : wx.heap[g3]? = some (.cells #[.int .i64 3, .int .i64 0, .slice D 2 2] 24 (0, 0))
  c : Kd.C k24 wx B 2 [eS, eS]
  d : Kd.C k24 wx D 2 [eT, e1]
theorem AwB.new {w wc w4 : World} {g1 g2 : Nat} {B D : Option Addr} (H : Hid (AwA w g1 g2 B wc)) (h : Below wc.heap.size wc w4)
    (c : Kd.C k24 (w4.alloc (.cells #[.int .i64 3, .int .i64 0, .slice D 2 2] 24)) D 2 [eT, e1]) :
    ∃ g3 D', Value.pointer (some ⟨w4.heap.size, 0, none⟩) = .pointer (some ⟨g3, 0, none⟩) ∧ Hid (AwB w g2 g3 B D' (w4.alloc (.cells #[.int .i64 3, .int .i64 0, .slice D 2 2] 24))) :=
  ⟨_, D, rfl, Lib.hid ⟨below_alloc_ _ (below_then' H.out.b h), row_alloc _ (t2_old h H.out.r2), heap_alloc_new _ _, Kd.C_below H.out.c (below_alloc_ _ h), c⟩⟩
theorem AwB.put {w wc w4 : World} {g1 g2 g : Nat} {B D : Option Addr} (H : Hid (AwA w g1 g2 B wc)) (h : Below wc.heap.size wc w4) (bk : w4.heap[g]? = some (.cells #[.int .i64 0, .int .i64 0, .slice none 0 0] 24 (0, 0)))
    (hg : wc.heap.size ≤ g) (c : Kd.C k24 (((w4.setCell ⟨g, 0, none⟩ (.int .i64 3)).setCell ⟨g, 1, none⟩ (.int .i64 0)).setCell ⟨g, 2, none⟩ (.slice D 2 2)) D 2 [eT, e1]) :
    ∃ g3 D', Value.pointer (some ⟨g, 0, none⟩) = .pointer (some ⟨g3, 0, none⟩) ∧ Hid (AwB w g2 g3 B D' (((w4.setCell ⟨g, 0, none⟩ (.int .i64 3)).setCell ⟨g, 1, none⟩ (.int .i64 0)).setCell ⟨g, 2, none⟩ (.slice D 2 2))) :=
  have h2 := below_put3 h g (.int .i64 3) (.int .i64 0) (.slice D 2 2) hg
  ⟨_, D, rfl, Lib.hid ⟨below_then' H.out.b h2, t2_old h2 H.out.r2, put3 bk _ _ _, Kd.C_below H.out.c h2, c⟩⟩
theorem validL : ring_Valid.f 40 eL.f0 eL.f1 eL.f2 = some true := by kernel_rfl
theorem validR : ring_Valid.f 40 eR.f0 eR.f1 eR.f2 = some true := by kernel_rfl
theorem verdictLR : verdict eL eR = (true, 0) := by kernel_rfl
theorem equalLR (w : World) (B D : Option Addr) (hb : Kd.C k24 w B 2 [eS, eS]) (hd : Kd.C k24 w D 2 [eT, e1]) :
    Calls Try.prog 8 #[.agg #[.int .i64 4, .int .i64 0, .slice B 2 2], .agg #[.int .i64 3, .int .i64 0, .slice D 2 2]] w fun e w' => e = .returned (.tuple #[.bool true, .int .i64 0]) ∧ Below w.heap.size w w' := by
  have h := equal_good 40 eL eR B 2 D 2 w hb hd (Nat.le_refl _) (Nat.le_refl _) validL validR
  rw [verdictLR] at h
  exact h
set_option maxHeartbeats 16000000 in
set_option maxRecDepth 100000 in
theorem awake_calls (w : World) : Calls Try.prog 7 #[] w fun e w' => e = .returned (.bool true) ∧ Below w.heap.size w w' := by
  have hu24 := Try.underlying24
  go_enter Try.func7, Try.ntmps7
  go_upto_region 2 with (go_at_call 15; refine (var15 _ _).mono ?_; rintro e w2 ⟨rfl, hb2⟩)
  have c0 : (w2.alloc (.cells #[.int .i64 2, .int .i64 0, .slice none 0 0] 24)).cell? ⟨w2.heap.size, 0, none⟩ = some (.int .i64 2) := cell_of_row _ _ 0 _ _ _ (heap_alloc_new w2 _)
  have c1 : (w2.alloc (.cells #[.int .i64 2, .int .i64 0, .slice none 0 0] 24)).cell? ⟨w2.heap.size, 1, none⟩ = some (.int .i64 0) := cell_of_row _ _ 1 _ _ _ (heap_alloc_new w2 _)
  have c2 : (w2.alloc (.cells #[.int .i64 2, .int .i64 0, .slice none 0 0] 24)).cell? ⟨w2.heap.size, 2, none⟩ = some (.slice none 0 0) := cell_of_row _ _ 2 _ _ _ (heap_alloc_new w2 _)
  have r3 := Lib.hid (heap_alloc_new w2 (.cells #[.int .i64 2, .int .i64 0, .slice none 0 0] 24))
  have z2 := hb2.size
  have z3 : w2.heap.size + 1 ≤ (w2.alloc (.cells #[.int .i64 2, .int .i64 0, .slice none 0 0] 24)).heap.size := by simp
  have hb3 := below_alloc_ (.cells #[.int .i64 2, .int .i64 0, .slice none 0 0] 24) hb2
  generalize hw3 : w2.alloc (.cells #[.int .i64 2, .int .i64 0, .slice none 0 0] 24) = w3 at *
  go_cut [2] from 6 to 33 (fun v2 wx => ∃ g2 B, v2 = .pointer (some ⟨g2, 0, none⟩) ∧ Hid (AwA w w2.heap.size g2 B wx))
  case first =>
    go_region_held3 (fun w' => w'.cell? ⟨w2.heap.size, 0, none⟩ = some (.int .i64 2) ∧ w'.cell? ⟨w2.heap.size, 1, none⟩ = some (.int .i64 0) ∧ w'.cell? ⟨w2.heap.size, 2, none⟩ = some (.slice none 0 0)) (((try dsimp only); refine ⟨?_, ?_, ?_⟩ <;> (first | ((repeat (first | with_reducible assumption | with_reducible (refine cell_drew ?_) | with_reducible (refine cell_alloc _ ?_) | with_reducible (refine cellB (by assumption) ?_))); done) | (with_reducible (refine put3_cell _ _ _ (ne ?_) ?_) <;> (repeat (first | with_reducible assumption | with_reducible (refine cell_drew ?_) | with_reducible (refine cell_alloc _ ?_) | with_reducible (refine cellB (by assumption) ?_))); done))))
      (first
        | (go_at_call 16; refine (num16 _ _).mono ?_; rintro e w4 ⟨rfl, hb4⟩; have z4 := hb4.size; (try simp only [size_alloc', size_drew] at z4); (first | (with_reducible have bk := t2_newd hb4; have ne := t2_ned (w2.heap.size) (.int .i64 2) hb4; have q0 := cell_of_row _ _ 0 _ _ _ bk; have q1 := cell_of_row _ _ 1 _ _ _ bk; have q2 := cell_of_row _ _ 2 _ _ _ bk; have f0 := frozen_of_row _ _ 0 _ _ bk; have f1 := frozen_of_row _ _ 1 _ _ bk; have f2 := frozen_of_row _ _ 2 _ _ bk) | (with_reducible have bk := t2_new hb4; have ne := t2_ne (w2.heap.size) (.int .i64 2) hb4; have q0 := cell_of_row _ _ 0 _ _ _ bk; have q1 := cell_of_row _ _ 1 _ _ _ bk; have q2 := cell_of_row _ _ 2 _ _ _ bk; have f0 := frozen_of_row _ _ 0 _ _ bk; have f1 := frozen_of_row _ _ 1 _ _ bk; have f2 := frozen_of_row _ _ 2 _ _ bk) | (with_reducible have bk := t2_old hb4 bk; have q0 := cell_of_row _ _ 0 _ _ _ bk; have q1 := cell_of_row _ _ 1 _ _ _ bk; have q2 := cell_of_row _ _ 2 _ _ _ bk; have f0 := frozen_of_row _ _ 0 _ _ bk; have f1 := frozen_of_row _ _ 1 _ _ bk; have f2 := frozen_of_row _ _ 2 _ _ bk) | skip))
        | (go_at_call 10; refine (addV1 _).mono ?_; rintro e w4 ⟨B, rfl, hc4, hb4⟩; have z4 := hb4.size; (try simp only [size_alloc', size_drew] at z4); (first | (with_reducible have bk := t2_newd hb4; have ne := t2_ned (w2.heap.size) (.int .i64 2) hb4; have q0 := cell_of_row _ _ 0 _ _ _ bk; have q1 := cell_of_row _ _ 1 _ _ _ bk; have q2 := cell_of_row _ _ 2 _ _ _ bk; have f0 := frozen_of_row _ _ 0 _ _ bk; have f1 := frozen_of_row _ _ 1 _ _ bk; have f2 := frozen_of_row _ _ 2 _ _ bk) | (with_reducible have bk := t2_new hb4; have ne := t2_ne (w2.heap.size) (.int .i64 2) hb4; have q0 := cell_of_row _ _ 0 _ _ _ bk; have q1 := cell_of_row _ _ 1 _ _ _ bk; have q2 := cell_of_row _ _ 2 _ _ _ bk; have f0 := frozen_of_row _ _ 0 _ _ bk; have f1 := frozen_of_row _ _ 1 _ _ bk; have f2 := frozen_of_row _ _ 2 _ _ bk) | (with_reducible have bk := t2_old hb4 bk; have q0 := cell_of_row _ _ 0 _ _ _ bk; have q1 := cell_of_row _ _ 1 _ _ _ bk; have q2 := cell_of_row _ _ 2 _ _ _ bk; have f0 := frozen_of_row _ _ 0 _ _ bk; have f1 := frozen_of_row _ _ 1 _ _ bk; have f2 := frozen_of_row _ _ 2 _ _ bk) | skip))
        | (go_at_call 11; refine (mulSS _ _ _).mono ?_; rintro e w4 ⟨B, rfl, hc4, hb4⟩; have z4 := hb4.size; (try simp only [size_alloc', size_drew] at z4); (first | (with_reducible have bk := t2_newd hb4; have ne := t2_ned (w2.heap.size) (.int .i64 2) hb4; have q0 := cell_of_row _ _ 0 _ _ _ bk; have q1 := cell_of_row _ _ 1 _ _ _ bk; have q2 := cell_of_row _ _ 2 _ _ _ bk; have f0 := frozen_of_row _ _ 0 _ _ bk; have f1 := frozen_of_row _ _ 1 _ _ bk; have f2 := frozen_of_row _ _ 2 _ _ bk) | (with_reducible have bk := t2_new hb4; have ne := t2_ne (w2.heap.size) (.int .i64 2) hb4; have q0 := cell_of_row _ _ 0 _ _ _ bk; have q1 := cell_of_row _ _ 1 _ _ _ bk; have q2 := cell_of_row _ _ 2 _ _ _ bk; have f0 := frozen_of_row _ _ 0 _ _ bk; have f1 := frozen_of_row _ _ 1 _ _ bk; have f2 := frozen_of_row _ _ 2 _ _ bk) | (with_reducible have bk := t2_old hb4 bk; have q0 := cell_of_row _ _ 0 _ _ _ bk; have q1 := cell_of_row _ _ 1 _ _ _ bk; have q2 := cell_of_row _ _ 2 _ _ _ bk; have f0 := frozen_of_row _ _ 0 _ _ bk; have f1 := frozen_of_row _ _ 1 _ _ bk; have f2 := frozen_of_row _ _ 2 _ _ bk) | skip)))
    all_goals
      go_wp2_with fail
      go_meet
    all_goals have r3 := r3.out
    all_goals first
      | (with_reducible refine AwA.new ?_ ?_ ?_)
      | (with_reducible refine AwA.put ?_ ?_ (by assumption) ?_ ?_ ?_)
    all_goals first
      | ((repeat (first | with_reducible exact Below.refl _ _ | with_reducible assumption | with_reducible (refine below_drew_ ?_) | with_reducible (refine below_alloc_ _ ?_) | with_reducible (refine below_then' ?_ (by assumption)))); done)
      | ((repeat (first | with_reducible assumption | with_reducible (refine row_drew ?_) | with_reducible (refine row_alloc _ ?_) | with_reducible (refine row_below ?_ (by assumption)))); done)
      | omega
      | ((repeat' (first | exact C_nil _ | (refine Lays.go' (by assumption) rfl rfl ?_ ?_ ?_))); all_goals (first | ((with_reducible refine Agree.put3 ?_ _ _ _ _ ?_); (focus ((repeat (first | with_reducible exact Below.refl _ _ | with_reducible assumption | with_reducible (refine below_drew_ ?_) | with_reducible (refine below_alloc_ _ ?_) | with_reducible (refine below_then' ?_ (by assumption)))); done)); (try simp only [size_alloc', size_drew]); omega) | (refine Agree.below ?_; (repeat (first | with_reducible exact Below.refl _ _ | with_reducible assumption | with_reducible (refine below_drew_ ?_) | with_reducible (refine below_alloc_ _ ?_) | with_reducible (refine below_then' ?_ (by assumption)))); done)))
  case rest =>
    obtain ⟨g2, B, rfl, H⟩ := hcut
    clear c0 c1 c2 hb3 r3 z3
    obtain ⟨g1, hg1⟩ : ∃ g, g = w2.heap.size := ⟨_, rfl⟩
    simp only [← hg1] at *
    clear z2 hb2 hw3 hg1
    have c0 : wc.cell? ⟨g1, 0, none⟩ = some (.int .i64 2) := cell_of_row _ _ 0 _ _ _ H.out.r1
    have c1 : wc.cell? ⟨g1, 1, none⟩ = some (.int .i64 0) := cell_of_row _ _ 1 _ _ _ H.out.r1
    have c2 : wc.cell? ⟨g1, 2, none⟩ = some (.slice none 0 0) := cell_of_row _ _ 2 _ _ _ H.out.r1
    go_upto_region 3 with fail
    go_cut [3] from 6 to 33 (fun v3 wx => ∃ g3 D, v3 = .pointer (some ⟨g3, 0, none⟩) ∧ Hid (AwB w g2 g3 B D wx))
    case first =>
      go_region_held3 (fun w' => w'.cell? ⟨g1, 0, none⟩ = some (.int .i64 2) ∧ w'.cell? ⟨g1, 1, none⟩ = some (.int .i64 0) ∧ w'.cell? ⟨g1, 2, none⟩ = some (.slice none 0 0)) (((try dsimp only); refine ⟨?_, ?_, ?_⟩ <;> (first | ((repeat (first | with_reducible assumption | with_reducible (refine cell_drew ?_) | with_reducible (refine cell_alloc _ ?_) | with_reducible (refine cellB (by assumption) ?_))); done) | (with_reducible (refine put3_cell _ _ _ (ne ?_) ?_) <;> (repeat (first | with_reducible assumption | with_reducible (refine cell_drew ?_) | with_reducible (refine cell_alloc _ ?_) | with_reducible (refine cellB (by assumption) ?_))); done))))
        (first
          | (go_at_call 16; refine (num16 _ _).mono ?_; rintro e w4 ⟨rfl, hb4⟩; have z4 := hb4.size; (try simp only [size_alloc', size_drew] at z4); (first | (with_reducible have bk := t2_newd hb4; have ne := t2_ned (g1) (.int .i64 2) hb4; have q0 := cell_of_row _ _ 0 _ _ _ bk; have q1 := cell_of_row _ _ 1 _ _ _ bk; have q2 := cell_of_row _ _ 2 _ _ _ bk; have f0 := frozen_of_row _ _ 0 _ _ bk; have f1 := frozen_of_row _ _ 1 _ _ bk; have f2 := frozen_of_row _ _ 2 _ _ bk) | (with_reducible have bk := t2_new hb4; have ne := t2_ne (g1) (.int .i64 2) hb4; have q0 := cell_of_row _ _ 0 _ _ _ bk; have q1 := cell_of_row _ _ 1 _ _ _ bk; have q2 := cell_of_row _ _ 2 _ _ _ bk; have f0 := frozen_of_row _ _ 0 _ _ bk; have f1 := frozen_of_row _ _ 1 _ _ bk; have f2 := frozen_of_row _ _ 2 _ _ bk) | (with_reducible have bk := t2_old hb4 bk; have q0 := cell_of_row _ _ 0 _ _ _ bk; have q1 := cell_of_row _ _ 1 _ _ _ bk; have q2 := cell_of_row _ _ 2 _ _ _ bk; have f0 := frozen_of_row _ _ 0 _ _ bk; have f1 := frozen_of_row _ _ 1 _ _ bk; have f2 := frozen_of_row _ _ 2 _ _ bk) | skip))
          | (go_at_call 11; (first | with_reducible refine (mulVV _).mono ?_ | with_reducible refine (mul2V _).mono ?_); rintro e w4 ⟨B, rfl, hc4, hb4⟩; have z4 := hb4.size; (try simp only [size_alloc', size_drew] at z4); (first | (with_reducible have bk := t2_newd hb4; have ne := t2_ned (g1) (.int .i64 2) hb4; have q0 := cell_of_row _ _ 0 _ _ _ bk; have q1 := cell_of_row _ _ 1 _ _ _ bk; have q2 := cell_of_row _ _ 2 _ _ _ bk; have f0 := frozen_of_row _ _ 0 _ _ bk; have f1 := frozen_of_row _ _ 1 _ _ bk; have f2 := frozen_of_row _ _ 2 _ _ bk) | (with_reducible have bk := t2_new hb4; have ne := t2_ne (g1) (.int .i64 2) hb4; have q0 := cell_of_row _ _ 0 _ _ _ bk; have q1 := cell_of_row _ _ 1 _ _ _ bk; have q2 := cell_of_row _ _ 2 _ _ _ bk; have f0 := frozen_of_row _ _ 0 _ _ bk; have f1 := frozen_of_row _ _ 1 _ _ bk; have f2 := frozen_of_row _ _ 2 _ _ bk) | (with_reducible have bk := t2_old hb4 bk; have q0 := cell_of_row _ _ 0 _ _ _ bk; have q1 := cell_of_row _ _ 1 _ _ _ bk; have q2 := cell_of_row _ _ 2 _ _ _ bk; have f0 := frozen_of_row _ _ 0 _ _ bk; have f1 := frozen_of_row _ _ 1 _ _ bk; have f2 := frozen_of_row _ _ 2 _ _ bk) | skip))
          | (go_at_call 10; (first | with_reducible refine (addMN _ _ _).mono ?_ | with_reducible refine (addT1 _ _).mono ?_); rintro e w4 ⟨B, rfl, hc4, hb4⟩; have z4 := hb4.size; (try simp only [size_alloc', size_drew] at z4); (first | (with_reducible have bk := t2_newd hb4; have ne := t2_ned (g1) (.int .i64 2) hb4; have q0 := cell_of_row _ _ 0 _ _ _ bk; have q1 := cell_of_row _ _ 1 _ _ _ bk; have q2 := cell_of_row _ _ 2 _ _ _ bk; have f0 := frozen_of_row _ _ 0 _ _ bk; have f1 := frozen_of_row _ _ 1 _ _ bk; have f2 := frozen_of_row _ _ 2 _ _ bk) | (with_reducible have bk := t2_new hb4; have ne := t2_ne (g1) (.int .i64 2) hb4; have q0 := cell_of_row _ _ 0 _ _ _ bk; have q1 := cell_of_row _ _ 1 _ _ _ bk; have q2 := cell_of_row _ _ 2 _ _ _ bk; have f0 := frozen_of_row _ _ 0 _ _ bk; have f1 := frozen_of_row _ _ 1 _ _ bk; have f2 := frozen_of_row _ _ 2 _ _ bk) | (with_reducible have bk := t2_old hb4 bk; have q0 := cell_of_row _ _ 0 _ _ _ bk; have q1 := cell_of_row _ _ 1 _ _ _ bk; have q2 := cell_of_row _ _ 2 _ _ _ bk; have f0 := frozen_of_row _ _ 0 _ _ bk; have f1 := frozen_of_row _ _ 1 _ _ bk; have f2 := frozen_of_row _ _ 2 _ _ bk) | skip)))
      all_goals
        go_wp2_with fail
        go_meet
      all_goals first
        | (with_reducible refine AwB.new H ?_ ?_)
        | (with_reducible refine AwB.put H ?_ (by assumption) ?_ ?_)
      all_goals first
        | ((repeat (first | with_reducible exact Below.refl _ _ | with_reducible assumption | with_reducible (refine below_drew_ ?_) | with_reducible (refine below_alloc_ _ ?_) | with_reducible (refine below_then' ?_ (by assumption)))); done)
        | omega
        | ((repeat' (first | exact C_nil _ | (refine Lays.go' (by assumption) rfl rfl ?_ ?_ ?_))); all_goals (first | ((with_reducible refine Agree.put3 ?_ _ _ _ _ ?_); (focus ((repeat (first | with_reducible exact Below.refl _ _ | with_reducible assumption | with_reducible (refine below_drew_ ?_) | with_reducible (refine below_alloc_ _ ?_) | with_reducible (refine below_then' ?_ (by assumption)))); done)); (try simp only [size_alloc', size_drew]); omega) | (refine Agree.below ?_; (repeat (first | with_reducible exact Below.refl _ _ | with_reducible assumption | with_reducible (refine below_drew_ ?_) | with_reducible (refine below_alloc_ _ ?_) | with_reducible (refine below_then' ?_ (by assumption)))); done)))
    case rest =>
      obtain ⟨g3, D, rfl, H3⟩ := hcut
      clear c0 c1 c2 H
      have a0 := cell_of_row _ _ 0 _ _ _ H3.out.r2
      have a1 := cell_of_row _ _ 1 _ _ _ H3.out.r2
      have a2 := cell_of_row _ _ 2 _ _ _ H3.out.r2
      have b0 := cell_of_row _ _ 0 _ _ _ H3.out.r3
      have b1 := cell_of_row _ _ 1 _ _ _ H3.out.r3
      have b2 := cell_of_row _ _ 2 _ _ _ H3.out.r3
      have HE := Lib.hid fun w5 => equalLR w5 B D
      go_wp2_with (go_at_call 8; refine (HE.out _ H3.out.c H3.out.d).mono ?_; rintro e w4 ⟨rfl, hb4⟩)
      go_ret
      exact ⟨rfl, below_then' H3.out.b hb4⟩
namespace Rg
def tenetlaw24_awake.f : Option Bool := some true
theorem tenetlaw24_awake.calls (r : Bool) (w : World) (h : tenetlaw24_awake.f = some r) : Calls Try.prog 7 #[] w fun e w' => e = .returned (.bool r) ∧ Below w.heap.size w w' := by
  obtain rfl := Option.some.inj h
  exact awake_calls w
end Rg
end Go.Proofs.Ytjnplfbggklkfaa
