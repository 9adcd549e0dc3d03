/- The ring's poly.add: a coefficient is added to a map's entry. -/
import Derived.Test.YtjnplfbggklkfaaMap
import Derived.RegionTactic
import Derived.BigRegion
import Derived.Laws.Rows
import Derived.WalkLawsBesides
import Derived.Outline
import Derived.Lib.Hide
namespace Go.Proofs.Ytjnplfbggklkfaa
open Go.RowKit
set_option linter.unusedVariables false
set_option linter.unusedSimpArgs false

theorem sz54i : (Try.prog.info? 54).map (·.size) = some 8 := by kernel_rfl
theorem load54 {w : World} {g : Nat} {k : List Int} (hk : k.length = 8) (h : w.heap[g]? = some (.cells (exC k) 54 (0, 0))) :
    (loadVar 54 ⟨g, 0, none⟩).run Try.prog w = .ok (.agg (exC k)) w :=
  run_loadVar_row w g 54 54 (exC k) (0, 0) _ h Try.underlying54 rfl (by
    have : (exC k).size = 8 := by simp [exC, hk]
    rw [this]
    exact sz54i)
theorem MapIs.alloc {w : World} {r : Nat} {es : Asc} (h : MapIs w r es) (o : Obj) : MapIs (w.alloc o) r es :=
  ⟨(Below.heap_alloc w o r h.lt).trans h.blk, h.vec, h.nd⟩
theorem MapIs.drew {w : World} {r : Nat} {es : Asc} (h : MapIs w r es) : MapIs w.drew r es := ⟨h.blk, h.vec, h.nd⟩

set_option maxRecDepth 100000 in
set_option maxHeartbeats 4000000 in
theorem add_calls (r : Nat) (es : Asc) (k : List Int) (c : Int) (w : World) (hm : MapIs w r es) (hk : Vec k) (h0 : 0 ≤ getA es k) (h1 : getA es k ≤ 1000000000000000) (h2 : 0 ≤ c) (h3 : c ≤ 1000000000000000) (hl : es.length ≤ 1000000) :
    Calls Try.prog 40 #[.map (some r), .agg (exC k), .int .i64 c] w fun e w' => e = .returned (.bool (decide (getA es k + c ≤ 1000000000000000) && decide ((setA es k (getA es k + c)).length ≤ 200))) ∧ MapIs w' r (setA es k (getA es k + c)) ∧ But r w w' := by
  have hsz : (exC k).size = 8 := by simp [exC, hk.1]
  obtain ⟨W1, hW1⟩ : ∃ W1, W1 = (w.alloc (.cells (exC k) 54)).drew := ⟨_, rfl⟩
  have m1 : MapIs W1 r es := by rw [hW1]; exact (hm.alloc _).drew
  have b1 : W1.heap[w.heap.size]? = some (.cells (exC k) 54 (0, 0)) := by rw [hW1]; exact heap_alloc_new w _
  have hr := m1.lt
  have m2 : MapIs (putMap W1 r (touchA es k)) r (touchA es k) := putMap_is m1.blk _ (touch_ok hk hm.vec hm.nd).1 (touch_ok hk hm.vec hm.nd).2
  have m3 : MapIs (putMap (putMap W1 r (touchA es k)) r (setA es k (getA es k + c))) r (setA es k (getA es k + c)) := putMap_is m2.blk _ (set_ok hk hm.vec hm.nd).1 (set_ok hk hm.vec hm.nd).2
  have b3 : (putMap (putMap W1 r (touchA es k)) r (setA es k (getA es k + c))).heap[w.heap.size]? = some (.cells (exC k) 54 (0, 0)) := by
    have := hm.lt
    rw [putMap_other _ _ (by omega), putMap_other _ _ (by omega)]
    exact b1
  have e1 := load54 hk.1 b1
  have e2 := run_look m1 hk
  have e3 := run_look m2 hk
  rw [touch_get] at e3
  have e4 := run_entry_ m1 hk
  have e5 := run_store_ m2 (getA es k + c)
  have e6 := load54 hk.1 b3
  have e7 := run_look m3 hk
  have e8 := run_len_ m3
  rw [set_get hm.nd, if_pos rfl] at e7
  have hbut : But r w (putMap (putMap W1 r (touchA es k)) r (setA es k (getA es k + c))) := by
    have hb : Below w.heap.size w W1 := by rw [hW1]; exact ((Below.refl _ _).alloc (Nat.le_refl _) _).drew
    exact (But.of_below hb).trans ((putMap_only _ _ _).but.trans (putMap_only _ _ _).but)
  have c3 : ∀ j, (putMap (putMap W1 r (touchA es k)) r (setA es k (getA es k + c))).cell? ⟨w.heap.size, j, none⟩ = (exC k)[j]? := fun j => cell_of_row _ _ j _ _ _ b3
  clear hm m1 m2 b1 b3 hr e1 e6
  have M3 := Lib.hid m3
  have HB := Lib.hid hbut
  clear m3 hbut
  generalize hw2 : putMap W1 r (touchA es k) = W2 at *
  generalize idxA (touchA es k) k = ix at *
  generalize hw3 : putMap W2 r (setA es k (getA es k + c)) = W3 at *
  generalize setA es k (getA es k + c) = t3 at *
  generalize getA es k = n at *
  have HW2 := Lib.hid hw2
  have HW3 := Lib.hid hw3
  clear hw2 hw3
  subst hW1
  obtain ⟨x0, x1, x2, x3, x4, x5, x6, x7, rfl⟩ := len8 k hk.1
  have c0 := c3 0
  have c1 := c3 1
  have c2 := c3 2
  have c4 := c3 4
  have c5 := c3 5
  have c6 := c3 6
  have c7 := c3 7
  replace c3 := c3 3
  clear hsz hk
  simp only [exC, List.map_cons, List.map_nil, List.getElem?_toArray, List.getElem?_cons_zero, List.getElem?_cons_succ] at *
  go_enter Try.func40, Try.ntmps40
  go_wp2
  go_region
  all_goals go_wp2
  all_goals go_ret
  · have hc : n + c ≤ 1000000000000000 := by assumption
    refine ⟨congrArg Ending.returned ?_, M3.out, HB.out⟩
    show Value.bool (decide ((t3.length : Int) ≤ 200)) = _
    rw [decide_eq_true hc, Bool.true_and]
    congr 1
    exact decide_eq_decide.2 (by omega)
  · have hc : ¬ n + c ≤ 1000000000000000 := by omega
    refine ⟨congrArg Ending.returned ?_, M3.out, HB.out⟩
    show Value.bool false = _
    rw [decide_eq_false hc, Bool.false_and]
end Go.Proofs.Ytjnplfbggklkfaa
