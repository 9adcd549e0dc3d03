/- The map of the graphs that were seen. -/
import Derived.Test.YtdinmdjdkhlgcaaBadOf
namespace Go.Proofs.Ytdinmdjdkhlgcaa
open Go.RowKit
set_option linter.unusedVariables false
set_option linter.unusedSimpArgs false

def seenOf (p : Gr × Nat) : MapEntry := { key := gV p.1, val := .bool true, born := p.2 }
/-- The entries of the map when these graphs were put in, in this order. -/
def seenE (l : List Gr) : Array MapEntry := (l.zipIdx.map seenOf).toArray
theorem seenE_keys {l : List Gr} (h : ∀ g ∈ l, g.Ok) : ∀ e ∈ (seenE l).toList, ∃ r, keyOf Try.prog 78 e.key = some r := by
  intro e he
  rw [seenE, List.toList_toArray, List.mem_map] at he
  obtain ⟨q, hq, rfl⟩ := he
  exact key78 _ (h _ (List.fst_mem_of_mem_zipIdx hq))
theorem seenE_push (l : List Gr) (g : Gr) : (seenE l).push { key := gV g, val := .bool true, born := l.length } = seenE (l ++ [g]) := by
  simp [seenE, List.zipIdx_append, seenOf]
theorem run_find112 {l : List Gr} (h : ∀ g ∈ l, g.Ok) {g : Gr} (ok : g.Ok) (w : World) :
    (g ∉ l ∧ (Instr.findKey 78 (gV g) (seenE l).toList).run Try.prog w = .ok none w) ∨ (g ∈ l ∧ ∃ j, (Instr.findKey 78 (gV g) (seenE l).toList).run Try.prog w = .ok (some (j, .bool true)) w) := by
  obtain ⟨r, hr⟩ := key78 g ok
  rcases law78.find w hr (seenE l).toList (seenE_keys h) with ⟨h1, h2⟩ | ⟨j, e, h1, h2, h3⟩
  · refine .inl ⟨fun hg => ?_, h1⟩
    obtain ⟨i, hi⟩ := List.getElem?_of_mem hg
    refine h2 (seenOf (g, i)) ?_ rfl
    rw [seenE, List.toList_toArray, List.mem_map]
    exact ⟨(g, i), List.mem_of_getElem? (i := i) (by rw [List.getElem?_zipIdx, hi]; simp), rfl⟩
  · refine .inr ?_
    rw [seenE, List.toList_toArray, List.getElem?_map] at h2
    obtain ⟨p, hp, rfl⟩ := Option.map_eq_some_iff.1 h2
    have hg : p.1 = g := gV_inj h3
    refine ⟨?_, j, h1⟩
    rw [← hg]
    exact List.fst_mem_of_mem_zipIdx (List.mem_of_getElem? hp)
theorem zero4 (w : World) : (zeroValue 4).run Try.prog w = .ok (.bool false) w := by kernel_rfl
theorem run_look112 {w : World} {mb : Nat} {l : List Gr} (hm : w.heap[mb]? = some (.map (seenE l) l.length)) (h : ∀ g ∈ l, g.Ok) {g : Gr} (ok : g.Ok) :
    (Instr.lookup 112 (.map (some mb)) (gV g) false).run Try.prog w = .ok (.bool (decide (g ∈ l))) w := by
  obtain ⟨r, hr⟩ := key78 g ok
  have hc := law78.check w (seenE l).isEmpty hr
  have hg : (getObj mb).run Try.prog w = .ok (.map (seenE l) l.length) w := by simp [getObj, Sem.run, hm]
  simp only [Instr.lookup, Sem.run_bind, run_underlying Try.underlying112, Result.andThen_ok, hg, Sem.run_pure, hc]
  rcases run_find112 h ok w with ⟨hn, hf⟩ | ⟨hy, j, hf⟩
  · simp [hf, zero4, hn]
  · simp [hf, hy]
/-- The world with the map of one graph more. -/
def putSeen (w : World) (mb : Nat) (l : List Gr) : World := { w with heap := w.heap.setIfInBounds mb (.map (seenE l) l.length) }
theorem run_add112 {w : World} {mb : Nat} {l : List Gr} (hm : w.heap[mb]? = some (.map (seenE l) l.length)) (h : ∀ g ∈ l, g.Ok) {g : Gr} (ok : g.Ok) (hn : g ∉ l) :
    (Instr.mapUpdate 112 (.map (some mb)) (gV g) (.bool true)).run Try.prog w = .ok () (putSeen w mb (l ++ [g])) := by
  obtain ⟨r, hr⟩ := key78 g ok
  have hc := law78.check w false hr
  have hg : (getObj mb).run Try.prog w = .ok (.map (seenE l) l.length) w := by simp [getObj, Sem.run, hm]
  have hs : ∀ o, (setObj mb o).run Try.prog w = .ok () { w with heap := w.heap.setIfInBounds mb o } := by
    intro o
    simp [setObj, Sem.run, hm]
  simp only [Instr.mapUpdate, Sem.run_bind, run_underlying Try.underlying112, Result.andThen_ok, hg, hc]
  rcases run_find112 h ok w with ⟨_, hf⟩ | ⟨hy, _⟩
  · simp only [hf, Result.andThen_ok, hs]
    rw [seenE_push, putSeen, List.length_append]
    rfl
  · exact absurd hy hn
theorem putSeen_at {w : World} {mb : Nat} {o : Obj} (h : w.heap[mb]? = some o) (l : List Gr) : (putSeen w mb l).heap[mb]? = some (.map (seenE l) l.length) := by
  obtain ⟨hl, _⟩ := Array.getElem?_eq_some_iff.1 h
  simp [putSeen, hl]
theorem putSeen_other (w : World) {mb k : Nat} (l : List Gr) (h : k ≠ mb) : (putSeen w mb l).heap[k]? = w.heap[k]? := by
  simp only [putSeen]
  rw [Array.getElem?_setIfInBounds_ne (by omega)]
end Go.Proofs.Ytdinmdjdkhlgcaa
