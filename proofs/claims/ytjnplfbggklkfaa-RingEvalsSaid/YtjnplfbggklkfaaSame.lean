/- The ring's same: two normal forms kept as maps are compared. -/
import Derived.Test.YtjnplfbggklkfaaAdd
import Derived.Deep.LoopGhost
namespace Go.Proofs.Ytjnplfbggklkfaa
open Go.RowKit
set_option linter.unusedVariables false
set_option linter.unusedSimpArgs false

theorem nodup_len : ∀ (n : Nat) (l : List Nat), l.Nodup → (∀ i ∈ l, i < n) → l.length ≤ n := by
  intro n
  induction n with
  | zero => intro l _ h; cases l with
    | nil => simp
    | cons a l => exact absurd (h a (by simp)) (by omega)
  | succ n ih =>
    intro l nd h
    by_cases hm : n ∈ l
    · have := ih (l.erase n) (nd.erase n) (fun i hi => by
        have h1 := h i (List.mem_of_mem_erase hi)
        have h2 : i ≠ n := fun e => by subst e; exact (List.Nodup.not_mem_erase nd) hi
        omega)
      rw [List.length_erase_of_mem hm] at this
      omega
    · have := ih l nd (fun i hi => by
        have h1 := h i hi
        have h2 : i ≠ n := fun e => by subst e; exact hm hi
        omega)
      omega
/-- A map's iterator in the middle of its way: what is seen are places, each once. -/
structure Going (w : World) (it r : Nat) (es : Asc) (seen : List Nat) : Prop where
  map : MapIs w r es
  iter : IterIs w it r es.length seen
  nd : seen.Nodup
  lt : ∀ i ∈ seen, i < es.length
  ne : it ≠ r
theorem Going.len {w : World} {it r : Nat} {es : Asc} {seen : List Nat} (h : Going w it r es seen) : seen.length ≤ es.length := nodup_len _ _ h.nd h.lt
theorem Going.start {w : World} {r : Nat} {es : Asc} (h : MapIs w r es) : Going (w.alloc (.mapIter (some r) es.length #[] es.length)) w.heap.size r es [] :=
  ⟨h.alloc _, heap_alloc_new _ _, by simp, by simp, by have := h.lt; omega⟩
theorem Going.below {w w' : World} {it r : Nat} {es : Asc} {seen : List Nat} (h : Going w it r es seen) (hb : Below w.heap.size w w') : Going w' it r es seen :=
  ⟨h.map.below hb, (hb.block it (Array.getElem?_eq_some_iff.1 h.iter).1).trans h.iter, h.nd, h.lt, h.ne⟩
theorem Going.but {w w' : World} {it r q : Nat} {es : Asc} {seen : List Nat} (h : Going w it r es seen) (hb : But q w w') (h1 : it ≠ q) (h2 : r ≠ q) : Going w' it r es seen :=
  ⟨h.map.but hb h2, (hb.block it (Array.getElem?_eq_some_iff.1 h.iter).1 h1).trans h.iter, h.nd, h.lt, h.ne⟩
theorem Going.ltIt {w : World} {it r : Nat} {es : Asc} {seen : List Nat} (h : Going w it r es seen) : it < w.heap.size := (Array.getElem?_eq_some_iff.1 h.iter).1
/-- One step of the range. -/
theorem Going.next {w : World} {it r : Nat} {es : Asc} {seen : List Nat} (h : Going w it r es seen) :
    ((∀ ty, (Instr.next (.pointer (some ⟨it, 0, none⟩)) false ty).run Try.prog w = .ok (.tuple #[.bool false]) w) ∧ ∀ i, i < es.length → i ∈ seen) ∨
    ∃ w' i k c, (∀ ty, (Instr.next (.pointer (some ⟨it, 0, none⟩)) false ty).run Try.prog w = .ok (.tuple #[.bool true, .agg (exC k), .int .i64 c]) w') ∧ Only it w w' ∧ es[i]? = some (k, c) ∧ i ∉ seen ∧
      Going w' it r es (seen ++ [i]) ∧ (Instr.entry (.pointer (some ⟨it, 0, none⟩))).run Try.prog w' = .ok (.tuple #[.agg (exC k), .int .i64 c]) w' ∧ seen.length < es.length ∧ Vec k := by
  obtain ⟨v, w', hr, ho, ⟨rfl, rfl, hs⟩ | ⟨i, k, c, he, hi, rfl, hit⟩⟩ := run_next_ h.map h.iter 0
  · exact .inl ⟨fun ty => hr, hs⟩
  · have hlt := (List.getElem?_eq_some_iff.1 he).1
    have hg : Going w' it r es (seen ++ [i]) := by
      refine ⟨h.map.only ho (Ne.symm h.ne), hit, ?_, ?_, h.ne⟩
      · rw [List.nodup_append]
        exact ⟨h.nd, by simp, fun a ha b hb e => hi (by rw [List.mem_singleton] at hb; rw [← hb, ← e]; exact ha)⟩
      · intro j hj
        rcases List.mem_append.1 hj with hj | hj
        · exact h.lt j hj
        · rw [List.mem_singleton.1 hj]; exact hlt
    refine .inr ⟨w', i, k, c, fun ty => hr, ho, he, hi, hg, run_entry_at hg.map hit he, ?_, h.map.vec _ (List.mem_of_getElem? he)⟩
    have := hg.len
    simp at this
    omega

def sameB (a b : Asc) : Bool := a.all (fun p => decide (getA b p.1 = p.2)) && decide (a.length = b.length)
theorem sameB_yes {a b : Asc} (seen : List Nat) (h : ∀ i, i < a.length → i ∈ seen) (hs : ∀ i ∈ seen, ∀ p, a[i]? = some p → getA b p.1 = p.2) : sameB a b = decide (a.length = b.length) := by
  unfold sameB
  have : a.all (fun p => decide (getA b p.1 = p.2)) = true := by
    rw [List.all_eq_true]
    intro p hp
    obtain ⟨i, hi⟩ := List.mem_iff_getElem?.1 hp
    exact decide_eq_true (hs i (h i (List.getElem?_eq_some_iff.1 hi).1) p hi)
  rw [this, Bool.true_and]
theorem sameB_no {a b : Asc} {i : Nat} {p : List Int × Int} (h : a[i]? = some p) (hn : getA b p.1 ≠ p.2) : sameB a b = false := by
  unfold sameB
  have : a.all (fun p => decide (getA b p.1 = p.2)) = false := by
    rw [Bool.eq_false_iff]
    intro ha
    exact hn (of_decide_eq_true (List.all_eq_true.1 ha p (List.mem_of_getElem? h)))
  rw [this, Bool.false_and]

set_option maxRecDepth 100000 in
set_option maxHeartbeats 4000000 in
theorem same_calls (r1 r2 : Nat) (a b : Asc) (w : World) (h1 : MapIs w r1 a) (h2 : MapIs w r2 b) :
    Calls Try.prog 18 #[.map (some r1), .map (some r2)] w fun e w' => e = .returned (.bool (sameB a b)) ∧ Below w.heap.size w w' := by
  have hrg := run_range_ h1
  have g0 := Going.start h1
  have m0 := h2.alloc (.mapIter (some r1) a.length #[] a.length)
  have hl1 := h1.lt
  have hl2 := h2.lt
  clear h1 h2
  have G0 := Lib.hid g0
  have M0 := Lib.hid m0
  have L2 := Lib.hid hl2
  clear g0 m0 hl1 hl2
  go_enter Try.func18, Try.ntmps18
  go_wp2
  go_loopg [9] a.length (fun n v9 wr => ∃ seen, Hid (Going wr w.heap.size r1 a seen) ∧ Hid (MapIs wr r2 b) ∧ Hid (Below w.heap.size w wr) ∧ Hid (n = a.length - seen.length) ∧ Hid (∀ i ∈ seen, ∀ p, a[i]? = some p → getA b p.1 = p.2))
  case atStart => exact ⟨[], G0, M0, Lib.hid ((Below.refl _ _).alloc (Nat.le_refl _) _), Lib.hid (by simp), Lib.hid (by simp)⟩
  case round =>
    clear G0 M0 hrg
    obtain ⟨seen, G, M, B, N, S⟩ := hrel
    rcases G.out.next with ⟨hn, hs⟩ | ⟨w1, i, k, c, hn, ho, he, hi, G1, hen, hlt, hv⟩
    · have l1 := run_len_ G.out.map
      have l2 := run_len_ M.out
      have R := Lib.hid (sameB_yes seen hs S.out)
      clear hs S G M
      go_wp2
      go_ret
      refine ⟨?_, B.out⟩
      rw [R.out]
      refine congrArg Ending.returned (congrArg Value.bool ?_)
      rw [Bool.eq_iff_iff, beq_iff_eq, decide_eq_true_eq]
      omega
    · have hb1 : Below w.heap.size w w1 := ho.below B.out (Nat.le_refl _)
      have lk := run_look (((M.out.only ho (fun e => by have := L2.out; omega))).alloc (.cells (exC k) 54)) hv
      have HG := Lib.hid (G1.below ((Below.refl w1.heap.size w1).alloc (Nat.le_refl _) (.cells (exC k) 54)))
      have HM := Lib.hid (((M.out.only ho (fun e => by have := L2.out; omega))).alloc (.cells (exC k) 54))
      have HB := Lib.hid (hb1.alloc hb1.size (.cells (exC k) 54))
      have HE := Lib.hid he
      have HL := Lib.hid hlt
      have HI := Lib.hid hi
      clear G M B hb1 ho he hlt hi G1 L2
      by_cases hc : getA b k = c
      · have HS : Hid (∀ j ∈ seen ++ [i], ∀ p, a[j]? = some p → getA b p.1 = p.2) := by
          refine Lib.hid fun j hj p hp => ?_
          rcases List.mem_append.1 hj with hj | hj
          · exact S.out j hj p hp
          · rw [List.mem_singleton.1 hj, HE.out] at hp
            injection hp with hp
            subst hp
            exact hc
        rw [hc] at lk
        clear S hc
        obtain ⟨x0, x1, x2, x3, x4, x5, x6, x7, rfl⟩ := len8 k hv.1
        clear hv
        simp only [exC, List.map_cons, List.map_nil] at hn hen lk HG HM HB
        go_wp2
        go_roundg (a.length - (seen.length + 1))
        case measure => have := N.out; have := HL.out; omega
        case rel => exact ⟨seen ++ [i], HG, HM, HB, Lib.hid (by simp), HS⟩
      · have R := Lib.hid (sameB_no HE.out hc)
        have hcb : (getA b k != c) = true := by simpa using hc
        clear S hc HM HG HE
        generalize getA b k = gb at *
        obtain ⟨x0, x1, x2, x3, x4, x5, x6, x7, rfl⟩ := len8 k hv.1
        clear hv
        simp only [exC, List.map_cons, List.map_nil] at hn hen lk HB
        go_wp2
        go_ret
        rw [R.out]
        exact ⟨rfl, HB.out⟩
end Go.Proofs.Ytjnplfbggklkfaa
