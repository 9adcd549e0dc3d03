/- Maps from arrays of eight ints to ints, as the ring keeps its normal forms: what the operations on their blocks do. -/
import Derived.Test.YtjnplfbggklkfaaProg
import Derived.WalkKit
import Derived.KernelRfl
import Derived.Below
import Derived.DeepKeys4
import Derived.WideKeyArr
namespace Go.Proofs.Ytjnplfbggklkfaa
open Go.RowKit
set_option linter.unusedVariables false
set_option linter.unusedSimpArgs false

/-- The cells of an exponent vector. -/
def exC (k : List Int) : Array Value := (k.map fun x => Value.int .i64 x).toArray
/-- An exponent vector: eight numbers that are ints. -/
def Vec (k : List Int) : Prop := k.length = 8 ∧ ∀ x ∈ k, -9223372036854775808 ≤ x ∧ x ≤ 9223372036854775807

theorem arr54 : WideMaps.ArrKey Try.prog 54 3 8 where
  hu := Try.underlying54
  plain := by kernel_rfl
  one := by kernel_rfl
  size := by kernel_rfl
theorem law54 : WideMaps.KeyLaw Try.prog 54 := arr54.law

theorem len8 (k : List Int) (h : k.length = 8) : ∃ a b c d e f g i, k = [a, b, c, d, e, f, g, i] := by
  match k, h with
  | [a, b, c, d, e, f, g, i], _ => exact ⟨a, b, c, d, e, f, g, i, rfl⟩
theorem kt54 : Try.prog.keyType 54 = true := by kernel_rfl
theorem sz54 : Try.prog.cellsOf 54 = 8 := by kernel_rfl
theorem sz3 : Try.prog.cellsOf 3 = 1 := by kernel_rfl
theorem nt : Try.prog.types.size = 93 := by kernel_rfl

theorem lits3 (d : Nat) (x : Int) (h : -9223372036854775808 ≤ x ∧ x ≤ 9223372036854775807) : Try.prog.keyLits (d + 1) 3 [.int .i64 x] = some [.int .i64 x] := by
  unfold Program.keyLits
  rw [Try.underlying3]
  simp [WalkArith.wf_i64 h]
theorem range8 : List.range 8 = [0, 1, 2, 3, 4, 5, 6, 7] := by decide
theorem key54 (k : List Int) (h : Vec k) : ∃ l, keyOf Try.prog 54 (.agg (exC k)) = some l := by
  obtain ⟨h8, hb⟩ := h
  obtain ⟨a, b, c, d, e, f, g, i, rfl⟩ := len8 k h8
  simp only [List.mem_cons, List.not_mem_nil, or_false, forall_eq_or_imp, forall_eq] at hb
  obtain ⟨ha, hb, hc, hd, he, hf, hg, hi⟩ := hb
  have hk : Try.prog.keyLits 94 54 [.int .i64 a, .int .i64 b, .int .i64 c, .int .i64 d, .int .i64 e, .int .i64 f, .int .i64 g, .int .i64 i] = some [.int .i64 a, .int .i64 b, .int .i64 c, .int .i64 d, .int .i64 e, .int .i64 f, .int .i64 g, .int .i64 i] := by
    rw [show (94 : Nat) = 92 + 1 + 1 from rfl]
    unfold Program.keyLits
    rw [Try.underlying54]
    dsimp only
    rw [if_pos (by rw [sz54]; rfl), sz3, range8]
    simp only [List.mapM_cons, List.mapM_nil, Nat.reduceMul, List.drop_succ_cons, List.drop_zero, List.take_succ_cons, List.take_zero, lits3 _ _ ha, lits3 _ _ hb, lits3 _ _ hc, lits3 _ _ hd, lits3 _ _ he, lits3 _ _ hf, lits3 _ _ hg, lits3 _ _ hi, Option.pure_def, Option.bind_eq_bind, Option.bind_some, Option.map_some, List.flatten_cons, List.flatten_nil, List.append_nil, List.cons_append, List.nil_append]
  refine Option.isSome_iff_exists.1 ?_
  · unfold keyOf
    rw [Try.underlying54]
    dsimp only
    rw [kt54, nt]
    have hfm : (Value.agg (exC [a, b, c, d, e, f, g, i])).formed Try.prog 54 = true := by
      unfold Value.formed
      rw [Try.underlying54]
      dsimp only
      rw [sz54]
      rfl
    rw [hfm]
    simp only [Bool.and_self, if_true]
    show (Option.map _ (Try.prog.keyLits 94 54 [.int .i64 a, .int .i64 b, .int .i64 c, .int .i64 d, .int .i64 e, .int .i64 f, .int .i64 g, .int .i64 i])).isSome = true
    rw [hk]
    rfl

/-! ### Association lists -/
abbrev Asc := List (List Int × Int)
def getA : Asc → List Int → Int
  | [], _ => 0
  | p :: es, k => if p.1 = k then p.2 else getA es k
def hasA : Asc → List Int → Bool
  | [], _ => false
  | p :: es, k => if p.1 = k then true else hasA es k
def idxA : Asc → List Int → Nat
  | [], _ => 0
  | p :: es, k => if p.1 = k then 0 else idxA es k + 1
def setA (es : Asc) (k : List Int) (c : Int) : Asc := if hasA es k then es.set (idxA es k) (k, c) else es ++ [(k, c)]
/-- The key is there, if with 0. -/
def touchA (es : Asc) (k : List Int) : Asc := if hasA es k then es else es ++ [(k, 0)]

def entOf (p : (List Int × Int) × Nat) : MapEntry := { key := .agg (exC p.1.1), val := .int .i64 p.1.2, born := p.2 }
/-- The entries of a map that is filled in this order, nothing ever struck. -/
def ents (es : Asc) : Array MapEntry := (es.zipIdx.map entOf).toArray
theorem ents_size (es : Asc) : (ents es).size = es.length := by simp [ents]
theorem ents_get (es : Asc) (i : Nat) : (ents es)[i]? = (es[i]?).map fun p => entOf (p, i) := by
  simp [ents, List.getElem?_zipIdx, Function.comp_def]
theorem ents_push (es : Asc) (k : List Int) (c : Int) : (ents es).push { key := .agg (exC k), val := .int .i64 c, born := es.length } = ents (es ++ [(k, c)]) := by
  simp [ents, List.zipIdx_append, entOf]
theorem ents_set (es : Asc) (i : Nat) (k : List Int) (c : Int) (hk : (es[i]?).map (·.1) = some k) : ((ents es).modify i fun e => { e with val := .int .i64 c }) = ents (es.set i (k, c)) := by
  apply Array.ext_getElem?
  intro j
  rw [Array.getElem?_modify, ents_get, ents_get, List.getElem?_set]
  by_cases hj : i = j
  · subst hj
    simp only [if_true]
    cases hp : es[i]? with
    | none => simp [hp] at hk
    | some p =>
      obtain ⟨hlt, _⟩ := List.getElem?_eq_some_iff.1 hp
      rw [hp] at hk
      simp only [Option.map_some, Option.some.injEq] at hk
      simp [hlt, entOf, hk]
  · simp [hj]
theorem ents_key (es : Asc) (i : Nat) (k : List Int) (hk : (es[i]?).map (·.1) = some k) : ((ents es).modify i fun e => { e with key := .agg (exC k) }) = ents es := by
  apply Array.ext_getElem?
  intro j
  rw [Array.getElem?_modify, ents_get]
  by_cases hj : i = j
  · subst hj
    cases hp : es[i]? with
    | none => simp [hp] at hk
    | some p =>
      rw [hp] at hk
      simp only [Option.map_some, Option.some.injEq] at hk
      simp [entOf, hk]
  · simp [hj]

theorem map_inj {k k' : List Int} (h : k.map (fun x => Value.int .i64 x) = k'.map (fun x => Value.int .i64 x)) : k = k' := by
  induction k generalizing k' with
  | nil => cases k' with
    | nil => rfl
    | cons a r => simp at h
  | cons a r ih => cases k' with
    | nil => simp at h
    | cons b s =>
      simp only [List.map_cons, List.cons.injEq, Value.int.injEq, true_and] at h
      rw [h.1, ih h.2]
theorem exC_inj {k k' : List Int} (h : exC k = exC k') : k = k' := map_inj (by simpa [exC] using h)

/-- Block r is a map that holds these entries. -/
structure MapIs (w : World) (r : Nat) (es : Asc) : Prop where
  blk : w.heap[r]? = some (.map (ents es) es.length)
  vec : ∀ p ∈ es, Vec p.1
  nd : (es.map (·.1)).Nodup

theorem keys_all (es : Asc) (h : ∀ p ∈ es, Vec p.1) : ∀ e ∈ (ents es).toList, ∃ l, keyOf Try.prog 54 e.key = some l := by
  intro e he
  rw [ents, List.toList_toArray, List.mem_map] at he
  obtain ⟨q, hq, rfl⟩ := he
  exact key54 _ (h _ (List.fst_mem_of_mem_zipIdx hq))

theorem idx_lt : ∀ {es : Asc} {k : List Int}, hasA es k = true → idxA es k < es.length
  | [], k, h => by simp [hasA] at h
  | p :: es, k, h => by
    unfold hasA at h
    unfold idxA
    split
    · simp
    · rename_i hne
      rw [if_neg hne] at h
      have := idx_lt h
      simp only [List.length_cons]
      omega
theorem idx_get : ∀ {es : Asc} {k : List Int}, hasA es k = true → es[idxA es k]? = some (k, getA es k)
  | [], k, h => by simp [hasA] at h
  | p :: es, k, h => by
    unfold hasA at h
    unfold idxA getA
    split
    · rename_i he
      subst he
      simp
    · rename_i hne
      rw [if_neg hne] at h
      simpa using idx_get h
theorem has_of_mem : ∀ {es : Asc} {k : List Int}, k ∈ es.map (·.1) → hasA es k = true
  | [], k, h => by simp at h
  | p :: es, k, h => by
    unfold hasA
    split
    · rfl
    · rename_i hne
      rw [List.map_cons, List.mem_cons] at h
      rcases h with h | h
      · exact absurd h.symm hne
      · exact has_of_mem h
theorem mem_of_has {es : Asc} {k : List Int} (h : hasA es k = true) : k ∈ es.map (·.1) := by
  have := idx_get h
  exact List.mem_map.2 ⟨_, List.mem_of_getElem? this, rfl⟩
theorem get_none : ∀ {es : Asc} {k : List Int}, hasA es k = false → getA es k = 0
  | [], k, h => rfl
  | p :: es, k, h => by
    unfold hasA at h
    unfold getA
    split
    · rename_i he
      rw [if_pos he] at h
      cases h
    · rename_i hne
      rw [if_neg hne] at h
      exact get_none h
theorem nodup_idx {α : Type} {a : α} : ∀ {l : List α}, l.Nodup → ∀ {i j : Nat}, l[i]? = some a → l[j]? = some a → i = j
  | [], _, i, j, h, _ => by simp at h
  | x :: l, nd, i, j, hi, hj => by
    obtain ⟨hx, nd⟩ := List.nodup_cons.1 nd
    cases i with
    | zero => cases j with
      | zero => rfl
      | succ j =>
        simp only [List.getElem?_cons_zero, Option.some.injEq] at hi
        subst hi
        exact absurd (List.mem_of_getElem? (by simpa using hj)) hx
    | succ i => cases j with
      | zero =>
        simp only [List.getElem?_cons_zero, Option.some.injEq] at hj
        subst hj
        exact absurd (List.mem_of_getElem? (by simpa using hi)) hx
      | succ j => rw [nodup_idx nd (i := i) (j := j) (by simpa using hi) (by simpa using hj)]
/-- In a list without doubles the place of a key is the place. -/
theorem idx_only {es : Asc} {k : List Int} (nd : (es.map (·.1)).Nodup) {j : Nat} {c : Int} (h : es[j]? = some (k, c)) : hasA es k = true ∧ idxA es k = j ∧ getA es k = c := by
  have hm : hasA es k = true := has_of_mem (List.mem_map.2 ⟨_, List.mem_of_getElem? h, rfl⟩)
  have hg := idx_get hm
  have e : idxA es k = j := by
    have h1 : (es.map (·.1))[idxA es k]? = some k := by rw [List.getElem?_map, hg]; rfl
    have h2 : (es.map (·.1))[j]? = some k := by rw [List.getElem?_map, h]; rfl
    exact nodup_idx nd h1 h2
  refine ⟨hm, e, ?_⟩
  rw [e, h] at hg
  injection hg with hg
  injection hg with _ hg
  exact hg.symm

/-- What finding a key comes to. -/
theorem run_find (es : Asc) (k : List Int) (hk : Vec k) (h : ∀ p ∈ es, Vec p.1) (nd : (es.map (·.1)).Nodup) (w : World) :
    (Instr.findKey 54 (.agg (exC k)) (ents es).toList).run Try.prog w = .ok (if hasA es k then some (idxA es k, .int .i64 (getA es k)) else none) w := by
  obtain ⟨l, hl⟩ := key54 k hk
  rcases law54.find w hl (ents es).toList (keys_all es h) with ⟨h1, h2⟩ | ⟨j, e, h1, h2, h3⟩
  · rw [h1]
    have : hasA es k = false := by
      cases hh : hasA es k with
      | false => rfl
      | true =>
        have hg := idx_get hh
        refine absurd rfl (h2 (entOf ((k, getA es k), idxA es k)) ?_)
        rw [Array.mem_toList_iff]
        exact Array.mem_of_getElem? (i := idxA es k) (by rw [ents_get, hg]; rfl)
    rw [this]
    rfl
  · rw [h1]
    rw [Array.getElem?_toList, ents_get] at h2
    obtain ⟨p, hp, rfl⟩ := Option.map_eq_some_iff.1 h2
    have hpk : p.1 = k := exC_inj (by injection h3)
    obtain ⟨a, b, c⟩ := idx_only nd (k := k) (j := j) (c := p.2) (by rw [hp, ← hpk])
    rw [a, b, c]
    rfl

theorem elem3 (w : World) : (zeroValue 3).run Try.prog w = .ok (.int .i64 0) w := by kernel_rfl

theorem run_look {w : World} {r : Nat} {es : Asc} (hm : MapIs w r es) {k : List Int} (hk : Vec k) :
    (Instr.lookup 41 (.map (some r)) (.agg (exC k)) false).run Try.prog w = .ok (.int .i64 (getA es k)) w := by
  obtain ⟨l, hl⟩ := key54 k hk
  have hc := law54.check w (ents es).isEmpty hl
  have hf := run_find es k hk hm.vec hm.nd w
  have hg : (getObj r).run Try.prog w = .ok (.map (ents es) es.length) w := by simp [getObj, Sem.run, hm.blk]
  simp only [Instr.lookup, Sem.run_bind, run_underlying Try.underlying41, Result.andThen_ok, hg, Sem.run_pure, hc, hf]
  cases hh : hasA es k with
  | true => simp
  | false => simp [elem3, get_none hh]
/-- The world with another map in block r. -/
def putMap (w : World) (r : Nat) (es : Asc) : World := { w with heap := w.heap.setIfInBounds r (.map (ents es) es.length) }
theorem putMap_is {w : World} {r : Nat} {o : Obj} (h : w.heap[r]? = some o) (es : Asc) (hv : ∀ p ∈ es, Vec p.1) (nd : (es.map (·.1)).Nodup) : MapIs (putMap w r es) r es := by
  refine ⟨?_, hv, nd⟩
  obtain ⟨hl, _⟩ := Array.getElem?_eq_some_iff.1 h
  simp [putMap, hl]
theorem putMap_other (w : World) {r j : Nat} (es : Asc) (h : j ≠ r) : (putMap w r es).heap[j]? = w.heap[j]? := by
  simp only [putMap]
  rw [Array.getElem?_setIfInBounds_ne (by omega)]
theorem touch_has (es : Asc) (k : List Int) : hasA (touchA es k) k = true := by
  unfold touchA
  cases h : hasA es k with
  | true => simpa using h
  | false => exact has_of_mem (by simp)
theorem idx_append : ∀ {es : Asc} {k : List Int} {c : Int}, hasA es k = false → idxA (es ++ [(k, c)]) k = es.length ∧ getA (es ++ [(k, c)]) k = c
  | [], k, c, h => by simp [idxA, getA]
  | p :: es, k, c, h => by
    unfold hasA at h
    simp only [List.cons_append, idxA, getA]
    split
    · rename_i he
      rw [if_pos he] at h
      cases h
    · rename_i hne
      rw [if_neg hne] at h
      obtain ⟨a, b⟩ := idx_append (c := c) h
      exact ⟨by rw [a]; rfl, b⟩
theorem has_append : ∀ {es : Asc} {k k' : List Int} {c : Int}, hasA (es ++ [(k, c)]) k' = (hasA es k' || decide (k = k'))
  | [], k, k', c => by simp [hasA]
  | p :: es, k, k', c => by
    simp only [List.cons_append, hasA]
    split
    · simp
    · exact has_append
theorem get_append : ∀ {es : Asc} {k k' : List Int} {c : Int}, getA (es ++ [(k, c)]) k' = if hasA es k' then getA es k' else if k = k' then c else 0
  | [], k, k', c => by simp [hasA, getA]
  | p :: es, k, k', c => by
    simp only [List.cons_append, hasA, getA]
    split
    · simp
    · exact get_append
theorem touch_get (es : Asc) (k k' : List Int) : getA (touchA es k) k' = getA es k' := by
  unfold touchA
  cases h : hasA es k with
  | true => simp
  | false =>
    simp only [Bool.false_eq_true, if_false]
    rw [get_append]
    cases h2 : hasA es k' with
    | true => simp
    | false =>
      rw [get_none h2]
      simp
theorem has_false {es : Asc} {k : List Int} (h : hasA es k = false) : k ∉ es.map (·.1) := fun hm => by
  rw [has_of_mem hm] at h
  cases h
theorem touch_ok {es : Asc} {k : List Int} (hk : Vec k) (hv : ∀ p ∈ es, Vec p.1) (nd : (es.map (·.1)).Nodup) : (∀ p ∈ touchA es k, Vec p.1) ∧ ((touchA es k).map (·.1)).Nodup := by
  unfold touchA
  cases h : hasA es k with
  | true => exact ⟨by simpa using hv, by simpa using nd⟩
  | false =>
    simp only [Bool.false_eq_true, if_false]
    refine ⟨fun p hp => ?_, ?_⟩
    · rcases List.mem_append.1 hp with hp | hp
      · exact hv p hp
      · rw [List.mem_singleton.1 hp]
        exact hk
    · rw [List.map_append, List.nodup_append]
      refine ⟨nd, by simp, fun a ha b hb e => ?_⟩
      simp only [List.map_cons, List.map_nil, List.mem_singleton] at hb
      exact has_false h (by rw [← hb, ← e]; exact ha)
theorem set_keys {es : Asc} {k : List Int} {c : Int} : ((setA es k c).map (·.1)) = (touchA es k).map (·.1) := by
  unfold setA touchA
  cases h : hasA es k with
  | true =>
    simp only [if_true, List.map_set]
    have := idx_get h
    apply List.ext_getElem?
    intro j
    rw [List.getElem?_set]
    split
    · rename_i e
      subst e
      simp [idx_lt h, this]
      have hl := idx_lt h
      rw [List.getElem?_eq_getElem hl] at this
      injection this with this
      rw [this]
    · rfl
  | false => simp
theorem set_ok {es : Asc} {k : List Int} {c : Int} (hk : Vec k) (hv : ∀ p ∈ es, Vec p.1) (nd : (es.map (·.1)).Nodup) : (∀ p ∈ setA es k c, Vec p.1) ∧ ((setA es k c).map (·.1)).Nodup := by
  obtain ⟨a, b⟩ := touch_ok hk hv nd
  refine ⟨fun p hp => ?_, by rw [set_keys]; exact b⟩
  have : p.1 ∈ (setA es k c).map (·.1) := List.mem_map.2 ⟨p, hp, rfl⟩
  rw [set_keys] at this
  obtain ⟨q, hq, e⟩ := List.mem_map.1 this
  rw [← e]
  exact a q hq
theorem set_touch {es : Asc} {k : List Int} {c : Int} : (touchA es k).set (idxA (touchA es k) k) (k, c) = setA es k c := by
  unfold touchA setA
  cases h : hasA es k with
  | true => simp
  | false =>
    simp only [Bool.false_eq_true, if_false]
    rw [(idx_append h).1]
    simp
theorem set_get {es : Asc} {k k' : List Int} {c : Int} (nd : (es.map (·.1)).Nodup) : getA (setA es k c) k' = if k = k' then c else getA es k' := by
  unfold setA
  cases h : hasA es k with
  | false =>
    simp only [Bool.false_eq_true, if_false]
    rw [get_append]
    by_cases e : k = k'
    · subst e
      simp [h]
    · simp only [if_neg e]
      cases h2 : hasA es k' with
      | true => simp
      | false => simp [get_none h2]
  | true =>
    simp only [if_true]
    induction es with
    | nil => simp [hasA] at h
    | cons p es ih =>
      unfold hasA at h
      unfold idxA
      by_cases e0 : p.1 = k
      · rw [if_pos e0]
        simp only [List.set_cons_zero, getA]
        by_cases e : k = k'
        · simp [e]
        · rw [if_neg e, if_neg e]
          rw [e0, if_neg e]
      · rw [if_neg e0] at h
        rw [if_neg e0]
        simp only [List.set_cons_succ, getA]
        rw [ih (List.nodup_cons.1 (by simpa using nd)).2 h]
        by_cases e : k = k'
        · subst e
          simp [e0]
        · simp [e]

theorem agg_bits : ∀ (l : List Value), (∀ v ∈ l, ∃ x, v = .int .i64 x) → (l.zip l).all (fun (x, y) => Instr.sameBits 9999 x y) = true
  | [], _ => rfl
  | v :: l, h => by
    obtain ⟨x, rfl⟩ := h v (by simp)
    simp only [List.zip_cons_cons, List.all_cons, Bool.and_eq_true]
    exact ⟨by simp [Instr.sameBits], agg_bits l fun v hv => h v (by simp [hv])⟩
theorem run_entry_ {w : World} {r : Nat} {es : Asc} (hm : MapIs w r es) {k : List Int} (hk : Vec k) :
    (Instr.mapEntry 41 (.map (some r)) (.agg (exC k))).run Try.prog w = .ok (.tuple #[.int .i64 (getA es k), .int .i64 (idxA (touchA es k) k : Nat)]) (putMap w r (touchA es k)) := by
  obtain ⟨l, hl⟩ := key54 k hk
  have hc := law54.check w false hl
  have hst := fun w => law54.stays w hl
  have hf := run_find es k hk hm.vec hm.nd w
  have hg : (getObj r).run Try.prog w = .ok (.map (ents es) es.length) w := by simp [getObj, Sem.run, hm.blk]
  have hs : ∀ o, (setObj r o).run Try.prog w = .ok () { w with heap := w.heap.setIfInBounds r o } := by
    intro o
    simp [setObj, Sem.run, hm.blk]
  have e3 : (Option.map (fun x : MapEntry => (x.born : Int)) (ents es)[idxA es k]?).getD 0 = ((((ents es)[idxA es k]?).map (·.born)).getD 0 : Nat) := by
    cases (ents es)[idxA es k]? <;> rfl
  simp only [Instr.mapEntry, Sem.run_bind, run_underlying Try.underlying41, Result.andThen_ok, hg, hc, hf]
  cases hh : hasA es k with
  | true =>
    have hi := idx_get hh
    have hlt := idx_lt hh
    have e1 : ((((ents es)[idxA es k]?).map (·.key)).getD (.agg (exC k))) = .agg (exC k) := by rw [ents_get, hi]; rfl
    have e2 : (((ents es)[idxA es k]?).map (·.born)).getD 0 = idxA es k := by rw [ents_get, hi]; rfl
    simp only [if_true, Sem.run_bind, e1, hst, Result.andThen_ok, hs, e2, Sem.run_pure]
    rw [ents_key es _ k (by rw [hi]; rfl)]
    simp only [goInt, touchA, hh, putMap, if_true, e3, e2]
  | false =>
    simp only [Bool.false_eq_true, if_false, Sem.run_bind, elem3, Result.andThen_ok, hs, Sem.run_pure]
    rw [ents_push]
    simp only [goInt, touchA, hh, putMap, Bool.false_eq_true, if_false, get_none hh, (idx_append hh).1, List.length_append, List.length_cons, List.length_nil]
theorem ents_find (es : Asc) (i : Nat) (h : i < es.length) : (ents es).findIdx? (fun e => (e.born : Int) == (i : Int)) = some i := by
  rw [Array.findIdx?_eq_some_iff_getElem]
  refine ⟨by rw [ents_size]; exact h, ?_, fun j hj => ?_⟩
  · have : (ents es)[i]? = some (entOf (es[i], i)) := by rw [ents_get, List.getElem?_eq_getElem h]; rfl
    obtain ⟨h1, h2⟩ := Array.getElem?_eq_some_iff.1 this
    rw [h2]
    simp [entOf]
  · have hjl : j < es.length := by omega
    have : (ents es)[j]? = some (entOf (es[j], j)) := by rw [ents_get, List.getElem?_eq_getElem hjl]; rfl
    obtain ⟨h1, h2⟩ := Array.getElem?_eq_some_iff.1 this
    rw [h2]
    simp [entOf]
    omega
theorem run_store_ {w : World} {r : Nat} {es : Asc} {k : List Int} (hm : MapIs w r (touchA es k)) (c : Int) :
    (Instr.entryStore 41 (.map (some r)) (.int .i64 (idxA (touchA es k) k : Nat)) (.int .i64 c)).run Try.prog w = .ok () (putMap w r (setA es k c)) := by
  have hg : (getObj r).run Try.prog w = .ok (.map (ents (touchA es k)) (touchA es k).length) w := by simp [getObj, Sem.run, hm.blk]
  have hs : ∀ o, (setObj r o).run Try.prog w = .ok () { w with heap := w.heap.setIfInBounds r o } := by
    intro o
    simp [setObj, Sem.run, hm.blk]
  have hh := touch_has es k
  simp only [Instr.entryStore, Sem.run_bind, hg, Result.andThen_ok, asInt, asIntOf, Sem.run_pure, ents_find _ _ (idx_lt hh), hs]
  rw [ents_set _ _ k c (by rw [idx_get hh]; rfl), set_touch]
  have : (touchA es k).length = (setA es k c).length := by
    have := congrArg List.length (set_keys (es := es) (k := k) (c := c))
    simpa using this.symm
  rw [putMap, this]
theorem run_len_ {w : World} {r : Nat} {es : Asc} (hm : MapIs w r es) (ty : TypeId) :
    (Builtin.len_ #[41] ty #[.map (some r)]).run Try.prog w = .ok (.int .i64 es.length) w := by
  have hg : (getObj r).run Try.prog w = .ok (.map (ents es) es.length) w := by simp [getObj, Sem.run, hm.blk]
  simp [Builtin.len_, Sem.run_bind, run_underlying Try.underlying41, hg, goInt, ents_size]

/-- Only block r may have changed; no block is new. -/
structure Only (r : Nat) (w w' : World) : Prop where
  os : w'.os = w.os
  tape : w'.tape = w.tape
  output : w'.output = w.output
  size : w'.heap.size = w.heap.size
  block : ∀ k, k ≠ r → w'.heap[k]? = w.heap[k]?
theorem Only.refl (r : Nat) (w : World) : Only r w w := ⟨rfl, rfl, rfl, rfl, fun _ _ => rfl⟩
theorem Only.trans {r : Nat} {a b c : World} (h : Only r a b) (k : Only r b c) : Only r a c :=
  ⟨k.os.trans h.os, k.tape.trans h.tape, k.output.trans h.output, k.size.trans h.size, fun i hi => (k.block i hi).trans (h.block i hi)⟩
theorem Only.drew {r : Nat} {a b : World} (h : Only r a b) : Only r a b.drew := ⟨h.os, h.tape, h.output, h.size, h.block⟩
theorem Only.below {B r : Nat} {a w w' : World} (h : Only r w w') (hb : Below B a w) (hr : B ≤ r) : Below B a w' :=
  hb.trans ⟨h.os, h.tape, h.output, by rw [h.size]; exact Nat.le_refl _, fun k hk => h.block k (by omega)⟩
theorem putMap_only (w : World) (r : Nat) (es : Asc) : Only r w (putMap w r es) := ⟨rfl, rfl, rfl, by simp [putMap], fun k hk => putMap_other w es hk⟩
theorem MapIs.only {w w' : World} {r q : Nat} {es : Asc} (h : MapIs w r es) (ho : Only q w w') (hne : r ≠ q) : MapIs w' r es := ⟨(ho.block r hne).trans h.blk, h.vec, h.nd⟩
theorem MapIs.below {w w' : World} {r : Nat} {es : Asc} (h : MapIs w r es) (hb : Below w.heap.size w w') : MapIs w' r es :=
  ⟨(hb.block r (Array.getElem?_eq_some_iff.1 h.blk).1).trans h.blk, h.vec, h.nd⟩
theorem MapIs.lt {w : World} {r : Nat} {es : Asc} (h : MapIs w r es) : r < w.heap.size := (Array.getElem?_eq_some_iff.1 h.blk).1

/-- Only block r, of those that were there, may have changed. -/
structure But (r : Nat) (w w' : World) : Prop where
  os : w'.os = w.os
  tape : w'.tape = w.tape
  output : w'.output = w.output
  size : w.heap.size ≤ w'.heap.size
  block : ∀ k, k < w.heap.size → k ≠ r → w'.heap[k]? = w.heap[k]?
theorem But.refl (r : Nat) (w : World) : But r w w := ⟨rfl, rfl, rfl, Nat.le_refl _, fun _ _ _ => rfl⟩
theorem But.of_below {r : Nat} {w w' : World} (h : Below w.heap.size w w') : But r w w' := ⟨h.os, h.tape, h.output, h.size, fun k hk _ => h.block k hk⟩
theorem But.trans {r : Nat} {a b c : World} (h : But r a b) (k : But r b c) : But r a c :=
  ⟨k.os.trans h.os, k.tape.trans h.tape, k.output.trans h.output, Nat.le_trans h.size k.size, fun i hi hne => (k.block i (Nat.lt_of_lt_of_le hi h.size) hne).trans (h.block i hi hne)⟩
theorem Only.but {r : Nat} {w w' : World} (h : Only r w w') : But r w w' := ⟨h.os, h.tape, h.output, by rw [h.size]; exact Nat.le_refl _, fun k _ hne => h.block k hne⟩
theorem But.below {B r : Nat} {a w w' : World} (h : But r w w') (hb : Below B a w) (hB : B ≤ w.heap.size) (hr : B ≤ r) : Below B a w' :=
  hb.trans ⟨h.os, h.tape, h.output, h.size, fun k hk => h.block k (by omega) (by omega)⟩
theorem MapIs.but {w w' : World} {r q : Nat} {es : Asc} (h : MapIs w r es) (ho : But q w w') (hne : r ≠ q) : MapIs w' r es := ⟨(ho.block r h.lt hne).trans h.blk, h.vec, h.nd⟩

/-! ### Ranging over a map that stays as it is -/
/-- Block it is an iterator over the map in block m, which holds n entries; these have been seen. -/
def IterIs (w : World) (it m n : Nat) (seen : List Nat) : Prop := w.heap[it]? = some (.mapIter (some m) n seen.toArray n)
theorem run_range_ {w : World} {r : Nat} {es : Asc} (hm : MapIs w r es) :
    (Instr.range 41 (.map (some r))).run Try.prog w = .ok (.pointer (some ⟨w.heap.size, 0, none⟩)) (w.alloc (.mapIter (some r) es.length #[] es.length)) := by
  have hg : (getObj r).run Try.prog w = .ok (.map (ents es) es.length) w := by simp [getObj, Sem.run, hm.blk]
  simp [Instr.range, Sem.run_bind, run_underlying Try.underlying41, hg, newObj, Sem.run]
theorem left_eq (es : Asc) (seen : List Nat) : (ents es).filter (fun e => !seen.toArray.contains e.born) = ((es.zipIdx.filter fun p => !seen.contains p.2).map entOf).toArray := by
  simp only [ents, List.filter_toArray, List.filter_map]
  congr 2
  apply List.filter_congr
  intro p hp
  simp [entOf, Function.comp]
theorem run_choose (n : Nat) (h : 0 < n) (w : World) : ∃ j w', j < n ∧ (choose (.mapNext n)).run Try.prog w = .ok j w' ∧ w'.heap = w.heap ∧ w'.os = w.os ∧ w'.tape = w.tape ∧ w'.output = w.output := by
  by_cases h1 : n ≤ 1
  · exact ⟨0, w, h, by simp [choose, Sem.run, Question.forced, h1], rfl, rfl, rfl, rfl⟩
  · exact ⟨w.tape w.drawn (.mapNext n) % n, { w with drawn := w.drawn + 1 }, Nat.mod_lt _ h, by simp only [choose, Sem.run, Question.forced, h1, decide_false, Bool.false_eq_true, if_false, Question.cut], rfl, rfl, rfl, rfl⟩
theorem run_next_ {w : World} {it r : Nat} {es : Asc} {seen : List Nat} (hm : MapIs w r es) (hi : IterIs w it r es.length seen) (ty : TypeId) :
    ∃ v w', (Instr.next (.pointer (some ⟨it, 0, none⟩)) false ty).run Try.prog w = .ok v w' ∧ Only it w w' ∧
      ((v = .tuple #[.bool false] ∧ w' = w ∧ ∀ i, i < es.length → i ∈ seen) ∨
       ∃ i k c, es[i]? = some (k, c) ∧ i ∉ seen ∧ v = .tuple #[.bool true, .agg (exC k), .int .i64 c] ∧ IterIs w' it r es.length (seen ++ [i])) := by
  have hg : (getObj r).run Try.prog w = .ok (.map (ents es) es.length) w := by simp [getObj, Sem.run, hm.blk]
  have hgi : (getObj it).run Try.prog w = .ok (.mapIter (some r) es.length seen.toArray es.length) w := by simp [getObj, Sem.run, show w.heap[it]? = _ from hi]
  have hall : (!(ents es).isEmpty && (ents es).all (·.born ≥ es.length)) = false := by
    cases es with
    | nil => simp [ents]
    | cons p es =>
      have : (ents (p :: es)).all (·.born ≥ (p :: es).length) = false := by
        rw [Bool.eq_false_iff]
        intro h
        rw [Array.all_eq_true] at h
        have h0 := h 0 (by rw [ents_size]; simp)
        have h1 : (ents (p :: es))[0]? = some (entOf (p, 0)) := by rw [ents_get]; rfl
        obtain ⟨h2, h3⟩ := Array.getElem?_eq_some_iff.1 h1
        rw [h3] at h0
        simp [entOf] at h0
      rw [this, Bool.and_false]
  have hold : ∀ l : List ((List Int × Int) × Nat), (∀ p ∈ l, p.2 < es.length) → ((l.map entOf).toArray.filter (·.born < es.length)) = (l.map entOf).toArray ∧ ((l.map entOf).toArray.filter (·.born ≥ es.length)) = #[] := by
    intro l hl
    constructor
    · rw [Array.filter_eq_self]
      intro e he
      simp only [List.mem_toArray, List.mem_map] at he
      obtain ⟨p, hp, rfl⟩ := he
      simp [entOf, hl p hp]
    · rw [Array.filter_eq_empty_iff]
      intro e he
      simp only [List.mem_toArray, List.mem_map] at he
      obtain ⟨p, hp, rfl⟩ := he
      have := hl p hp
      simp [entOf]
      omega
  have hlt : ∀ p ∈ es.zipIdx.filter fun p => !seen.contains p.2, p.2 < es.length := by
    intro p hp
    have := (List.mem_filter.1 hp).1
    have := List.snd_lt_of_mem_zipIdx this
    simpa using this
  generalize hL : (es.zipIdx.filter fun p => !seen.contains p.2) = L at *
  obtain ⟨ho, hn⟩ := hold L hlt
  have hmem : ∀ p, p ∈ L ↔ (es[p.2]? = some p.1 ∧ p.2 ∉ seen) := by
    intro p
    rw [← hL, List.mem_filter]
    obtain ⟨x, i⟩ := p
    rw [List.mk_mem_zipIdx_iff_getElem?]
    simp
  cases L with
  | nil =>
    refine ⟨.tuple #[.bool false], w, ?_, Only.refl _ _, .inl ⟨rfl, rfl, fun i hi => ?_⟩⟩
    · simp only [Instr.next, Sem.run_bind, hgi, Result.andThen_ok, hg]
      have : (!seen.toArray.isEmpty && !(ents es).isEmpty && (ents es).all (·.born ≥ es.length)) = false := by
        rw [Bool.and_assoc, hall, Bool.and_false]
      simp only [this, Bool.false_eq_true, if_false, Sem.run_pure, Result.andThen_ok, left_eq, hL, ho, hn]
      simp [choose, Sem.run, Question.forced]
    · by_cases hs : i ∈ seen
      · exact hs
      · have := (hmem (es[i], i)).2 ⟨List.getElem?_eq_getElem hi, hs⟩
        cases this
  | cons p L =>
    obtain ⟨j, w1, hj, hch, hh, h1, h2, h3⟩ := run_choose (p :: L).length (by simp) w
    have hq : (p :: L)[j]? = some (p :: L)[j] := List.getElem?_eq_getElem hj
    obtain ⟨q, hq'⟩ : ∃ q, q = (p :: L)[j] := ⟨_, rfl⟩
    rw [← hq'] at hq
    obtain ⟨ha, hb⟩ := (hmem q).1 (List.mem_of_getElem? hq)
    have hit : it < w.heap.size := (Array.getElem?_eq_some_iff.1 (show w.heap[it]? = _ from hi)).1
    refine ⟨.tuple #[.bool true, .agg (exC q.1.1), .int .i64 q.1.2], { w1 with heap := w1.heap.setIfInBounds it (.mapIter (some r) es.length (seen ++ [q.2]).toArray es.length) }, ?_, ⟨h1, h2, h3, by simp [hh], fun k hk => by simp only; rw [Array.getElem?_setIfInBounds_ne (by omega), hh]⟩, .inr ⟨q.2, q.1.1, q.1.2, ha, hb, rfl, ?_⟩⟩
    · simp only [Instr.next, Sem.run_bind, hgi, Result.andThen_ok, hg]
      have : (!seen.toArray.isEmpty && !(ents es).isEmpty && (ents es).all (·.born ≥ es.length)) = false := by
        rw [Bool.and_assoc, hall, Bool.and_false]
      have hs : ∀ o, (setObj it o).run Try.prog w1 = .ok () { w1 with heap := w1.heap.setIfInBounds it o } := by
        intro o
        have : w1.heap[it]? = some (.mapIter (some r) es.length seen.toArray es.length) := by rw [hh]; exact hi
        simp [setObj, Sem.run, this]
      simp only [this, Bool.false_eq_true, if_false, Sem.run_pure, Result.andThen_ok, left_eq, hL, ho, hn]
      have hsz : ((if ((p :: L).map entOf).toArray.isEmpty = true then #[none] else #[]) ++ (((p :: L).map entOf).toArray ++ #[]).map some) = (((p :: L).map entOf).map some).toArray := by simp
      rw [hsz]
      have hlen : (((p :: L).map entOf).map some).toArray.size = (p :: L).length := by simp
      rw [hlen, Sem.run_bind, hch]
      have hget : (((p :: L).map entOf).map some).toArray[j]? = some (some (entOf q)) := by
        simp only [List.getElem?_toArray, List.getElem?_map, hq, Option.map_some]
      simp only [Result.andThen_ok, hget, Sem.run_bind, hs, Sem.run_pure]
      simp [entOf]
    · simp [IterIs, hh, hit]
theorem run_entry_at {w : World} {it r : Nat} {es : Asc} {seen : List Nat} {i : Nat} {k : List Int} {c : Int} (hm : MapIs w r es) (hi : IterIs w it r es.length (seen ++ [i])) (he : es[i]? = some (k, c)) :
    (Instr.entry (.pointer (some ⟨it, 0, none⟩))).run Try.prog w = .ok (.tuple #[.agg (exC k), .int .i64 c]) w := by
  have hg : (getObj r).run Try.prog w = .ok (.map (ents es) es.length) w := by simp [getObj, Sem.run, hm.blk]
  have hgi : (getObj it).run Try.prog w = .ok (.mapIter (some r) es.length (seen ++ [i]).toArray es.length) w := by simp [getObj, Sem.run, show w.heap[it]? = _ from hi]
  have hb : (seen ++ [i]).toArray.back? = some i := by simp [Array.back?]
  have hf : (ents es).find? (·.born == i) = some (entOf ((k, c), i)) := by
    rw [Array.find?_eq_some_iff_getElem]
    have h0 : (ents es)[i]? = some (entOf ((k, c), i)) := by rw [ents_get, he]; rfl
    obtain ⟨h1, h2⟩ := Array.getElem?_eq_some_iff.1 h0
    refine ⟨by simp [entOf], i, h1, h2, fun j hj => ?_⟩
    have hjl : j < es.length := by rw [ents_size] at h1; omega
    have h3 : (ents es)[j]? = some (entOf (es[j], j)) := by rw [ents_get, List.getElem?_eq_getElem hjl]; rfl
    obtain ⟨h4, h5⟩ := Array.getElem?_eq_some_iff.1 h3
    rw [h5]
    simp [entOf]
    omega
  simp only [Instr.entry, Sem.run_bind, hgi, hg, Result.andThen_ok, hb, hf, bne_self_eq_false, Bool.false_eq_true, if_false, Sem.run_pure, entOf]
end Go.Proofs.Ytjnplfbggklkfaa
