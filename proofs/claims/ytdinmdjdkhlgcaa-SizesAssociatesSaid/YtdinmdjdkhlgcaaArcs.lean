/- The arcs of a graph: what call makes of it. -/
import Derived.Test.YtdinmdjdkhlgcaaAwake
import Derived.Maps.AppendAt
namespace Go.Proofs.Ytdinmdjdkhlgcaa
open Go.RowKit Go.Proofs.YtdinmdjdkhlgcaaW.PrintWords Go.Proofs.Ytdinmdjdkhlgcaa.Sz
set_option linter.unusedVariables false
set_option linter.unusedSimpArgs false

def arcOf (g : Gr) (p : Nat) : List S24 := if 0 < g.at (p / 6) (p % 6) then [⟨(p / 6 : Nat), (p % 6 : Nat), g.at (p / 6) (p % 6) == 2⟩] else []
def arcsTo (g : Gr) (n : Nat) : List S24 := (List.range n).flatMap (arcOf g)
def callOf (g : Gr) : S34 := ⟨g.src, g.dst, arcsTo g 36⟩
theorem arcsTo_succ (g : Gr) (n : Nat) : arcsTo g (n + 1) = arcsTo g n ++ arcOf g n := by
  unfold arcsTo
  rw [List.range_succ, List.flatMap_append]
  simp
theorem pos_div {i k : Nat} (hk : k < 6) : (i * 6 + k) / 6 = i ∧ (i * 6 + k) % 6 = k := by omega
theorem arcOf_yes {g : Gr} {i k : Nat} (hk : k < 6) (h : 0 < g.at i k) : arcOf g (i * 6 + k) = [⟨(i : Int), (k : Int), g.at i k == 2⟩] := by
  unfold arcOf
  rw [(pos_div hk).1, (pos_div hk).2, if_pos h]
theorem arcOf_no {g : Gr} {i k : Nat} (hk : k < 6) (h : ¬ 0 < g.at i k) : arcOf g (i * 6 + k) = [] := by
  unfold arcOf
  rw [(pos_div hk).1, (pos_div hk).2, if_neg h]
theorem arcsTo_len (g : Gr) : ∀ n, (arcsTo g n).length ≤ n
  | 0 => Nat.le_refl 0
  | n + 1 => by
    have := arcsTo_len g n
    rw [arcsTo_succ, List.length_append]
    have h1 : (arcOf g n).length ≤ 1 := by
      unfold arcOf
      split <;> simp
    omega
theorem arcV_to {g : Gr} (ok : g.Ok) {i k : Nat} (hi : i < 6) (hk : k < 6) : ∀ n, arcV (arcsTo g n) i k = if i * 6 + k < n then g.at i k else 0
  | 0 => rfl
  | n + 1 => by
    have hb := ok.bound i k
    rw [arcsTo_succ]
    by_cases hn : 0 < g.at (n / 6) (n % 6)
    · have e : arcOf g n = [⟨(n / 6 : Nat), (n % 6 : Nat), g.at (n / 6) (n % 6) == 2⟩] := by
        unfold arcOf
        rw [if_pos hn]
      rw [e, arcV_snoc, arcV_to ok hi hk n]
      simp only
      by_cases he : i * 6 + k = n
      · subst he
        rw [(pos_div hk).1, (pos_div hk).2] at hn ⊢
        rw [if_pos ⟨rfl, rfl⟩, if_neg (by omega), if_pos (by omega)]
        unfold strictN
        simp only
        by_cases h2 : g.at i k = 2
        · rw [h2]; rfl
        · have : g.at i k = 1 := by omega
          rw [this]; rfl
      · rw [if_neg (by omega)]
        by_cases hlt : i * 6 + k < n
        · rw [if_pos hlt, if_pos (by omega)]
        · rw [if_neg hlt, if_neg (by omega)]
    · have e : arcOf g n = [] := by
        unfold arcOf
        rw [if_neg hn]
      rw [e, List.append_nil, arcV_to ok hi hk n]
      by_cases he : i * 6 + k = n
      · subst he
        rw [(pos_div hk).1, (pos_div hk).2] at hn
        rw [if_neg (by omega), if_pos (by omega)]
        omega
      · by_cases hlt : i * 6 + k < n
        · rw [if_pos hlt, if_pos (by omega)]
        · rw [if_neg hlt, if_neg (by omega)]
theorem Gr.ext_at {g h : Gr} (og : g.Ok) (oh : h.Ok) (hs : g.src = h.src) (hd : g.dst = h.dst) (ha : ∀ i k, i < 6 → k < 6 → g.at i k = h.at i k) : g = h := by
  obtain ⟨s, d, l⟩ := g
  obtain ⟨s', d', l'⟩ := h
  simp only at hs hd
  subst hs
  subst hd
  have hl := og.len
  have hl' := oh.len
  simp only at hl hl'
  have : l = l' := by
    apply List.ext_getElem?
    intro p
    rcases Nat.lt_or_ge p 36 with hp | hp
    · have := ha (p / 6) (p % 6) (by omega) (by omega)
      unfold Gr.at at this
      simp only at this
      rw [show p / 6 * 6 + p % 6 = p by omega] at this
      rw [List.getD_eq_getElem?_getD, List.getD_eq_getElem?_getD, List.getElem?_eq_getElem (by omega), List.getElem?_eq_getElem (by omega)] at this
      rw [List.getElem?_eq_getElem (by omega), List.getElem?_eq_getElem (by omega)]
      simpa using this
    · rw [List.getElem?_eq_none (by omega), List.getElem?_eq_none (by omega)]
  rw [this]
theorem graphOf_callOf {g : Gr} (ok : g.Ok) : graphOf (callOf g) = g := by
  refine Gr.ext_at (graphOf_ok ok.hs ok.hd) ok rfl rfl fun i k hi hk => ?_
  show (mkG g.src g.dst (arcV (arcsTo g 36))).at i k = _
  rw [mkG_at _ _ _ hi hk, arcV_to ok hi hk, if_pos (by omega)]
theorem arcsTo_ok (g : Gr) : ∀ a ∈ arcsTo g 36, arcOk a = true := by
  intro a ha
  obtain ⟨p, hp, h⟩ := List.mem_flatMap.1 ha
  have hp := List.mem_range.1 hp
  unfold arcOf at h
  split at h
  · rw [List.mem_singleton.1 h]
    unfold arcOk
    simp only [Bool.and_eq_true, decide_eq_true_eq]
    omega
  · cases h
theorem callOk_callOf {g : Gr} (h0 : g.src.toList.isEmpty = false) (h1 : g.dst.toList.isEmpty = false) : callOk (callOf g) = true := by
  unfold callOk
  have : (callOf g).f2.all arcOk = true := by
    rw [List.all_eq_true]
    exact arcsTo_ok g
  rw [this]
  show (!g.src.toList.isEmpty && !g.dst.toList.isEmpty && true) = true
  rw [h0, h1]
  rfl
/-! ### In memory -/
def c24 (a : S24) : List Value := [.int .i64 a.f0, .int .i64 a.f1, .bool a.f2]
theorem info24z : (Try.prog.info? 24).map (fun i => (i.zero, i.size, i.bytes)) = some (some (.agg #[.int .i64 0, .int .i64 0, .bool false]), 3, 24) := by kernel_rfl
theorem c24_one (a : S24) : ∀ v ∈ c24 a, v.oneCell' = true := by
  intro v hv
  simp only [c24, List.mem_cons, List.not_mem_nil, or_false] at hv
  rcases hv with rfl | rfl | rfl <;> rfl
/-- One arc more in a row of one's own. -/
theorem own_arc {W : World} {B : Nat} {v : Value} {l : List S24} (h : W.ownsRow B 24 3 v l.length (l.flatMap c24)) (hB : B ≤ W.heap.size) (hl : l.length ≤ 1000) (a : S24) (ty : TypeId) :
    ∃ v' W', (Builtin.append_ #[32, 32] ty #[v, .slice (some ⟨W.heap.size, 0, none⟩) 1 1]).run Try.prog (W.alloc (.cells (c24 a).toArray 24)) = .ok v' W' ∧ W'.ownsRow B 24 3 v' (l ++ [a]).length ((l ++ [a]).flatMap c24) ∧
      (W.alloc (.cells (c24 a).toArray 24)).grownBy W' v.ownBlock ∧ (v'.ownBlock = v.ownBlock ∨ v'.ownBlock = some (W.heap.size + 1)) := by
  obtain ⟨i0, hi, hz0, hz1, hz2⟩ := info_parts info24z
  have n3 := heap_alloc_new W (.cells (c24 a).toArray 24)
  obtain ⟨v', W', h1, h2, h3, _, h5⟩ := run_append_own_at (P := Try.prog) (w := W.alloc (.cells (c24 a).toArray 24)) B 32 ty 24 i0 (.agg #[.int .i64 0, .int .i64 0, .bool false]) 3 24 Try.underlying32 hi hz0 hz1 hz2 (by rfl) (by omega) v l.length _ (h.alloc _)
    ⟨W.heap.size, 0, none⟩ 1 1 (c24 a) rfl (fun j u hj => by
      have := range_row n3 j u hj
      rw [Addr.add_mid]
      exact this) (c24_one a) (by unfold maxLen; omega) (by omega) (by rw [size_alloc]; omega)
  refine ⟨v', W', h1, ?_, h3, by rw [size_alloc] at h5; exact h5⟩
  rw [List.length_append, List.flatMap_append]
  simpa using h2
/-- The state of the loop. -/
structure Cal (w wr : World) (g : Gr) (av : Value) (l : List S24) : Prop where
  b : Below w.heap.size w wr
  g0 : GrAt wr w.heap.size g
  r1 : wr.heap[w.heap.size + 1]? = some (.cells #[.string ⟨#[]⟩, .string ⟨#[]⟩, .slice none 0 0] 34 (0, 0))
  r2 : wr.heap[w.heap.size + 1 + 1]? = some (.cells #[.string g.src, .string g.dst, av] 34 (0, 0))
  own : wr.ownsRow (w.heap.size + 1 + 1 + 1) 24 3 av l.length (l.flatMap c24)
theorem own_below {w w' : World} {B t size n : Nat} {v : Value} {xs : List Value} (h : w.ownsRow B t size v n xs) (hb : Below w.heap.size w w') : w'.ownsRow B t size v n xs :=
  h.kept (row := none) ⟨hb.os, hb.tape, hb.output, hb.size, fun k hk _ => hb.block k hk⟩ (by
    cases e : v.ownBlock with
    | none => exact .inl rfl
    | some g => exact .inr (by simp))
theorem Cal.below {w wr w' : World} {g : Gr} {av : Value} {l : List S24} (h : Cal w wr g av l) (hb : Below wr.heap.size wr w') : Cal w w' g av l :=
  ⟨below_then h.b hb, h.g0.below hb, row_below h.r1 hb, row_below h.r2 hb, own_below h.own hb⟩
theorem own_one {w : World} {B t size n : Nat} {v : Value} {xs : List Value} (h : w.ownsRow B t size v n xs) : v.oneCell' = true := by
  obtain ⟨fa, fc, rfl, _⟩ := own_slice h
  rfl
theorem Cal.put {w wr : World} {g : Gr} {av : Value} {l : List S24} (h : Cal w wr g av l) (hl : l.length ≤ 1000) (a : S24) (ty : TypeId) :
    ∃ av' W3, (Builtin.append_ #[32, 32] ty #[av, .slice (some ⟨wr.heap.size, 0, none⟩) 1 1]).run Try.prog (wr.alloc (.cells (c24 a).toArray 24)) = .ok av' W3 ∧ av'.oneCell' = true ∧ W3.cell? ⟨w.heap.size + 1 + 1, 2, none⟩ = some av ∧ W3.frozen? ⟨w.heap.size + 1 + 1, 2, none⟩ = false ∧
      Cal w (W3.setCell ⟨w.heap.size + 1 + 1, 2, none⟩ av') g av' (l ++ [a]) := by
  have hsz : w.heap.size + 1 + 1 < wr.heap.size := lt_of_heap h.r2
  obtain ⟨av', W3, h1, h2, h3, h4⟩ := own_arc h.own (by omega) hl a ty
  have hnb : ∀ k, k < w.heap.size + 1 + 1 + 1 → W3.heap[k]? = wr.heap[k]? := fun k hk => by
    rw [h3.block k (by rw [size_alloc]; omega) (fun e => by
      have := (h.own.lt k e.symm).1
      omega), Below.heap_alloc _ _ _ (by omega)]
  have hb3 : Below w.heap.size w W3 := h.b.trans ⟨by rw [h3.os]; rfl, by rw [h3.tape]; rfl, by rw [h3.output]; rfl, by have := h3.size; rw [size_alloc] at this; omega, fun k hk => hnb k (by omega)⟩
  have r23 := (hnb _ (by omega)).trans h.r2
  refine ⟨av', W3, h1, own_one h2, cell_of_row _ _ 2 _ _ _ r23, frozen_of_row _ _ _ _ _ r23, ?_, ?_, ?_, ?_, ?_⟩
  · exact hb3.setCell (p := ⟨w.heap.size + 1 + 1, 2, none⟩) (by show _ ≤ w.heap.size + 1 + 1; omega) _
  · show (W3.setCell _ _).heap[_]? = _
    rw [heap_setCell_other _ _ _ _ (by show w.heap.size ≠ w.heap.size + 1 + 1; omega)]
    exact (hnb _ (by omega)).trans h.g0
  · rw [heap_setCell_other _ _ _ _ (by show w.heap.size + 1 ≠ w.heap.size + 1 + 1; omega)]
    exact (hnb _ (by omega)).trans h.r1
  · have := heap_setCell_same W3 (w.heap.size + 1 + 1) 2 _ _ av' r23
    exact this
  · refine h2.kept (row := some (w.heap.size + 1 + 1)) ⟨rfl, rfl, rfl, ?_, fun k _ hk => heap_setCell_other _ _ _ _ (fun e => hk (congrArg some e))⟩ (.inr fun e => ?_)
    · simp
    · have := (h2.lt _ e).1
      omega
end Go.Proofs.Ytdinmdjdkhlgcaa
