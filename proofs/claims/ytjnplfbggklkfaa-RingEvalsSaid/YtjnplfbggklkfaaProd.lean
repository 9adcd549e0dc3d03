/- The ring's product: the product of two normal forms kept as maps. -/
import Derived.Test.YtjnplfbggklkfaaPlus
import Derived.Test.YtjnplfbggklkfaaTimes
import Derived.Test.YtjnplfbggklkfaaConv
namespace Go.Proofs.Ytjnplfbggklkfaa
open Go.RowKit
set_option linter.unusedVariables false
set_option linter.unusedSimpArgs false

/-- The sums so far, and zeros. -/
def upTo (x y : List Int) (n : Nat) : List Int := (vadd x y).take n ++ List.replicate (8 - n) 0

def ProdPost (w : World) (a b : Asc) (e : Ending) (w' : World) : Prop :=
  Below w.heap.size w w' ∧
  ((e = .returned (.tuple #[.map none, .bool false]) ∧ (Big (coef (mulL a b)) ∨ Steep (mulL a b))) ∨
   ∃ r es, e = .returned (.tuple #[.map (some r), .bool true]) ∧ w.heap.size ≤ r ∧ MapIs w' r es ∧ Rep es (coef (mulL a b)) ∧ Flat (mulL a b))
theorem ProdPost.bad {w : World} {a b : Asc} {w' : World} (h : Below w.heap.size w w') (hb : Big (coef (mulL a b)) ∨ Steep (mulL a b)) : ProdPost w a b (.returned (.tuple #[.map none, .bool false])) w' := ⟨h, .inl ⟨rfl, hb⟩⟩
theorem ProdPost.good {w : World} {a b : Asc} {w' : World} {r : Nat} {es : Asc} (h : Below w.heap.size w w') (hr : w.heap.size ≤ r) (hm : MapIs w' r es) (hp : Rep es (coef (mulL a b))) (hf : Flat (mulL a b)) : ProdPost w a b (.returned (.tuple #[.map (some r), .bool true])) w' :=
  ⟨h, .inr ⟨r, es, rfl, hr, hm, hp, hf⟩⟩


theorem exC_set (l : List Int) (n : Nat) (v : Int) : (exC l).setIfInBounds n (.int .i64 v) = exC (l.set n v) := by
  unfold exC
  simp
theorem exC_get (l : List Int) (n : Nat) : (exC l)[n]? = (l[n]?).map (Value.int .i64) := by
  unfold exC
  simp
theorem vadd_len {x y : List Int} (hx : x.length = 8) (hy : y.length = 8) : (vadd x y).length = 8 := by simp [vadd, hx, hy]
theorem vadd_get {x y : List Int} {n : Nat} {u v : Int} (hx : x[n]? = some u) (hy : y[n]? = some v) : (vadd x y)[n]? = some (u + v) := by
  unfold vadd
  rw [List.getElem?_zipWith, hx, hy]
theorem upTo_len {x y : List Int} (hx : x.length = 8) (hy : y.length = 8) {n : Nat} (h : n ≤ 8) : (upTo x y n).length = 8 := by
  simp [upTo, vadd_len hx hy]
  omega
theorem upTo_set {x y : List Int} (hx : x.length = 8) (hy : y.length = 8) {n : Nat} (h : n < 8) {s : Int} (hs : (vadd x y)[n]? = some s) : (upTo x y n).set n s = upTo x y (n + 1) := by
  have hl := vadd_len hx hy
  unfold upTo
  generalize vadd x y = z at *
  obtain ⟨z0, z1, z2, z3, z4, z5, z6, z7, rfl⟩ := len8 z hl
  match n, h with
  | 0, _ | 1, _ | 2, _ | 3, _ | 4, _ | 5, _ | 6, _ | 7, _ =>
    simp only [List.getElem?_cons_zero, List.getElem?_cons_succ, Option.some.injEq] at hs
    subst hs
    rfl
theorem upTo_zero (x y : List Int) : upTo x y 0 = [0, 0, 0, 0, 0, 0, 0, 0] := by simp [upTo]
theorem upTo_all {x y : List Int} (hx : x.length = 8) (hy : y.length = 8) : upTo x y 8 = vadd x y := by
  simp [upTo, List.take_of_length_le, vadd_len hx hy]

structure ProdOut (w wr : World) (a b : Asc) (r1 r2 it1 : Nat) (la : List Nat) (es : Asc) : Prop where
  ga : Going wr it1 r1 a la
  m : MapIs wr w.heap.size es
  rep : Rep es (coef (mulL (pick a la) b))
  flat : Flat (mulL (pick a la) b)
  bel : Below w.heap.size w wr
  o1 : w.heap.size < it1
structure ProdIn (w wr : World) (a b : Asc) (r1 r2 it1 gx it2 : Nat) (la : List Nat) (i : Nat) (p : List Int × Int) (lb : List Nat) (es : Asc) : Prop where
  ga : Going wr it1 r1 a (la ++ [i])
  pi : a[i]? = some p
  bx : wr.heap[gx]? = some (.cells (exC p.1) 54 (0, 0))
  gb : Going wr it2 r2 b lb
  m : MapIs wr w.heap.size es
  rep : Rep es (coef (mulL (pick a la) b ++ (pick b lb).map (mulM p)))
  flat : Flat (mulL (pick a la) b ++ (pick b lb).map (mulM p))
  bel : Below w.heap.size w wr
  o1 : w.heap.size < it1
  o2 : it1 < gx
  o3 : gx < it2
theorem ProdOut.start {w : World} {a b : Asc} {r1 r2 : Nat} (h1 : MapIs w r1 a) : ProdOut w ((w.alloc (.map #[] 0)).alloc (.mapIter (some r1) a.length #[] a.length)) a b r1 r2 (w.heap.size + 1) [] [] where
  ga := by
    have := Going.start (h1.alloc (.map #[] 0))
    simpa using this
  m := ⟨by
    have := heap_alloc_new w (.map #[] 0)
    rw [Below.heap_alloc _ _ _ (by simp)]
    exact this, by simp, by simp⟩
  rep := Rep.nil.congr fun k => by simp [pick_nil, mulL, coef]
  flat := by simp [Flat, pick_nil, mulL]
  bel := ((Below.refl _ _).alloc (Nat.le_refl _) _).alloc (by simp) _
  o1 := by omega
/-- The outer range is through. -/
theorem ProdOut.done {w wr : World} {a b : Asc} {r1 r2 it1 : Nat} {la : List Nat} {es : Asc} (h : ProdOut w wr a b r1 r2 it1 la es) (hs : ∀ i, i < a.length → i ∈ la) :
    ProdPost w a b (.returned (.tuple #[.map (some w.heap.size), .bool true])) wr := by
  have hp := mulL_perm (pick_all h.ga.nd h.ga.lt hs) (List.Perm.refl b)
  exact ProdPost.good h.bel (Nat.le_refl _) h.m (h.rep.congr fun k => (coef_perm hp k).symm) fun m hm => h.flat m (hp.mem_iff.1 hm)
/-- The inner range begins. -/
theorem ProdOut.inner {w wr w1 : World} {a b : Asc} {r1 r2 it1 : Nat} {la : List Nat} {es : Asc} (h : ProdOut w wr a b r1 r2 it1 la es) {i : Nat} {p : List Int × Int} (ho : Only it1 wr w1) (hp : a[i]? = some p)
    (g1 : Going w1 it1 r1 a (la ++ [i])) (h2 : MapIs w r2 b) :
    MapIs (w1.alloc (.cells (exC p.1) 54)) r2 b ∧ ProdIn w ((w1.alloc (.cells (exC p.1) 54)).alloc (.mapIter (some r2) b.length #[] b.length)) a b r1 r2 it1 w1.heap.size (w1.heap.size + 1) la i p [] es := by
  have hb1 : Below w.heap.size w w1 := ho.below h.bel (by have := h.o1; omega)
  have m2 : MapIs (w1.alloc (.cells (exC p.1) 54)) r2 b := (h2.below hb1).alloc _
  have hb2 := (Below.refl w1.heap.size w1).alloc (Nat.le_refl _) (.cells (exC p.1) 54)
  have hb3 := hb2.alloc (by simp) (.mapIter (some r2) b.length #[] b.length)
  refine ⟨m2, ?_⟩
  constructor
  · exact g1.below hb3
  · exact hp
  · have h0 := heap_alloc_new w1 (.cells (exC p.1) 54)
    rw [Below.heap_alloc _ _ _ (by simp)]
    exact h0
  · have := Going.start m2
    simpa using this
  · exact (((h.m.only ho (by have := h.o1; omega)).alloc _).alloc _)
  · simpa [pick_nil] using h.rep
  · simpa [pick_nil] using h.flat
  · exact (hb1.alloc hb1.size _).alloc (Nat.le_trans hb1.size (by simp)) _
  · exact h.o1
  · have := g1.ltIt; omega
  · omega
/-- The inner range is through. -/
theorem ProdIn.done {w wr : World} {a b : Asc} {r1 r2 it1 gx it2 : Nat} {la : List Nat} {i : Nat} {p : List Int × Int} {lb : List Nat} {es : Asc} (h : ProdIn w wr a b r1 r2 it1 gx it2 la i p lb es) (hs : ∀ i, i < b.length → i ∈ lb) :
    ProdOut w wr a b r1 r2 it1 (la ++ [i]) es := by
  have hp : (mulL (pick a (la ++ [i])) b).Perm (mulL (pick a la) b ++ (pick b lb).map (mulM p)) := by
    rw [pick_snoc h.pi, mulL_append, mulL_one]
    exact List.Perm.append_left _ ((pick_all h.gb.nd h.gb.lt hs).map _)
  exact ⟨h.ga, h.m, h.rep.congr fun k => (coef_perm hp k).symm, fun m hm => h.flat m (hp.mem_iff.1 hm), h.bel, h.o1⟩
theorem Pos.nn {a : Asc} (h : Pos a) : ∀ p ∈ a, 0 ≤ p.2 := fun p hp => by have := (h p hp).1; omega
theorem mem_mul {a b : Asc} {p q : List Int × Int} (hp : p ∈ a) (hq : q ∈ b) : mulM p q ∈ mulL a b := by
  simp only [mulL, List.mem_flatMap, List.mem_map]
  exact ⟨p, hp, q, hq, rfl⟩
theorem coef_mem {a : Asc} (h : ∀ p ∈ a, 0 ≤ p.2) {p : List Int × Int} (hp : p ∈ a) : p.2 ≤ coef a p.1 := by
  induction a with
  | nil => cases hp
  | cons q a ih =>
    have h1 := coef_nonneg (a := a) (fun q hq => h q (by simp [hq])) p.1
    simp only [coef]
    rcases List.mem_cons.1 hp with rfl | hp
    · rw [if_pos rfl]; omega
    · have h2 := ih (fun q hq => h q (by simp [hq])) hp
      have h3 := h q (by simp)
      split <;> omega
/-- The inner range's step, its world, and what a monomial more comes to. -/
structure ProdAt (w w1 : World) (a b : Asc) (r1 r2 it1 gx it2 : Nat) (la : List Nat) (i : Nat) (p : List Int × Int) (lb : List Nat) (j : Nat) (q : List Int × Int) (es : Asc) : Prop where
  ga : Going w1 it1 r1 a (la ++ [i])
  pi : a[i]? = some p
  bx : w1.heap[gx]? = some (.cells (exC p.1) 54 (0, 0))
  gb : Going w1 it2 r2 b (lb ++ [j])
  qj : b[j]? = some q
  nj : j ∉ lb
  m : MapIs w1 w.heap.size es
  rep : Rep es (coef (mulL (pick a la) b ++ (pick b lb).map (mulM p)))
  flat : Flat (mulL (pick a la) b ++ (pick b lb).map (mulM p))
  bel : Below w.heap.size w w1
  o1 : w.heap.size < it1
  o2 : it1 < gx
  o3 : gx < it2
theorem ProdIn.at_ {w wr w1 : World} {a b : Asc} {r1 r2 it1 gx it2 : Nat} {la : List Nat} {i : Nat} {p : List Int × Int} {lb : List Nat} {es : Asc} (h : ProdIn w wr a b r1 r2 it1 gx it2 la i p lb es) {j : Nat} {q : List Int × Int} (l1 : r1 < w.heap.size)
    (ho : Only it2 wr w1) (hq : b[j]? = some q) (hj : j ∉ lb) (g1 : Going w1 it2 r2 b (lb ++ [j])) : ProdAt w w1 a b r1 r2 it1 gx it2 la i p lb j q es := by
  have o1 := h.o1
  have o2 := h.o2
  have o3 := h.o3
  exact ⟨h.ga.but ho.but (by omega) (by omega), h.pi, (ho.block gx (by omega)).trans h.bx, g1, hq, hj, h.m.only ho (by omega), h.rep, h.flat, ho.below h.bel (by omega), o1, o2, o3⟩
theorem ProdAt.below {w w1 w2 : World} {a b : Asc} {r1 r2 it1 gx it2 : Nat} {la : List Nat} {i : Nat} {p : List Int × Int} {lb : List Nat} {j : Nat} {q : List Int × Int} {es : Asc} (h : ProdAt w w1 a b r1 r2 it1 gx it2 la i p lb j q es)
    (hb : Below w1.heap.size w1 w2) : ProdAt w w2 a b r1 r2 it1 gx it2 la i p lb j q es :=
  ⟨h.ga.below hb, h.pi, (hb.block gx (blk_lt' h.bx)).trans h.bx, h.gb.below hb, h.qj, h.nj, h.m.below hb, h.rep, h.flat, h.bel.trans ⟨hb.os, hb.tape, hb.output, hb.size, fun k hk => hb.block k (Nat.lt_of_lt_of_le hk h.bel.size)⟩, h.o1, h.o2, h.o3⟩
theorem ProdAt.but {w w1 w2 : World} {a b : Asc} {r1 r2 it1 gx it2 g : Nat} {la : List Nat} {i : Nat} {p : List Int × Int} {lb : List Nat} {j : Nat} {q : List Int × Int} {es : Asc} (h : ProdAt w w1 a b r1 r2 it1 gx it2 la i p lb j q es)
    (hb : But g w1 w2) (hg : it2 < g) (l1 : r1 < w.heap.size) (l2 : r2 < w.heap.size) : ProdAt w w2 a b r1 r2 it1 gx it2 la i p lb j q es := by
  have o1 := h.o1
  have o2 := h.o2
  have o3 := h.o3
  exact ⟨h.ga.but hb (by omega) (by omega), h.pi, (hb.block gx (blk_lt' h.bx) (by omega)).trans h.bx, h.gb.but hb (by omega) (by omega), h.qj, h.nj, h.m.but hb (by omega), h.rep, h.flat, hb.below h.bel h.bel.size (by omega), o1, o2, o3⟩
theorem But.store (w : World) (g n : Nat) (v : Value) : But g w (w.drew.setCell ⟨g, n, none⟩ v) :=
  ⟨rfl, rfl, rfl, by simp [World.setCell], fun k _ hne => Below.heap_setCell w.drew ⟨g, n, none⟩ v k hne⟩
theorem ProdAt.vecs {w w1 : World} {a b : Asc} {r1 r2 it1 gx it2 : Nat} {la : List Nat} {i : Nat} {p : List Int × Int} {lb : List Nat} {j : Nat} {q : List Int × Int} {es : Asc} (h : ProdAt w w1 a b r1 r2 it1 gx it2 la i p lb j q es) : p.1.length = 8 ∧ q.1.length = 8 :=
  ⟨(h.ga.map.vec _ (List.mem_of_getElem? h.pi)).1, (h.gb.map.vec _ (List.mem_of_getElem? h.qj)).1⟩
theorem ProdAt.steep {w w1 : World} {a b : Asc} {r1 r2 it1 gx it2 : Nat} {la : List Nat} {i : Nat} {p : List Int × Int} {lb : List Nat} {j : Nat} {q : List Int × Int} {es : Asc} (h : ProdAt w w1 a b r1 r2 it1 gx it2 la i p lb j q es) {n : Nat} {s : Int}
    (hs : (vadd p.1 q.1)[n]? = some s) (h60 : 60 < s) : Steep (mulL a b) :=
  ⟨mulM p q, mem_mul (List.mem_of_getElem? h.pi) (List.mem_of_getElem? h.qj), s, List.mem_of_getElem? hs, h60⟩
theorem ProdAt.great {w w1 : World} {a b : Asc} {r1 r2 it1 gx it2 : Nat} {la : List Nat} {i : Nat} {p : List Int × Int} {lb : List Nat} {j : Nat} {q : List Int × Int} {es : Asc} (h : ProdAt w w1 a b r1 r2 it1 gx it2 la i p lb j q es)
    (pa : Pos a) (pb : Pos b) (hn : ¬ p.2 * q.2 ≤ 1000000000000000) : Big (coef (mulL a b)) := by
  refine .inl ⟨vadd p.1 q.1, ?_⟩
  have := coef_mem (mul_nonneg pa.nn pb.nn) (mem_mul (List.mem_of_getElem? h.pi) (List.mem_of_getElem? h.qj))
  simp only [mulM] at this
  omega
/-- A monomial more: it goes well. -/
theorem ProdAt.more {w w1 w2 : World} {a b : Asc} {r1 r2 it1 gx it2 : Nat} {la : List Nat} {i : Nat} {p : List Int × Int} {lb : List Nat} {j : Nat} {q : List Int × Int} {es : Asc} (h : ProdAt w w1 a b r1 r2 it1 gx it2 la i p lb j q es)
    (pa : Pos a) (pb : Pos b) (l1 : r1 < w.heap.size) (l2 : r2 < w.heap.size) (hf : ∀ v ∈ vadd p.1 q.1, v ≤ 60)
    (hok : getA es (vadd p.1 q.1) + p.2 * q.2 ≤ 1000000000000000 ∧ (setA es (vadd p.1 q.1) (getA es (vadd p.1 q.1) + p.2 * q.2)).length ≤ 200)
    (hm : MapIs w2 w.heap.size (setA es (vadd p.1 q.1) (getA es (vadd p.1 q.1) + p.2 * q.2))) (hb : But w.heap.size w1 w2) :
    ProdIn w w2 a b r1 r2 it1 gx it2 la i p (lb ++ [j]) (setA es (vadd p.1 q.1) (getA es (vadd p.1 q.1) + p.2 * q.2)) := by
  have o1 := h.o1
  have o2 := h.o2
  have o3 := h.o3
  have hp := pa _ (List.mem_of_getElem? h.pi)
  have hq := pb _ (List.mem_of_getElem? h.qj)
  have hsm : ∀ v ∈ vadd p.1 q.1, 0 ≤ v ∧ v ≤ 60 := fun v hv => by
    refine ⟨?_, hf v hv⟩
    obtain ⟨n, hn⟩ := List.mem_iff_getElem?.1 hv
    unfold vadd at hn
    rw [List.getElem?_zipWith] at hn
    cases hx : p.1[n]? with
    | none => simp [hx] at hn
    | some x =>
      cases hy : q.1[n]? with
      | none => simp [hx, hy] at hn
      | some y =>
        simp only [hx, hy, Option.some.injEq] at hn
        have := hp.2.2 x (List.mem_of_getElem? hx)
        have := hq.2.2 y (List.mem_of_getElem? hy)
        omega
  have hvec : Vec (vadd p.1 q.1) := ⟨vadd_len h.vecs.1 h.vecs.2, fun v hv => by have := hsm v hv; omega⟩
  have hpos : 0 < p.2 * q.2 := Int.mul_pos hp.1 hq.1
  constructor
  · exact h.ga.but hb (by omega) (by omega)
  · exact h.pi
  · exact (hb.block gx (blk_lt' h.bx) (by omega)).trans h.bx
  · exact h.gb.but hb (by omega) (by omega)
  · exact hm
  · refine (h.rep.add hvec hsm h.m.vec hpos hok.1 hok.2).congr fun k => ?_
    rw [pick_snoc h.qj, List.map_append, ← List.append_assoc, coef_append _ (List.map (mulM p) [q])]
    simp [coef, mulM]
  · intro m hm
    rw [pick_snoc h.qj, List.map_append, ← List.append_assoc] at hm
    rcases List.mem_append.1 hm with hm | hm
    · exact h.flat m hm
    · simp only [List.map_cons, List.map_nil, List.mem_singleton] at hm
      subst hm
      exact hf
  · exact hb.below h.bel h.bel.size (Nat.le_refl _)
  · exact o1
  · exact o2
  · exact o3
/-- A monomial more: it goes wrong. -/
theorem ProdAt.wrong {w w1 : World} {a b : Asc} {r1 r2 it1 gx it2 : Nat} {la : List Nat} {i : Nat} {p : List Int × Int} {lb : List Nat} {j : Nat} {q : List Int × Int} {es : Asc} (h : ProdAt w w1 a b r1 r2 it1 gx it2 la i p lb j q es)
    (pa : Pos a) (pb : Pos b) (hvec : Vec (vadd p.1 q.1))
    (hok : ¬ (getA es (vadd p.1 q.1) + p.2 * q.2 ≤ 1000000000000000 ∧ (setA es (vadd p.1 q.1) (getA es (vadd p.1 q.1) + p.2 * q.2)).length ≤ 200)) : Big (coef (mulL a b)) := by
  have hp := pa _ (List.mem_of_getElem? h.pi)
  have hq := pb _ (List.mem_of_getElem? h.qj)
  refine h.rep.add_big hvec h.m.vec (Int.mul_pos hp.1 hq.1) hok fun k => ?_
  have h1 := part_le_whole pa.nn pb.nn h.ga.nd h.ga.lt h.gb.nd h.gb.lt h.pi k
  rw [pick_snoc h.qj, List.map_append, ← List.append_assoc, coef_append _ (List.map (mulM p) [q])] at h1
  simpa [coef, mulM] using h1
theorem ProdAt.vec {w w1 : World} {a b : Asc} {r1 r2 it1 gx it2 : Nat} {la : List Nat} {i : Nat} {p : List Int × Int} {lb : List Nat} {j : Nat} {q : List Int × Int} {es : Asc} (h : ProdAt w w1 a b r1 r2 it1 gx it2 la i p lb j q es)
    (pa : Pos a) (pb : Pos b) : Vec (vadd p.1 q.1) := by
  refine ⟨vadd_len h.vecs.1 h.vecs.2, fun v hv => ?_⟩
  have hp := pa _ (List.mem_of_getElem? h.pi)
  have hq := pb _ (List.mem_of_getElem? h.qj)
  obtain ⟨n, hn⟩ := List.mem_iff_getElem?.1 hv
  unfold vadd at hn
  rw [List.getElem?_zipWith] at hn
  cases hx : p.1[n]? with
  | none => simp [hx] at hn
  | some x =>
    cases hy : q.1[n]? with
    | none => simp [hx, hy] at hn
    | some y =>
      simp only [hx, hy, Option.some.injEq] at hn
      have := hp.2.2 x (List.mem_of_getElem? hx)
      have := hq.2.2 y (List.mem_of_getElem? hy)
      omega
theorem cells8 {w : World} {g : Nat} {z0 z1 z2 z3 z4 z5 z6 z7 : Int} (h : w.heap[g]? = some (.cells (exC [z0, z1, z2, z3, z4, z5, z6, z7]) 54 (0, 0))) :
    w.cell? ⟨g, 0, none⟩ = some (.int .i64 z0) ∧ w.cell? ⟨g, 1, none⟩ = some (.int .i64 z1) ∧ w.cell? ⟨g, 2, none⟩ = some (.int .i64 z2) ∧ w.cell? ⟨g, 3, none⟩ = some (.int .i64 z3) ∧
    w.cell? ⟨g, 4, none⟩ = some (.int .i64 z4) ∧ w.cell? ⟨g, 5, none⟩ = some (.int .i64 z5) ∧ w.cell? ⟨g, 6, none⟩ = some (.int .i64 z6) ∧ w.cell? ⟨g, 7, none⟩ = some (.int .i64 z7) := by
  have hc := fun j => cell_of_row w g j _ _ _ h
  refine ⟨hc 0, hc 1, hc 2, hc 3, hc 4, hc 5, hc 6, hc 7⟩

set_option maxRecDepth 100000 in
set_option maxHeartbeats 8000000 in
theorem product_calls (r1 r2 : Nat) (a b : Asc) (w : World) (h1 : MapIs w r1 a) (h2 : MapIs w r2 b) (pa : Pos a) (pb : Pos b) :
    Calls Try.prog 35 #[.map (some r1), .map (some r2)] w (ProdPost w a b) := by
  have hmm := @run_makeMap Try.prog
  have H2 := Lib.hid h2
  have l1 := Lib.hid h1.lt
  have l2 := Lib.hid h2.lt
  have PA := Lib.hid pa
  have PB := Lib.hid pb
  have hrg := run_range_ (h1.alloc (.map #[] 0))
  have P0 := ProdOut.start (r2 := r2) (b := b) h1
  clear h1 h2 pa pb
  go_enter Try.func35, Try.ntmps35
  go_wp2
  go_loopg [18] a.length (fun n v18 wr => ∃ (la : List Nat) (es : Asc), Hid (n = a.length - la.length) ∧ ProdOut w wr a b r1 r2 (w.heap.size + 1) la es)
  case atStart => exact ⟨[], [], Lib.hid (by simp), P0⟩
  case round =>
    clear P0 hrg hmm
    obtain ⟨la, es, N, P⟩ := hrel
    rcases P.ga.next with ⟨hn, hs⟩ | ⟨w1, i, x, c, hn, ho, he, hi, G1, hen, hlt, hv⟩
    · have R := P.done hs
      clear hs P
      go_wp2
      go_ret2
      exact R
    · obtain ⟨m2, I0⟩ := P.inner ho he G1 H2.out
      have hrg := run_range_ m2
      have HLT := Lib.hid hlt
      have HV := Lib.hid hv.1
      clear P ho he G1 m2 hlt hi hv
      obtain ⟨X, hX⟩ : ∃ X, X = x := ⟨_, rfl⟩
      rw [← hX] at I0
      have HX := Lib.hid hX
      clear hX
      obtain ⟨x0, x1, x2, x3, x4, x5, x6, x7, rfl⟩ := len8 x HV.out
      have hXl : Hid (X.length = 8) := Lib.hid (by rw [HX.out]; rfl)
      have hw2 : Hid (w1.alloc (.cells (exC X) 54) = w1.alloc (.cells #[.int .i64 x0, .int .i64 x1, .int .i64 x2, .int .i64 x3, .int .i64 x4, .int .i64 x5, .int .i64 x6, .int .i64 x7] 54)) := Lib.hid (by rw [HX.out]; rfl)
      rw [hw2.out] at I0
      simp only [exC, List.map_cons, List.map_nil] at hn hen hrg
      go_wp2
      obtain ⟨wo, rfl⟩ : ∃ wo : World, wo = wr := ⟨_, rfl⟩
      obtain ⟨go, rfl⟩ : ∃ go : Nat, go = gk := ⟨_, rfl⟩
      clear hw2
      obtain ⟨gx, hgx⟩ : ∃ gx, gx = w1.heap.size := ⟨_, rfl⟩
      simp only [← hgx] at *
      clear hgx
      go_loopg [25] b.length (fun n v25 wr => ∃ (lb : List Nat) (es2 : Asc), Hid (n = b.length - lb.length) ∧ ProdIn w wr a b r1 r2 (w.heap.size + 1) gx (gx + 1) la i (X, c) lb es2)
      case atStart => exact ⟨[], es, Lib.hid (by simp), I0⟩
      case round =>
        clear I0 hrg hen
        obtain ⟨lb, es2, N2, I⟩ := hrel
        rcases I.gb.next with ⟨hn2, hs⟩ | ⟨w3, j, y, d, hn2, ho, he, hj, G1, hen, hlt2, hv⟩
        · have R := I.done hs
          clear hs I
          go_wp2
          go_roundg (a.length - (la.length + 1))
          case measure => have := N.out; have := HLT.out; omega
          case rel => exact ⟨la ++ [i], es2, Lib.hid (by simp), R⟩
        · have A := I.at_ l1.out ho he hj G1
          have HLT2 := Lib.hid hlt2
          have HV2 := Lib.hid hv.1
          clear I ho he hj G1 hlt2 hv
          obtain ⟨Y, hY⟩ : ∃ Y, Y = y := ⟨_, rfl⟩
          rw [← hY] at A
          have HY := Lib.hid hY
          clear hY
          obtain ⟨y0, y1, y2, y3, y4, y5, y6, y7, rfl⟩ := len8 y HV2.out
          have hYl : Hid (Y.length = 8) := Lib.hid (by rw [HY.out]; rfl)
          have A2 := A.below (((Below.refl w3.heap.size w3).alloc (Nat.le_refl _) (.cells (exC Y) 54)).alloc (by simp) (.cells (exC [0, 0, 0, 0, 0, 0, 0, 0]) 54))
          have BY : Hid (((w3.alloc (.cells (exC Y) 54)).alloc (.cells (exC [0, 0, 0, 0, 0, 0, 0, 0]) 54)).heap[w3.heap.size]? = some (.cells (exC Y) 54 (0, 0))) := Lib.hid (by
            have h0 := heap_alloc_new w3 (.cells (exC Y) 54)
            rw [Below.heap_alloc _ _ _ (by simp)]
            exact h0)
          have BE : Hid (((w3.alloc (.cells (exC Y) 54)).alloc (.cells (exC [0, 0, 0, 0, 0, 0, 0, 0]) 54)).heap[w3.heap.size + 1]? = some (.cells (exC [0, 0, 0, 0, 0, 0, 0, 0]) 54 (0, 0))) := Lib.hid (by
            have h0 := heap_alloc_new (w3.alloc (.cells (exC Y) 54)) (.cells (exC [0, 0, 0, 0, 0, 0, 0, 0]) 54)
            simpa using h0)
          have hgy : Hid (gx + 1 < w3.heap.size ∧ w.heap.size < w3.heap.size ∧ gx ≠ w3.heap.size + 1) := Lib.hid (by
            have h1 := A.gb.ltIt
            have h2 := A.o1
            have h3 := A.o2
            omega)
          clear A
          have hw4 : Hid ((w3.alloc (.cells (exC Y) 54)).alloc (.cells (exC [0, 0, 0, 0, 0, 0, 0, 0]) 54) = (w3.alloc (.cells #[.int .i64 y0, .int .i64 y1, .int .i64 y2, .int .i64 y3, .int .i64 y4, .int .i64 y5, .int .i64 y6, .int .i64 y7] 54)).alloc (.cells #[.int .i64 0, .int .i64 0, .int .i64 0, .int .i64 0, .int .i64 0, .int .i64 0, .int .i64 0, .int .i64 0] 54)) := Lib.hid (by rw [HY.out]; rfl)
          obtain ⟨w4, hw⟩ : ∃ w4, w4 = (w3.alloc (.cells (exC Y) 54)).alloc (.cells (exC [0, 0, 0, 0, 0, 0, 0, 0]) 54) := ⟨_, rfl⟩
          rw [← hw] at A2 BY BE hw4
          have H4 := Lib.hid (hw.trans (hw.symm.trans hw4.out))
          clear hw hw4
          simp only [exC, List.map_cons, List.map_nil] at hn2 hen
          go_wp2
          simp only [← H4.out]
          obtain ⟨wi, rfl⟩ : ∃ wi : World, wi = wr := ⟨_, rfl⟩
          obtain ⟨gi, rfl⟩ : ∃ gi : Nat, gi = gk := ⟨_, rfl⟩
          clear H4
          obtain ⟨gy, hgy'⟩ : ∃ gy, gy = w3.heap.size := ⟨_, rfl⟩
          simp only [← hgy'] at *
          clear hgy'
          go_loopg [30] 8 (fun n v30 wr => ∃ m : Nat, v30 = .int .i64 m ∧ Hid (m ≤ 8) ∧ Hid (n = 8 - m) ∧ ProdAt w wr a b r1 r2 (w.heap.size + 1) gx (gx + 1) la i (X, c) lb j (Y, d) es2 ∧ Hid (wr.heap[gy]? = some (.cells (exC Y) 54 (0, 0))) ∧ Hid (wr.heap[gy + 1]? = some (.cells (exC (upTo X Y m)) 54 (0, 0))) ∧ Hid (∀ v ∈ (vadd X Y).take m, v ≤ 60))
          case atStart => exact ⟨0, rfl, Lib.hid (by omega), Lib.hid rfl, A2, BY, Lib.hid (by rw [upTo_zero]; exact BE.out), Lib.hid (by simp)⟩
          case round =>
            clear A2 BY BE hen hn2
            obtain ⟨m, rfl, HM, HN, A, BY, BE, HF⟩ := hrel
            by_cases hm : m = 8
            · subst hm
              rw [upTo_all hXl.out hYl.out] at BE
              have hf : Hid (∀ v ∈ vadd X Y, v ≤ 60) := Lib.hid (by
                have := HF.out
                rwa [List.take_of_length_le (by rw [vadd_len hXl.out hYl.out]; omega)] at this)
              clear HF HM HN BY
              obtain ⟨z0, z1, z2, z3, z4, z5, z6, z7, hz⟩ := len8 (vadd X Y) (vadd_len hXl.out hYl.out)
              have hvec := A.vec PA.out PB.out
              have hcd := PA.out _ (List.mem_of_getElem? A.pi)
              have hdd := PB.out _ (List.mem_of_getElem? A.qj)
              simp only at hcd hdd hvec
              have HT := Lib.hid (times_calls c d wr (by omega) (by omega) (by omega) (by omega))
              have h8 : decide ((8 : Int) < 8) = false := by decide
              have HZ := Lib.hid hz
              by_cases hp : c * d ≤ 1000000000000000
              · have hpos : 0 < c * d := Int.mul_pos hcd.1 hdd.1
                have hb := get_bounds A.rep.pos (vadd X Y)
                by_cases hok : getA es2 (vadd X Y) + c * d ≤ 1000000000000000 ∧ (setA es2 (vadd X Y) (getA es2 (vadd X Y) + c * d)).length ≤ 200
                · have HA : ∀ w5, Below wr.heap.size wr w5 → Calls Try.prog 40 #[.map (some w.heap.size), .agg (exC (vadd X Y)), .int .i64 (c * d)] w5 fun e w' => e = .returned (.bool true) ∧ ProdIn w w' a b r1 r2 (w.heap.size + 1) gx (gx + 1) la i (X, c) (lb ++ [j]) (setA es2 (vadd X Y) (getA es2 (vadd X Y) + c * d)) := by
                    intro w5 hb5
                    have A5 := A.below hb5
                    refine (add_calls w.heap.size es2 (vadd X Y) (c * d) w5 A5.m hvec hb.1 hb.2.1 (by omega) hp (by have := A5.rep.len; omega)).mono ?_
                    rintro e w' ⟨rfl, h1, h2⟩
                    exact ⟨by rw [decide_eq_true hok.1, decide_eq_true hok.2]; rfl, A5.more PA.out PB.out l1.out l2.out hf.out hok h1 h2⟩
                  have HA' := Lib.hid HA
                  have HP := Lib.hid hp
                  clear HA hok hb hpos hvec hcd hdd A hz hp
                  simp only [HZ.out, exC, List.map_cons, List.map_nil] at HA' BE
                  generalize c * d = cd at *
                  go_wp2_with (first | (go_at_call 41; refine HT.out.mono ?_; rintro e w5 ⟨nn, rfl, hnn, hb5⟩; obtain rfl := hnn HP.out; have cc := cells8 ((hb5.block _ (blk_lt' BE.out)).trans BE.out); obtain ⟨cc0, cc1, cc2, cc3, cc4, cc5, cc6, cc7⟩ := cc; have hdp := decide_eq_true HP.out) | (go_at_call 40; refine (HA'.out _ hb5).mono ?_; rintro e w6 ⟨rfl, hin⟩))
                  go_roundg (b.length - (lb.length + 1))
                  case measure => have := N2.out; have := HLT2.out; omega
                  case rel => exact ⟨lb ++ [j], _, Lib.hid (by simp), hin⟩
                · have RB := Lib.hid (A.wrong PA.out PB.out hvec hok)
                  have HA : ∀ w5, Below wr.heap.size wr w5 → Calls Try.prog 40 #[.map (some w.heap.size), .agg (exC (vadd X Y)), .int .i64 (c * d)] w5 fun e w' => e = .returned (.bool false) ∧ Below w.heap.size w w' := by
                    intro w5 hb5
                    have A5 := A.below hb5
                    refine (add_calls w.heap.size es2 (vadd X Y) (c * d) w5 A5.m hvec hb.1 hb.2.1 (by omega) hp (by have := A5.rep.len; omega)).mono ?_
                    rintro e w' ⟨rfl, h1, h2⟩
                    exact ⟨by rw [← Bool.decide_and, decide_eq_false hok], h2.below A5.bel A5.bel.size (Nat.le_refl _)⟩
                  have HA' := Lib.hid HA
                  have HP := Lib.hid hp
                  clear HA hok hb hpos hvec hcd hdd A hz hp
                  simp only [HZ.out, exC, List.map_cons, List.map_nil] at HA' BE
                  generalize c * d = cd at *
                  go_wp2_with (first | (go_at_call 41; refine HT.out.mono ?_; rintro e w5 ⟨nn, rfl, hnn, hb5⟩; obtain rfl := hnn HP.out; have cc := cells8 ((hb5.block _ (blk_lt' BE.out)).trans BE.out); obtain ⟨cc0, cc1, cc2, cc3, cc4, cc5, cc6, cc7⟩ := cc; have hdp := decide_eq_true HP.out) | (go_at_call 40; refine (HA'.out _ hb5).mono ?_; rintro e w6 ⟨rfl, hin⟩))
                  go_ret2
                  exact ProdPost.bad hin (.inl RB.out)
              · have RB := Lib.hid (A.great PA.out PB.out hp)
                have WB := Lib.hid A.bel
                have HP := Lib.hid (decide_eq_false hp)
                clear hvec hcd hdd A hz hp BE
                generalize c * d = cd at *
                go_wp2_with (go_at_call 41; refine HT.out.mono ?_; rintro e w5 ⟨nn, rfl, hnn, hb5⟩; have hdp := HP.out)
                go_ret2
                exact ProdPost.bad (WB.out.trans ⟨hb5.os, hb5.tape, hb5.output, hb5.size, fun k hk => hb5.block k (Nat.lt_of_lt_of_le hk WB.out.size)⟩) (.inl RB.out)
            · have hm8 : m < 8 := by have := HM.out; omega
              clear hm
              have hmb : decide ((m : Int) < 8) = true := decide_eq_true (by omega)
              obtain ⟨xv, hxv⟩ : ∃ xv, X[m]? = some xv := ⟨_, List.getElem?_eq_getElem (by rw [hXl.out]; exact hm8)⟩
              obtain ⟨yv, hyv⟩ : ∃ yv, Y[m]? = some yv := ⟨_, List.getElem?_eq_getElem (by rw [hYl.out]; exact hm8)⟩
              have hxb := (PA.out _ (List.mem_of_getElem? A.pi)).2.2 xv (List.mem_of_getElem? hxv)
              have hyb := (PB.out _ (List.mem_of_getElem? A.qj)).2.2 yv (List.mem_of_getElem? hyv)
              have cx : wr.cell? ⟨gx, m, none⟩ = some (.int .i64 xv) := by rw [cell_of_row _ _ _ _ _ _ A.bx, exC_get, hxv]; rfl
              have cy : wr.cell? ⟨gy, m, none⟩ = some (.int .i64 yv) := by rw [cell_of_row _ _ _ _ _ _ BY.out, exC_get, hyv]; rfl
              obtain ⟨ev, ce⟩ : ∃ ev, wr.cell? ⟨gy + 1, m, none⟩ = some (.int .i64 ev) := by
                rw [cell_of_row _ _ _ _ _ _ BE.out, exC_get]
                have hl := upTo_len hXl.out hYl.out (Nat.le_of_lt hm8)
                exact ⟨(upTo X Y m)[m]'(by rw [hl]; exact hm8), by rw [List.getElem?_eq_getElem (by rw [hl]; exact hm8)]; rfl⟩
              have fe : wr.frozen? ⟨gy + 1, m, none⟩ = false := frozen_of_row _ _ _ _ _ BE.out
              have hs := vadd_get hxv hyv
              have HS := Lib.hid hs
              have hb := But.store wr (gy + 1) m (.int .i64 (xv + yv))
              have A2 := A.but hb (by have := hgy.out; omega) l1.out l2.out
              have BY2 : Hid ((wr.drew.setCell ⟨gy + 1, m, none⟩ (.int .i64 (xv + yv))).heap[gy]? = some (.cells (exC Y) 54 (0, 0))) := Lib.hid ((hb.block gy (blk_lt' BY.out) (by omega)).trans BY.out)
              have BE2 : Hid ((wr.drew.setCell ⟨gy + 1, m, none⟩ (.int .i64 (xv + yv))).heap[gy + 1]? = some (.cells (exC (upTo X Y (m + 1))) 54 (0, 0))) := Lib.hid (by
                have h0 := heap_setCell_same wr.drew (gy + 1) m (exC (upTo X Y m)) 54 (.int .i64 (xv + yv)) BE.out
                rwa [exC_set, upTo_set hXl.out hYl.out hm8 hs] at h0)
              clear hxv hyv hs hb BY BE A
              go_wp2
              go_region
              go_wp2
              · have h60 : 60 < xv + yv := by assumption
                go_ret2
                exact ProdPost.bad A2.bel (.inr (A2.steep HS.out h60))
              · have h60 : xv + yv ≤ 60 := by assumption
                have HF2 : Hid (∀ v ∈ (vadd X Y).take (m + 1), v ≤ 60) := Lib.hid fun v hv => by
                  rw [List.take_add_one, HS.out] at hv
                  rcases List.mem_append.1 hv with hv | hv
                  · exact HF.out v hv
                  · simp only [Option.toList_some, List.mem_singleton] at hv
                    omega
                go_roundg (8 - (m + 1))
                case measure => have := HN.out; omega
                case rel => exact ⟨m + 1, by go_num, Lib.hid (by omega), Lib.hid rfl, A2, BY2, BE2, HF2⟩
end Go.Proofs.Ytjnplfbggklkfaa
