/- Texts of this claim, one behind the other: RgNormal, Rg4, Rg3, Rg8, RgVerdict, Rg1, Rg2. -/
import Derived.Test.YtjnplfbggklkfaaEq1

/- The ring's normal: the normal form of an expression, and when there is none. -/
namespace Go.Proofs.Ytjnplfbggklkfaa
open Go.RowKit Go.Proofs.YtjnplfbggklkfaaW.PrintWords
open Go.Proofs.Ytjnplfbggklkfaa.Rg (S24 k24 at24 cellB below_then')
set_option linter.unusedVariables false
set_option linter.unusedSimpArgs false

theorem run_first {w : World} {r : Nat} (hm : MapIs w r []) {k : List Int} (hk : Vec k) (c : Int) :
    (Instr.mapUpdate 41 (.map (some r)) (.agg (exC k)) (.int .i64 c)).run Try.prog w = .ok () (putMap w r [(k, c)]) := by
  obtain ⟨l, hl⟩ := key54 k hk
  have hc := law54.check w false hl
  have hf := run_find [] k hk hm.vec hm.nd w
  have hg : (getObj r).run Try.prog w = .ok (.map (ents []) 0) w := by simp [getObj, Sem.run, hm.blk]
  have hs : ∀ o, (setObj r o).run Try.prog w = .ok () { w with heap := w.heap.setIfInBounds r o } := by
    intro o
    simp [setObj, Sem.run, hm.blk]
  simp only [Instr.mapUpdate, Sem.run_bind, run_underlying Try.underlying41, Result.andThen_ok, hg, hc, hf]
  simp only [hasA, Bool.false_eq_true, if_false, hs]
  have := ents_push [] k c
  rw [show ([] : Asc).length = 0 from rfl] at this
  rw [this]
  rfl
theorem first_is {w : World} : MapIs (w.alloc (.map #[] 0)) w.heap.size [] := ⟨by
  have := heap_alloc_new w (.map #[] 0)
  exact this, by simp, by simp⟩
theorem one_is {w : World} {r : Nat} {o : Obj} (h : w.heap[r]? = some o) {k : List Int} (hk : Vec k) (c : Int) : MapIs (putMap w r [(k, c)]) r [(k, c)] :=
  putMap_is h _ (fun p hp => by rw [List.mem_singleton.1 hp]; exact hk) (by simp)
theorem rep_one {k : List Int} (hk : Vec k) (hks : ∀ v ∈ k, 0 ≤ v ∧ v ≤ 60) {c : Int} (hc : 0 < c) (h1 : c ≤ 1000000000000000) : Rep [(k, c)] (coef [(k, c)]) := by
  refine ⟨by simp, fun p hp => by rw [List.mem_singleton.1 hp]; exact ⟨hc, h1, hks⟩, by simp, fun k' => (coef_get (by simp) k').symm⟩
theorem rep_nil : Rep [] (coef []) := Rep.nil

def NormPost (w : World) (x : S24) (e : Ending) (w' : World) : Prop :=
  Below w.heap.size w w' ∧
  ((e = .returned (.tuple #[.map none, .bool false]) ∧ Bad x) ∨
   ∃ r es, e = .returned (.tuple #[.map (some r), .bool true]) ∧ w.heap.size ≤ r ∧ MapIs w' r es ∧ Rep es (coef (den x)) ∧ ¬ Bad x)
theorem NormPost.bad {w : World} {x : S24} {w' : World} (h : Below w.heap.size w w') (hb : Bad x) : NormPost w x (.returned (.tuple #[.map none, .bool false])) w' := ⟨h, .inl ⟨rfl, hb⟩⟩
theorem NormPost.good {w : World} {x : S24} {w' : World} {r : Nat} {es : Asc} (h : Below w.heap.size w w') (hr : w.heap.size ≤ r) (hm : MapIs w' r es) (hp : Rep es (coef (den x))) (hf : ¬ Bad x) : NormPost w x (.returned (.tuple #[.map (some r), .bool true])) w' :=
  ⟨h, .inr ⟨r, es, rfl, hr, hm, hp, hf⟩⟩
def NormAt (x : S24) : Prop := good x = true → ∀ (A : Option Addr) (c : Nat) (w : World), Kd.C k24 w A x.f2.length x.f2 → x.f2.length ≤ c →
  Calls Try.prog 27 #[.agg #[.int .i64 x.f0, .int .i64 x.f1, .slice A x.f2.length c]] w (NormPost w x)
theorem size_alloc (w : World) (o : Obj) : (w.alloc o).heap.size = w.heap.size + 1 := by simp
theorem vec_zeros : Vec zeros8 := ⟨rfl, by decide⟩
theorem below_alloc_put {w : World} (n : Nat) {v : World} (h : Below w.heap.size w v) (o : Obj) (es : Asc) : Below w.heap.size w (putMap (v.alloc o) v.heap.size es) := by
  have h1 : Below w.heap.size w (v.alloc o) := h.alloc h.size o
  exact (putMap_only (v.alloc o) v.heap.size es).below h1 h.size
theorem vec_unit {n : Int} (h0 : 0 ≤ n) (h8 : n < 8) : Vec (unit8 n) ∧ ∀ v ∈ unit8 n, 0 ≤ v ∧ v ≤ 60 := by
  have : n = 0 ∨ n = 1 ∨ n = 2 ∨ n = 3 ∨ n = 4 ∨ n = 5 ∨ n = 6 ∨ n = 7 := by omega
  rcases this with rfl | rfl | rfl | rfl | rfl | rfl | rfl | rfl <;> exact ⟨⟨rfl, by decide⟩, by decide⟩

set_option maxHeartbeats 4000000 in
set_option maxRecDepth 100000 in
theorem num_calls {x : S24} (hx : good x = true) (h0 : x.f0 = 1) (h2 : x.f2 = []) (h3 : 0 ≤ x.f1) (h4 : x.f1 ≤ 1000000) (h5 : den x = (if x.f1 = 0 then [] else [(zeros8, x.f1)])) (h6 : ¬ Bad x) (A : Option Addr) (c : Nat) (w : World) :
    Calls Try.prog 27 #[.agg #[.int .i64 x.f0, .int .i64 x.f1, .slice A x.f2.length c]] w (NormPost w x) := by
  have hu24 := Try.underlying24
  have hmm := @run_makeMap Try.prog
  by_cases hn : x.f1 = 0
  · have b0 : (x.f1 == 0) = true := beq_iff_eq.2 hn
    rw [if_pos hn] at h5
    rw [hn, h0]
    have R : Hid (∀ w', Below w.heap.size w w' → NormPost w x (.returned (.tuple #[.map (some w'.heap.size), .bool true])) (w'.alloc (.map #[] 0))) := Lib.hid fun w' hb =>
      NormPost.good (hb.alloc hb.size _) hb.size first_is (h5 ▸ rep_nil) h6
    have HB : Hid (Below w.heap.size w (w.alloc (.cells #[.int .i64 1, .int .i64 0, .slice A x.f2.length c] 24))) := Lib.hid ((Below.refl _ _).alloc (Nat.le_refl _) _)
    clear hx h2 h3 h4 h5 h6 hn b0 h0
    go_enter Try.func27, Try.ntmps27
    go_wp2
    go_ret2
    have h := R.out _ HB.out
    simp only [size_alloc] at h
    exact h
  · have b0 : (x.f1 == 0) = false := beq_eq_false_iff_ne.2 hn
    rw [if_neg hn] at h5
    have hb : Below w.heap.size w (w.alloc (.cells #[.int .i64 1, .int .i64 x.f1, .slice A x.f2.length c] 24)) := (Below.refl _ _).alloc (Nat.le_refl _) _
    rw [h0]
    generalize hw1 : w.alloc (.cells #[.int .i64 1, .int .i64 x.f1, .slice A x.f2.length c] 24) = w1 at hb
    have R := Lib.hid (NormPost.good (x := x) (below_alloc_put 0 hb (.map #[] 0) [(zeros8, x.f1)]) hb.size (one_is first_is.blk vec_zeros x.f1) (h5 ▸ rep_one vec_zeros (by decide) (by omega) (by omega)) h6)
    have hrun := run_first (first_is (w := w1)) vec_zeros x.f1
    simp only [exC, zeros8, List.map_cons, List.map_nil] at hrun
    rw [← hw1] at hrun R
    simp only [size_alloc] at hrun R
    clear hx h2 h3 h4 h5 h6 hn hb hw1 h0
    go_enter Try.func27, Try.ntmps27
    go_wp2
    go_ret2
    exact R.out
set_option maxHeartbeats 4000000 in
set_option maxRecDepth 100000 in
theorem var_calls {x : S24} (hx : good x = true) (h0 : x.f0 = 2) (h2 : x.f2 = []) (h3 : 0 ≤ x.f1) (h4 : x.f1 < 8) (h5 : den x = [(unit8 x.f1, 1)]) (h6 : ¬ Bad x) (A : Option Addr) (c : Nat) (w : World) :
    Calls Try.prog 27 #[.agg #[.int .i64 x.f0, .int .i64 x.f1, .slice A x.f2.length c]] w (NormPost w x) := by
  have hu24 := Try.underlying24
  have hmm := @run_makeMap Try.prog
  obtain ⟨hv, hks⟩ := vec_unit h3 h4
  rw [h0]
  have hone : Rep [(unit8 x.f1, 1)] (coef (den x)) := h5 ▸ rep_one hv hks (by omega) (by omega)
  have hrun : ∀ w1 : World, (Instr.mapUpdate 41 (.map (some w1.heap.size)) (.agg (exC (unit8 x.f1))) (.int .i64 1)).run Try.prog (w1.alloc (.map #[] 0)) = .ok () (putMap (w1.alloc (.map #[] 0)) w1.heap.size [(unit8 x.f1, 1)]) := fun w1 => run_first first_is hv 1
  have R : Hid (∀ w', Below w.heap.size w w' → NormPost w x (.returned (.tuple #[.map (some w'.heap.size), .bool true])) (putMap (w'.alloc (.map #[] 0)) w'.heap.size [(unit8 x.f1, 1)])) := Lib.hid fun w' hb =>
    NormPost.good (below_alloc_put 0 hb (.map #[] 0) _) hb.size (one_is first_is.blk hv 1) hone h6
  have B : Hid (Below w.heap.size w ((w.alloc (.cells #[.int .i64 2, .int .i64 x.f1, .slice A x.f2.length c] 24)).alloc (.cells #[.int .i64 0, .int .i64 0, .int .i64 0, .int .i64 0, .int .i64 0, .int .i64 0, .int .i64 0, .int .i64 0] 54))) := Lib.hid (((Below.refl _ _).alloc (Nat.le_refl _) _).alloc (by simp) _)
  clear hx h2 h5 h6 h0 hone hv hks
  generalize x.f1 = n at *
  have : n = 0 ∨ n = 1 ∨ n = 2 ∨ n = 3 ∨ n = 4 ∨ n = 5 ∨ n = 6 ∨ n = 7 := by omega
  clear h3 h4
  rcases this with rfl | rfl | rfl | rfl | rfl | rfl | rfl | rfl
  · have hrun := hrun ((w.alloc (.cells #[.int .i64 2, .int .i64 0, .slice A x.f2.length c] 24)).alloc (.cells #[.int .i64 1, .int .i64 0, .int .i64 0, .int .i64 0, .int .i64 0, .int .i64 0, .int .i64 0, .int .i64 0] 54))
    have R := R.out ((w.alloc (.cells #[.int .i64 2, .int .i64 0, .slice A x.f2.length c] 24)).alloc (.cells #[.int .i64 1, .int .i64 0, .int .i64 0, .int .i64 0, .int .i64 0, .int .i64 0, .int .i64 0, .int .i64 0] 54)) (((Below.refl _ _).alloc (Nat.le_refl _) _).alloc (by simp) _)
    rw [show unit8 0 = [1, 0, 0, 0, 0, 0, 0, 0] from rfl] at hrun R
    simp only [exC, List.map_cons, List.map_nil, size_alloc] at hrun R
    clear B
    have R := Lib.hid R
    go_enter Try.func27, Try.ntmps27
    go_wp2
    go_ret2
    exact R.out
  · have hrun := hrun ((w.alloc (.cells #[.int .i64 2, .int .i64 1, .slice A x.f2.length c] 24)).alloc (.cells #[.int .i64 0, .int .i64 1, .int .i64 0, .int .i64 0, .int .i64 0, .int .i64 0, .int .i64 0, .int .i64 0] 54))
    have R := R.out ((w.alloc (.cells #[.int .i64 2, .int .i64 1, .slice A x.f2.length c] 24)).alloc (.cells #[.int .i64 0, .int .i64 1, .int .i64 0, .int .i64 0, .int .i64 0, .int .i64 0, .int .i64 0, .int .i64 0] 54)) (((Below.refl _ _).alloc (Nat.le_refl _) _).alloc (by simp) _)
    rw [show unit8 1 = [0, 1, 0, 0, 0, 0, 0, 0] from rfl] at hrun R
    simp only [exC, List.map_cons, List.map_nil, size_alloc] at hrun R
    clear B
    have R := Lib.hid R
    go_enter Try.func27, Try.ntmps27
    go_wp2
    go_ret2
    exact R.out
  · have hrun := hrun ((w.alloc (.cells #[.int .i64 2, .int .i64 2, .slice A x.f2.length c] 24)).alloc (.cells #[.int .i64 0, .int .i64 0, .int .i64 1, .int .i64 0, .int .i64 0, .int .i64 0, .int .i64 0, .int .i64 0] 54))
    have R := R.out ((w.alloc (.cells #[.int .i64 2, .int .i64 2, .slice A x.f2.length c] 24)).alloc (.cells #[.int .i64 0, .int .i64 0, .int .i64 1, .int .i64 0, .int .i64 0, .int .i64 0, .int .i64 0, .int .i64 0] 54)) (((Below.refl _ _).alloc (Nat.le_refl _) _).alloc (by simp) _)
    rw [show unit8 2 = [0, 0, 1, 0, 0, 0, 0, 0] from rfl] at hrun R
    simp only [exC, List.map_cons, List.map_nil, size_alloc] at hrun R
    clear B
    have R := Lib.hid R
    go_enter Try.func27, Try.ntmps27
    go_wp2
    go_ret2
    exact R.out
  · have hrun := hrun ((w.alloc (.cells #[.int .i64 2, .int .i64 3, .slice A x.f2.length c] 24)).alloc (.cells #[.int .i64 0, .int .i64 0, .int .i64 0, .int .i64 1, .int .i64 0, .int .i64 0, .int .i64 0, .int .i64 0] 54))
    have R := R.out ((w.alloc (.cells #[.int .i64 2, .int .i64 3, .slice A x.f2.length c] 24)).alloc (.cells #[.int .i64 0, .int .i64 0, .int .i64 0, .int .i64 1, .int .i64 0, .int .i64 0, .int .i64 0, .int .i64 0] 54)) (((Below.refl _ _).alloc (Nat.le_refl _) _).alloc (by simp) _)
    rw [show unit8 3 = [0, 0, 0, 1, 0, 0, 0, 0] from rfl] at hrun R
    simp only [exC, List.map_cons, List.map_nil, size_alloc] at hrun R
    clear B
    have R := Lib.hid R
    go_enter Try.func27, Try.ntmps27
    go_wp2
    go_ret2
    exact R.out
  · have hrun := hrun ((w.alloc (.cells #[.int .i64 2, .int .i64 4, .slice A x.f2.length c] 24)).alloc (.cells #[.int .i64 0, .int .i64 0, .int .i64 0, .int .i64 0, .int .i64 1, .int .i64 0, .int .i64 0, .int .i64 0] 54))
    have R := R.out ((w.alloc (.cells #[.int .i64 2, .int .i64 4, .slice A x.f2.length c] 24)).alloc (.cells #[.int .i64 0, .int .i64 0, .int .i64 0, .int .i64 0, .int .i64 1, .int .i64 0, .int .i64 0, .int .i64 0] 54)) (((Below.refl _ _).alloc (Nat.le_refl _) _).alloc (by simp) _)
    rw [show unit8 4 = [0, 0, 0, 0, 1, 0, 0, 0] from rfl] at hrun R
    simp only [exC, List.map_cons, List.map_nil, size_alloc] at hrun R
    clear B
    have R := Lib.hid R
    go_enter Try.func27, Try.ntmps27
    go_wp2
    go_ret2
    exact R.out
  · have hrun := hrun ((w.alloc (.cells #[.int .i64 2, .int .i64 5, .slice A x.f2.length c] 24)).alloc (.cells #[.int .i64 0, .int .i64 0, .int .i64 0, .int .i64 0, .int .i64 0, .int .i64 1, .int .i64 0, .int .i64 0] 54))
    have R := R.out ((w.alloc (.cells #[.int .i64 2, .int .i64 5, .slice A x.f2.length c] 24)).alloc (.cells #[.int .i64 0, .int .i64 0, .int .i64 0, .int .i64 0, .int .i64 0, .int .i64 1, .int .i64 0, .int .i64 0] 54)) (((Below.refl _ _).alloc (Nat.le_refl _) _).alloc (by simp) _)
    rw [show unit8 5 = [0, 0, 0, 0, 0, 1, 0, 0] from rfl] at hrun R
    simp only [exC, List.map_cons, List.map_nil, size_alloc] at hrun R
    clear B
    have R := Lib.hid R
    go_enter Try.func27, Try.ntmps27
    go_wp2
    go_ret2
    exact R.out
  · have hrun := hrun ((w.alloc (.cells #[.int .i64 2, .int .i64 6, .slice A x.f2.length c] 24)).alloc (.cells #[.int .i64 0, .int .i64 0, .int .i64 0, .int .i64 0, .int .i64 0, .int .i64 0, .int .i64 1, .int .i64 0] 54))
    have R := R.out ((w.alloc (.cells #[.int .i64 2, .int .i64 6, .slice A x.f2.length c] 24)).alloc (.cells #[.int .i64 0, .int .i64 0, .int .i64 0, .int .i64 0, .int .i64 0, .int .i64 0, .int .i64 1, .int .i64 0] 54)) (((Below.refl _ _).alloc (Nat.le_refl _) _).alloc (by simp) _)
    rw [show unit8 6 = [0, 0, 0, 0, 0, 0, 1, 0] from rfl] at hrun R
    simp only [exC, List.map_cons, List.map_nil, size_alloc] at hrun R
    clear B
    have R := Lib.hid R
    go_enter Try.func27, Try.ntmps27
    go_wp2
    go_ret2
    exact R.out
  · have hrun := hrun ((w.alloc (.cells #[.int .i64 2, .int .i64 7, .slice A x.f2.length c] 24)).alloc (.cells #[.int .i64 0, .int .i64 0, .int .i64 0, .int .i64 0, .int .i64 0, .int .i64 0, .int .i64 0, .int .i64 1] 54))
    have R := R.out ((w.alloc (.cells #[.int .i64 2, .int .i64 7, .slice A x.f2.length c] 24)).alloc (.cells #[.int .i64 0, .int .i64 0, .int .i64 0, .int .i64 0, .int .i64 0, .int .i64 0, .int .i64 0, .int .i64 1] 54)) (((Below.refl _ _).alloc (Nat.le_refl _) _).alloc (by simp) _)
    rw [show unit8 7 = [0, 0, 0, 0, 0, 0, 0, 1] from rfl] at hrun R
    simp only [exC, List.map_cons, List.map_nil, size_alloc] at hrun R
    clear B
    have R := Lib.hid R
    go_enter Try.func27, Try.ntmps27
    go_wp2
    go_ret2
    exact R.out

theorem Pos.plus {a : Asc} (h : Pos a) : Plus a := fun p hp => (h p hp).1
theorem sum_law {x y z : S24} {a b : Asc} (pa : Rep a (coef (den y))) (pb : Rep b (coef (den z))) (hd : den x = den y ++ den z) (k : List Int) : getA a k + getA b k = coef (den x) k := by
  rw [hd, coef_append, pa.get, pb.get]
theorem prod_law {x y z : S24} {a b : Asc} (pa : Rep a (coef (den y))) (pb : Rep b (coef (den z))) (py : Plus (den y)) (pz : Plus (den z)) (hd : den x = mulL (den y) (den z)) :
    (∀ k, coef (mulL a b) k = coef (den x) k) ∧ (Steep (mulL a b) ↔ Steep (den x)) := by
  have ha : ∀ k, coef a k = coef (den y) k := fun k => (coef_get pa.nd k).trans (pa.get k)
  have hb : ∀ k, coef b k = coef (den z) k := fun k => (coef_get pb.nd k).trans (pb.get k)
  rw [hd]
  exact ⟨fun k => mul_congr ha hb k, steep_congr pa.pos.plus py pb.pos.plus pz ha hb⟩
/-- What the halves come to, and the whole. -/
structure Halves (x y z : S24) (w w1 : World) : Prop where
  iff : (Bad x ↔ (Bad y ∨ Bad z) ∨ (x.f0 = 3 ∧ Big (coef (den x))) ∨ (x.f0 = 4 ∧ (Big (coef (den x)) ∨ Steep (den x))))
  d : den x = (if x.f0 = 3 then den y ++ den z else mulL (den y) (den z))
  py : Plus (den y)
  pz : Plus (den z)
  b1 : Below w.heap.size w w1
theorem Halves.badY {x y z : S24} {w w1 w2 w3 : World} (h : Halves x y z w w1) (h1 : Below w1.heap.size w1 w2) (h2 : Below w2.heap.size w2 w3) (hb : Bad y ∨ Bad z) : NormPost w x (.returned (.tuple #[.map none, .bool false])) w3 :=
  NormPost.bad (below_then' (below_then' h.b1 h1) h2) (h.iff.2 (.inl hb))
theorem Halves.sum {x y z : S24} {w w1 w2 w3 w4 : World} (h : Halves x y z w w1) (h1 : Below w1.heap.size w1 w2) (h2 : Below w2.heap.size w2 w3) (h0 : x.f0 = 3) {a b : Asc} (pa : Rep a (coef (den y))) (pb : Rep b (coef (den z)))
    (ny : ¬ Bad y) (nz : ¬ Bad z) {e : Ending} (hp : PlusPost w3 a b e w4) : NormPost w x e w4 := by
  have hd := h.d
  rw [if_pos h0] at hd
  have hs := sum_law (x := x) pa pb hd
  have hB := below_then' (below_then' h.b1 h1) h2
  obtain ⟨hb, ⟨rfl, hbig⟩ | ⟨r, es, rfl, hr, hm, hp⟩⟩ := hp
  · exact NormPost.bad (below_then' hB hb) (h.iff.2 (.inr (.inl ⟨h0, hbig.congr hs⟩)))
  · have hp := hp.congr hs
    refine NormPost.good (below_then' hB hb) (Nat.le_trans hB.size hr) hm hp fun hbad => ?_
    rcases h.iff.1 hbad with (h | h) | ⟨_, h⟩ | ⟨h, _⟩
    · exact ny h
    · exact nz h
    · exact hp.not_big h
    · omega
theorem Halves.prod {x y z : S24} {w w1 w2 w3 w4 : World} (h : Halves x y z w w1) (h1 : Below w1.heap.size w1 w2) (h2 : Below w2.heap.size w2 w3) (h0 : x.f0 = 4) {a b : Asc} (pa : Rep a (coef (den y))) (pb : Rep b (coef (den z)))
    (ny : ¬ Bad y) (nz : ¬ Bad z) {e : Ending} (hp : ProdPost w3 a b e w4) : NormPost w x e w4 := by
  have hd := h.d
  rw [if_neg (by omega)] at hd
  have hs := prod_law (x := x) pa pb h.py h.pz hd
  have hB := below_then' (below_then' h.b1 h1) h2
  obtain ⟨hb, ⟨rfl, hbig⟩ | ⟨r, es, rfl, hr, hm, hp, hf⟩⟩ := hp
  · refine NormPost.bad (below_then' hB hb) (h.iff.2 (.inr (.inr ⟨h0, ?_⟩)))
    rcases hbig with hb | hb
    · exact .inl (hb.congr hs.1)
    · exact .inr (hs.2.1 hb)
  · have hp := hp.congr hs.1
    refine NormPost.good (below_then' hB hb) (Nat.le_trans hB.size hr) hm hp fun hbad => ?_
    rcases h.iff.1 hbad with (h | h) | ⟨h, _⟩ | ⟨_, h | h⟩
    · exact ny h
    · exact nz h
    · omega
    · exact hp.not_big h
    · exact hf.not_steep (hs.2.2 h)
set_option maxHeartbeats 4000000 in
set_option maxRecDepth 100000 in
theorem norm_at : ∀ (n : Nat) (x : S24), SizeOf.sizeOf x < n → NormAt x := by
  intro n
  induction n with
  | zero => intro x h; exact absurd h (by omega)
  | succ n ih =>
    intro x hx hg A c w hC hc
    rcases good_cases hg with ⟨h0, h2, h3, h4, h5, h6⟩ | ⟨h0, h2, h3, h4, h5, h6⟩ | ⟨y, z, h0, h1, h2, gy, gz, hd, hb⟩
    · exact num_calls hg h0 h2 h3 h4 h5 h6 A c w
    · exact var_calls hg h0 h2 h3 h4 h5 h6 A c w
    · have hs : SizeOf.sizeOf y < SizeOf.sizeOf x ∧ SizeOf.sizeOf z < SizeOf.sizeOf x := by
        obtain ⟨op, m, l⟩ := x
        simp only at h2
        subst h2
        simp
        omega
      have hy := ih y (by omega) gy
      have hz := ih z (by omega) gz
      have py := den_plus' gy
      have pz := den_plus' gz
      have hu24 := Try.underlying24
      have hl : x.f2.length = 2 := by rw [h2]; rfl
      have hB : Below w.heap.size w (w.alloc (.cells #[.int .i64 x.f0, .int .i64 x.f1, .slice A x.f2.length c] 24)) := (Below.refl _ _).alloc (Nat.le_refl _) _
      have hC' := Kd.C_below hC hB
      obtain ⟨ad, A2, c2, y', rfl, e, y0, y1, y2, hyl, hyC⟩ := at24 hC' 0 (by omega)
      rw [h2] at e
      obtain rfl : y = y' := by simpa using e
      obtain ⟨ad', A3, c3, z', e1, e, z0, z1, z2, hzl, hzC⟩ := at24 hC' 1 (by omega)
      obtain rfl := Option.some.inj e1
      rw [h2] at e
      obtain rfl : z = z' := by simpa using e
      have HY := Lib.hid (hy A2 c2 _ hyC hyl)
      have HZ := Lib.hid fun w5 (hb5 : Below (w.alloc (.cells #[.int .i64 x.f0, .int .i64 x.f1, .slice (some ad) x.f2.length c] 24)).heap.size (w.alloc (.cells #[.int .i64 x.f0, .int .i64 x.f1, .slice (some ad) x.f2.length c] 24)) w5) =>
        hz A3 c3 w5 (Kd.C_below hzC hb5) hzl
      have Z0 := Lib.hid z0
      have Z1 := Lib.hid z1
      have Z2 := Lib.hid z2
      have hx0 : (w.alloc (.cells #[.int .i64 x.f0, .int .i64 x.f1, .slice (some ad) x.f2.length c] 24)).cell? ⟨w.heap.size, 0, none⟩ = some (.int .i64 x.f0) := (cell_of_row _ w.heap.size 0 _ _ _ (heap_alloc_new w (.cells #[.int .i64 x.f0, .int .i64 x.f1, .slice (some ad) x.f2.length c] 24)))
      have hx2 : (w.alloc (.cells #[.int .i64 x.f0, .int .i64 x.f1, .slice (some ad) x.f2.length c] 24)).cell? ⟨w.heap.size, 2, none⟩ = some (.slice (some ad) x.f2.length c) := (cell_of_row _ w.heap.size 2 _ _ _ (heap_alloc_new w (.cells #[.int .i64 x.f0, .int .i64 x.f1, .slice (some ad) x.f2.length c] 24)))
      have X0 := Lib.hid hx0
      have X2 := Lib.hid hx2
      clear hx0 hx2
      have HH : Hid (Halves x y z w _) := Lib.hid ⟨hb, hd, py, pz, hB⟩
      have n1 : (x.f0 == 1) = false := beq_eq_false_iff_ne.2 (by omega)
      have n2 : (x.f0 == 2) = false := beq_eq_false_iff_ne.2 (by omega)
      clear hg hC hC' hy hz ih hx hc hs hB hb hd py pz z0 z1 z2 hyl hyC hzl hzC gy gz h2
      simp only [hl, h1, Nat.zero_mul, Nat.one_mul] at *
      clear hl h1 e
      have a0 : ad.add 0 = ad := rfl
      have a3 : ad.add 3 = ⟨ad.block, ad.off + 3, none⟩ := rfl
      simp only [a0, a3] at *
      clear a0 a3
      rcases h0 with h0 | h0
      · have H0 := Lib.hid h0
        have n3 : (x.f0 == 3) = true := beq_iff_eq.2 h0
        clear h0
        go_enter Try.func27, Try.ntmps27
        go_wp2_with (first | (go_at_call 27; refine (HZ.out _ hb2).mono ?_; rintro e w3 ⟨hb3, (⟨rfl, hbad⟩ | ⟨r2, b, rfl, hr2, m2, p2, nb2⟩)⟩ <;> have x0' := cellB hb3 x0) | (go_at_call 27; refine HY.out.mono ?_; rintro e w2 ⟨hb2, (⟨rfl, hbad⟩ | ⟨r1, a, rfl, hr1, m1, p1, nb1⟩)⟩ <;> (have z0 := cellB hb2 Z0.out; have z1 := cellB hb2 Z1.out; have z2 := cellB hb2 Z2.out; have x2 := cellB hb2 X2.out; have x0 := cellB hb2 X0.out)) | (go_at_call 34; refine (plus_calls _ _ _ _ _ (m1.below hb3) m2 p1.pos p2.pos).mono ?_; rintro e w4 hpp; have hpq := Lib.hid (HH.out.sum hb2 hb3 H0.out p1 p2 nb1 nb2 hpp); obtain ⟨hb4, (⟨rfl, hbig⟩ | ⟨r, es, rfl, _⟩)⟩ := hpp))
        all_goals go_ret2
        all_goals first | exact hpq.out | exact HH.out.badY hb2 hb3 (.inl (by assumption)) | exact HH.out.badY hb2 hb3 (.inr (by assumption))
      · have H0 := Lib.hid h0
        have n3 : (x.f0 == 3) = false := beq_eq_false_iff_ne.2 (by omega)
        clear h0
        go_enter Try.func27, Try.ntmps27
        go_wp2_with (first | (go_at_call 27; refine (HZ.out _ hb2).mono ?_; rintro e w3 ⟨hb3, (⟨rfl, hbad⟩ | ⟨r2, b, rfl, hr2, m2, p2, nb2⟩)⟩ <;> have x0' := cellB hb3 x0) | (go_at_call 27; refine HY.out.mono ?_; rintro e w2 ⟨hb2, (⟨rfl, hbad⟩ | ⟨r1, a, rfl, hr1, m1, p1, nb1⟩)⟩ <;> (have z0 := cellB hb2 Z0.out; have z1 := cellB hb2 Z1.out; have z2 := cellB hb2 Z2.out; have x2 := cellB hb2 X2.out; have x0 := cellB hb2 X0.out)) | (go_at_call 35; refine (product_calls _ _ _ _ _ (m1.below hb3) m2 p1.pos p2.pos).mono ?_; rintro e w4 hpp; have hpq := Lib.hid (HH.out.prod hb2 hb3 H0.out p1 p2 nb1 nb2 hpp); obtain ⟨hb4, (⟨rfl, hbig⟩ | ⟨r, es, rfl, _⟩)⟩ := hpp))
        all_goals go_ret2
        all_goals first | exact hpq.out | exact HH.out.badY hb2 hb3 (.inl (by assumption)) | exact HH.out.badY hb2 hb3 (.inr (by assumption))
theorem normal_calls {x : S24} (hg : good x = true) (A : Option Addr) (c : Nat) (w : World) (hC : Kd.C k24 w A x.f2.length x.f2) (hc : x.f2.length ≤ c) :
    Calls Try.prog 27 #[.agg #[.int .i64 x.f0, .int .i64 x.f1, .slice A x.f2.length c]] w (NormPost w x) :=
  norm_at (SizeOf.sizeOf x + 1) x (by omega) hg A c w hC hc
end Go.Proofs.Ytjnplfbggklkfaa

-- Written by a program of this claim's session: print.py's form, some functions told by hand.
namespace Go.Proofs.Ytjnplfbggklkfaa.Rg
open Go.RowKit Go.Proofs.YtjnplfbggklkfaaW.PrintWords Go.Proofs.YtjnplfbggklkfaaW.PrintLast Go.Proofs.YtjnplfbggklkfaaW.PrintMore
attribute [local go_sem] max2_int min2_int max_two min_two max_three min_three max_four min_four   -- for this text's walks alone
set_option linter.unusedVariables false
set_option linter.unusedSimpArgs false

/-! ### ring_formed: function 32 -/
mutual
def ring_formed.j0 : Nat → Bool → Int → Int → List (S24) → Option (Bool)
 | 0, _, _, _, _ => none
 | k + 1, x32, x114000, x114001, x114002 => if x32 = true then (if (x114002.length : Int) = 2 then (if x114001 = 0 then (if 0 < (x114002.length : Int) then ((ring_formed.f k ((rd_T24 x114002 0).f0) ((rd_T24 x114002 0).f1) ((rd_T24 x114002 0).f2)).bind fun t115 => (if t115 = true then (if 1 < (x114002.length : Int) then ((ring_formed.f k ((rd_T24 x114002 1).f0) ((rd_T24 x114002 1).f1) ((rd_T24 x114002 1).f2)).bind fun t117 => (some t117)) else (none)) else (some false))) else (none)) else (some false)) else (some false)) else (some false)
def ring_formed.f : Nat → Int → Int → List (S24) → Option (Bool)
 | 0, _, _, _ => none
 | k + 1, a0_0, a0_1, l0_2 => if a0_0 = 1 then (if (l0_2.length : Int) = 0 then (some (decide (a0_1 ≥ 0))) else (some false)) else (if a0_0 = 2 then (if (l0_2.length : Int) = 0 then (if a0_1 ≥ 0 then (some (decide (a0_1 < 8))) else (some false)) else (some false)) else (if a0_0 = 3 then (ring_formed.j0 k (a0_0 == 3) a0_0 a0_1 l0_2) else (ring_formed.j0 k (a0_0 == 4) a0_0 a0_1 l0_2)))
end
theorem ring_formed.mono_l : ∀ k, (∀ y0 y1 y2, LeO (ring_formed.f k y0 y1 y2) (ring_formed.f (k + 1) y0 y1 y2)) ∧ (∀ y0 y1 y2 y3, LeO (ring_formed.j0 k y0 y1 y2 y3) (ring_formed.j0 (k + 1) y0 y1 y2 y3))
 | 0 => ⟨fun _ _ _ r h => by simp [ring_formed.f] at h, fun _ _ _ _ r h => by simp [ring_formed.j0] at h⟩
 | k + 1 => by
  obtain ⟨ih0, ih1⟩ := ring_formed.mono_l k
  refine ⟨?_, ?_⟩
  ·
   intro y0 y1 y2
   unfold ring_formed.f
   repeat' first
   | (with_reducible exact ih0 _ _ _)
   | (with_reducible exact ih1 _ _ _ _)
   | (with_reducible exact LeO.refl _)
   | (with_reducible exact LeO.none _)
   | (with_reducible refine LeO.ite ?_ ?_)
   | (with_reducible refine LeO.bind ?_ (fun _ => ?_))
   | exact ih0 _ _ _
   | exact ih1 _ _ _ _
   | exact LeO.none _
   | refine LeO.ite ?_ ?_
   | refine LeO.bind ?_ (fun _ => ?_)
  ·
   intro y0 y1 y2 y3
   unfold ring_formed.j0
   repeat' first
   | (with_reducible exact ih0 _ _ _)
   | (with_reducible exact ih1 _ _ _ _)
   | (with_reducible exact LeO.refl _)
   | (with_reducible exact LeO.none _)
   | (with_reducible refine LeO.ite ?_ ?_)
   | (with_reducible refine LeO.bind ?_ (fun _ => ?_))
   | exact ih0 _ _ _
   | exact ih1 _ _ _ _
   | exact LeO.none _
   | refine LeO.ite ?_ ?_
   | refine LeO.bind ?_ (fun _ => ?_)
theorem ring_formed.mono : ∀ a0 a1 a2 k, LeO (ring_formed.f k a0 a1 a2) (ring_formed.f (k + 1) a0 a1 a2) := by
 intro a0 a1 a2 k
 obtain ⟨ih0, ih1⟩ := ring_formed.mono_l k
 exact ih0 a0 a1 a2
set_option maxHeartbeats 8000000 in
set_option maxRecDepth 100000 in
theorem ring_formed.calls (k : Nat) : ∀ (a0_0 : Int) (a0_1 : Int) (A0_2 : Option Addr) (c0_2 : Nat) (l0_2 : List (S24)) (r : Bool) (w : World) (hr0_2 : Kd.C k24 w A0_2 l0_2.length l0_2) (hc0_2 : l0_2.length ≤ c0_2) (h : ring_formed.f k a0_0 a0_1 l0_2 = some r),
  Calls Try.prog 32 #[.agg #[.int .i64 a0_0, .int .i64 a0_1, .slice A0_2 l0_2.length c0_2]] w fun e w' => e = .returned (.bool r) ∧ Below w.heap.size w w' := by
 induction k using Nat.strongRecOn with
 | _ k ih =>
 intro a0_0 a0_1 A0_2 c0_2 l0_2 r w hr0_2 hc0_2 h
 cases k with
 | zero => exact absurd h (by simp [ring_formed.f])
 | succ k =>
 simp only [ring_formed.f] at h
 have hu24 := Try.underlying24
 have HR0_2 := Am hr0_2
 have HC0_2 := Am hc0_2
 clear hr0_2 hc0_2
 have HB := Am (Below.refl w.heap.size w)
 have H : (if a0_0 = 1 then (if (l0_2.length : Int) = 0 then (some (decide (a0_1 ≥ 0))) else (some false)) else (if a0_0 = 2 then (if (l0_2.length : Int) = 0 then (if a0_1 ≥ 0 then (some (decide (a0_1 < 8))) else (some false)) else (some false)) else (if a0_0 = 3 then (ring_formed.j0 k (a0_0 == 3) a0_0 a0_1 l0_2) else (ring_formed.j0 k (a0_0 == 4) a0_0 a0_1 l0_2)))) = some r := h
 clear h
 by_cases c2 : a0_0 = 1
 ·
  rw [if_pos c2] at H
  have c2b0 : (a0_0 == 1) = true := beq_iff_eq.mpr c2
  have c2b1 : (a0_0 != 1) = false := bne_eq_false_iff_eq.mpr c2
  clear c2
  by_cases c3 : (l0_2.length : Int) = 0
  ·
   rw [if_pos c3] at H
   have c3b0 : ((l0_2.length : Int) == 0) = true := beq_iff_eq.mpr c3
   have c3b1 : ((l0_2.length : Int) != 0) = false := bne_eq_false_iff_eq.mpr c3
   clear c3
   obtain rfl := Option.some.inj H
   go_enter Try.func32, Try.ntmps32
   go_wp2_with (first | ((with_reducible refine gate_dst (N := 1) rfl ?_); refine box_event ?hg (N := 1) ?hd (cs := #[.int .i64 a0_0, .int .i64 a0_1, .slice A0_2 l0_2.length c0_2]) (t := 24) ?hr ?_; (case hd => rfl); (case hg => rfl); (case hr => first | (go_simp; done) | (go_simp; rfl)); intro gb113 hg w4 hbox hb; have n0_ := Am (below_step (by repeat (first | (with_reducible first | exact HB.out | apply pA | apply pN | apply pD) | exact HB.out)) hb); have n1_ := Am (hbox); have n2_ := Am ((by rw [hg]; exact (below_size (by repeat (first | (with_reducible first | exact HB.out | apply pA | apply pN | apply pD) | exact HB.out))) : w.heap.size ≤ gb113)); have n3_ := Am ((by rw [hg]; exact (below_size (by repeat (first | (with_reducible first | exact HB.out | apply pA | apply pN | apply pD) | exact HB.out))) : w.heap.size ≤ gb113)); clear HB; have HB := n0_; have BK113 := n1_; have GW113 := n2_; have GE113 := n3_; clear n0_ n1_ n2_ n3_; clear hb hbox hg; have hcz5_0 : w4.cell? ⟨gb113, 0, none⟩ = some (.int .i64 a0_0) := (blk_cell BK113.out 0).trans rfl; have hcz5_1 : w4.cell? ⟨gb113, 1, none⟩ = some (.int .i64 a0_1) := (blk_cell BK113.out 1).trans rfl; have hcz5_2 : w4.cell? ⟨gb113, 2, none⟩ = some (.slice A0_2 l0_2.length c0_2) := (blk_cell BK113.out 2).trans rfl; have hfz5_0 := blk_frozen BK113.out 0; have hfz5_1 := blk_frozen BK113.out 1; have hfz5_2 := blk_frozen BK113.out 2))
   go_ret
   exact ⟨by first | rfl | (simp [errW_none, errW_some] <;> rfl) | (simp [*, errW_none, errW_some] <;> rfl), by repeat (first | (with_reducible first | exact HB.out | apply pA | apply pN | apply pD | refine pS ?_ GE113.out) | exact HB.out)⟩
  ·
   rw [if_neg c3] at H
   have c3b0 : ((l0_2.length : Int) == 0) = false := beq_eq_false_iff_ne.mpr c3
   have c3b1 : ((l0_2.length : Int) != 0) = true := bne_iff_ne.mpr c3
   have c3b2 : ¬ (l0_2 = []) := fun h_ => c3 (by rw [h_]; rfl)
   obtain rfl := Option.some.inj H
   go_enter Try.func32, Try.ntmps32
   go_wp2_with (first | ((with_reducible refine gate_dst (N := 1) rfl ?_); refine box_event ?hg (N := 1) ?hd (cs := #[.int .i64 a0_0, .int .i64 a0_1, .slice A0_2 l0_2.length c0_2]) (t := 24) ?hr ?_; (case hd => rfl); (case hg => rfl); (case hr => first | (go_simp; done) | (go_simp; rfl)); intro gb113 hg w6 hbox hb; have n0_ := Am (below_step (by repeat (first | (with_reducible first | exact HB.out | apply pA | apply pN | apply pD) | exact HB.out)) hb); have n1_ := Am (hbox); have n2_ := Am ((by rw [hg]; exact (below_size (by repeat (first | (with_reducible first | exact HB.out | apply pA | apply pN | apply pD) | exact HB.out))) : w.heap.size ≤ gb113)); have n3_ := Am ((by rw [hg]; exact (below_size (by repeat (first | (with_reducible first | exact HB.out | apply pA | apply pN | apply pD) | exact HB.out))) : w.heap.size ≤ gb113)); clear HB; have HB := n0_; have BK113 := n1_; have GW113 := n2_; have GE113 := n3_; clear n0_ n1_ n2_ n3_; clear hb hbox hg; have hcz7_0 : w6.cell? ⟨gb113, 0, none⟩ = some (.int .i64 a0_0) := (blk_cell BK113.out 0).trans rfl; have hcz7_1 : w6.cell? ⟨gb113, 1, none⟩ = some (.int .i64 a0_1) := (blk_cell BK113.out 1).trans rfl; have hcz7_2 : w6.cell? ⟨gb113, 2, none⟩ = some (.slice A0_2 l0_2.length c0_2) := (blk_cell BK113.out 2).trans rfl; have hfz7_0 := blk_frozen BK113.out 0; have hfz7_1 := blk_frozen BK113.out 1; have hfz7_2 := blk_frozen BK113.out 2))
   go_ret
   exact ⟨by first | rfl | (simp [errW_none, errW_some] <;> rfl) | (simp [*, errW_none, errW_some] <;> rfl), by repeat (first | (with_reducible first | exact HB.out | apply pA | apply pN | apply pD | refine pS ?_ GE113.out) | exact HB.out)⟩
 ·
  rw [if_neg c2] at H
  have c2b0 : (a0_0 == 1) = false := beq_eq_false_iff_ne.mpr c2
  have c2b1 : (a0_0 != 1) = true := bne_iff_ne.mpr c2
  by_cases c8 : a0_0 = 2
  ·
   rw [if_pos c8] at H
   have c8b0 : (a0_0 == 2) = true := beq_iff_eq.mpr c8
   have c8b1 : (a0_0 != 2) = false := bne_eq_false_iff_eq.mpr c8
   clear c8
   by_cases c9 : (l0_2.length : Int) = 0
   ·
    rw [if_pos c9] at H
    have c9b0 : ((l0_2.length : Int) == 0) = true := beq_iff_eq.mpr c9
    have c9b1 : ((l0_2.length : Int) != 0) = false := bne_eq_false_iff_eq.mpr c9
    clear c9
    by_cases c10 : a0_1 ≥ 0
    ·
     rw [if_pos c10] at H
     have c10b0 : decide (0 ≤ a0_1) = true := decide_eq_true c10
     clear c10
     obtain rfl := Option.some.inj H
     go_enter Try.func32, Try.ntmps32
     go_wp2_with (first | ((with_reducible refine gate_dst (N := 1) rfl ?_); refine box_event ?hg (N := 1) ?hd (cs := #[.int .i64 a0_0, .int .i64 a0_1, .slice A0_2 l0_2.length c0_2]) (t := 24) ?hr ?_; (case hd => rfl); (case hg => rfl); (case hr => first | (go_simp; done) | (go_simp; rfl)); intro gb113 hg w11 hbox hb; have n0_ := Am (below_step (by repeat (first | (with_reducible first | exact HB.out | apply pA | apply pN | apply pD) | exact HB.out)) hb); have n1_ := Am (hbox); have n2_ := Am ((by rw [hg]; exact (below_size (by repeat (first | (with_reducible first | exact HB.out | apply pA | apply pN | apply pD) | exact HB.out))) : w.heap.size ≤ gb113)); have n3_ := Am ((by rw [hg]; exact (below_size (by repeat (first | (with_reducible first | exact HB.out | apply pA | apply pN | apply pD) | exact HB.out))) : w.heap.size ≤ gb113)); clear HB; have HB := n0_; have BK113 := n1_; have GW113 := n2_; have GE113 := n3_; clear n0_ n1_ n2_ n3_; clear hb hbox hg; have hcz12_0 : w11.cell? ⟨gb113, 0, none⟩ = some (.int .i64 a0_0) := (blk_cell BK113.out 0).trans rfl; have hcz12_1 : w11.cell? ⟨gb113, 1, none⟩ = some (.int .i64 a0_1) := (blk_cell BK113.out 1).trans rfl; have hcz12_2 : w11.cell? ⟨gb113, 2, none⟩ = some (.slice A0_2 l0_2.length c0_2) := (blk_cell BK113.out 2).trans rfl; have hfz12_0 := blk_frozen BK113.out 0; have hfz12_1 := blk_frozen BK113.out 1; have hfz12_2 := blk_frozen BK113.out 2))
     go_ret
     exact ⟨by first | rfl | (simp [errW_none, errW_some] <;> rfl) | (simp [*, errW_none, errW_some] <;> rfl), by repeat (first | (with_reducible first | exact HB.out | apply pA | apply pN | apply pD | refine pS ?_ GE113.out) | exact HB.out)⟩
    ·
     rw [if_neg c10] at H
     have c10b0 : decide (0 ≤ a0_1) = false := decide_eq_false c10
     clear c10
     obtain rfl := Option.some.inj H
     go_enter Try.func32, Try.ntmps32
     go_wp2_with (first | ((with_reducible refine gate_dst (N := 1) rfl ?_); refine box_event ?hg (N := 1) ?hd (cs := #[.int .i64 a0_0, .int .i64 a0_1, .slice A0_2 l0_2.length c0_2]) (t := 24) ?hr ?_; (case hd => rfl); (case hg => rfl); (case hr => first | (go_simp; done) | (go_simp; rfl)); intro gb113 hg w13 hbox hb; have n0_ := Am (below_step (by repeat (first | (with_reducible first | exact HB.out | apply pA | apply pN | apply pD) | exact HB.out)) hb); have n1_ := Am (hbox); have n2_ := Am ((by rw [hg]; exact (below_size (by repeat (first | (with_reducible first | exact HB.out | apply pA | apply pN | apply pD) | exact HB.out))) : w.heap.size ≤ gb113)); have n3_ := Am ((by rw [hg]; exact (below_size (by repeat (first | (with_reducible first | exact HB.out | apply pA | apply pN | apply pD) | exact HB.out))) : w.heap.size ≤ gb113)); clear HB; have HB := n0_; have BK113 := n1_; have GW113 := n2_; have GE113 := n3_; clear n0_ n1_ n2_ n3_; clear hb hbox hg; have hcz14_0 : w13.cell? ⟨gb113, 0, none⟩ = some (.int .i64 a0_0) := (blk_cell BK113.out 0).trans rfl; have hcz14_1 : w13.cell? ⟨gb113, 1, none⟩ = some (.int .i64 a0_1) := (blk_cell BK113.out 1).trans rfl; have hcz14_2 : w13.cell? ⟨gb113, 2, none⟩ = some (.slice A0_2 l0_2.length c0_2) := (blk_cell BK113.out 2).trans rfl; have hfz14_0 := blk_frozen BK113.out 0; have hfz14_1 := blk_frozen BK113.out 1; have hfz14_2 := blk_frozen BK113.out 2))
     go_ret
     exact ⟨by first | rfl | (simp [errW_none, errW_some] <;> rfl) | (simp [*, errW_none, errW_some] <;> rfl), by repeat (first | (with_reducible first | exact HB.out | apply pA | apply pN | apply pD | refine pS ?_ GE113.out) | exact HB.out)⟩
   ·
    rw [if_neg c9] at H
    have c9b0 : ((l0_2.length : Int) == 0) = false := beq_eq_false_iff_ne.mpr c9
    have c9b1 : ((l0_2.length : Int) != 0) = true := bne_iff_ne.mpr c9
    have c9b2 : ¬ (l0_2 = []) := fun h_ => c9 (by rw [h_]; rfl)
    obtain rfl := Option.some.inj H
    go_enter Try.func32, Try.ntmps32
    go_wp2_with (first | ((with_reducible refine gate_dst (N := 1) rfl ?_); refine box_event ?hg (N := 1) ?hd (cs := #[.int .i64 a0_0, .int .i64 a0_1, .slice A0_2 l0_2.length c0_2]) (t := 24) ?hr ?_; (case hd => rfl); (case hg => rfl); (case hr => first | (go_simp; done) | (go_simp; rfl)); intro gb113 hg w15 hbox hb; have n0_ := Am (below_step (by repeat (first | (with_reducible first | exact HB.out | apply pA | apply pN | apply pD) | exact HB.out)) hb); have n1_ := Am (hbox); have n2_ := Am ((by rw [hg]; exact (below_size (by repeat (first | (with_reducible first | exact HB.out | apply pA | apply pN | apply pD) | exact HB.out))) : w.heap.size ≤ gb113)); have n3_ := Am ((by rw [hg]; exact (below_size (by repeat (first | (with_reducible first | exact HB.out | apply pA | apply pN | apply pD) | exact HB.out))) : w.heap.size ≤ gb113)); clear HB; have HB := n0_; have BK113 := n1_; have GW113 := n2_; have GE113 := n3_; clear n0_ n1_ n2_ n3_; clear hb hbox hg; have hcz16_0 : w15.cell? ⟨gb113, 0, none⟩ = some (.int .i64 a0_0) := (blk_cell BK113.out 0).trans rfl; have hcz16_1 : w15.cell? ⟨gb113, 1, none⟩ = some (.int .i64 a0_1) := (blk_cell BK113.out 1).trans rfl; have hcz16_2 : w15.cell? ⟨gb113, 2, none⟩ = some (.slice A0_2 l0_2.length c0_2) := (blk_cell BK113.out 2).trans rfl; have hfz16_0 := blk_frozen BK113.out 0; have hfz16_1 := blk_frozen BK113.out 1; have hfz16_2 := blk_frozen BK113.out 2))
    go_ret
    exact ⟨by first | rfl | (simp [errW_none, errW_some] <;> rfl) | (simp [*, errW_none, errW_some] <;> rfl), by repeat (first | (with_reducible first | exact HB.out | apply pA | apply pN | apply pD | refine pS ?_ GE113.out) | exact HB.out)⟩
  ·
   rw [if_neg c8] at H
   have c8b0 : (a0_0 == 2) = false := beq_eq_false_iff_ne.mpr c8
   have c8b1 : (a0_0 != 2) = true := bne_iff_ne.mpr c8
   have HC17 := Am H
   clear H
   go_enter Try.func32, Try.ntmps32
   go_upto_if 32 with (first | ((with_reducible refine gate_dst (N := 1) rfl ?_); refine box_event ?hg (N := 1) ?hd (cs := #[.int .i64 a0_0, .int .i64 a0_1, .slice A0_2 l0_2.length c0_2]) (t := 24) ?hr ?_; (case hd => rfl); (case hg => rfl); (case hr => first | (go_simp; done) | (go_simp; rfl)); intro gb113 hg w18 hbox hb; have n0_ := Am (below_step (by repeat (first | (with_reducible first | exact HB.out | apply pA | apply pN | apply pD) | exact HB.out)) hb); have n1_ := Am (hbox); have n2_ := Am ((by rw [hg]; exact (below_size (by repeat (first | (with_reducible first | exact HB.out | apply pA | apply pN | apply pD) | exact HB.out))) : w.heap.size ≤ gb113)); have n3_ := Am ((by rw [hg]; exact (below_size (by repeat (first | (with_reducible first | exact HB.out | apply pA | apply pN | apply pD) | exact HB.out))) : w.heap.size ≤ gb113)); clear HB; have HB := n0_; have BK113 := n1_; have GW113 := n2_; have GE113 := n3_; clear n0_ n1_ n2_ n3_; clear hb hbox hg; have hcz19_0 : w18.cell? ⟨gb113, 0, none⟩ = some (.int .i64 a0_0) := (blk_cell BK113.out 0).trans rfl; have hcz19_1 : w18.cell? ⟨gb113, 1, none⟩ = some (.int .i64 a0_1) := (blk_cell BK113.out 1).trans rfl; have hcz19_2 : w18.cell? ⟨gb113, 2, none⟩ = some (.slice A0_2 l0_2.length c0_2) := (blk_cell BK113.out 2).trans rfl; have hfz19_0 := blk_frozen BK113.out 0; have hfz19_1 := blk_frozen BK113.out 1; have hfz19_2 := blk_frozen BK113.out 2))
   (try simp only [Act.put, List.setIfInBounds_toArray, List.set_cons_zero, List.set_cons_succ])
   go_cut [32] (fun v32 wc => ∃ (kq : Nat) (x32_16 : Bool), v32 = .bool x32_16 ∧ Aside0 (ring_formed.j0 kq x32_16 a0_0 a0_1 l0_2 = some r) ∧ Aside0 (kq ≤ k) ∧ Aside0 (wc.heap[gb113]? = some (.cells #[.int .i64 a0_0, .int .i64 a0_1, (.slice A0_2 l0_2.length c0_2)] 24 (0, 0))) ∧ Aside0 (Below w.heap.size w wc))
   case first =>
    have H := HC17.out
    clear HC17
    by_cases c20 : a0_0 = 3
    ·
     rw [if_pos c20] at H
     have c20b0 : (a0_0 == 3) = true := beq_iff_eq.mpr c20
     have c20b1 : (a0_0 != 3) = false := bne_eq_false_iff_eq.mpr c20
     clear c20
     (first | rw [c20b0] | (simp only [i64_w, i32_w]; rw [c20b0]) | skip)
     have H' := Am H
     clear H
     go_wp2
     go_meet
     case rel => exact ⟨_, ((a0_0 == 3)), (by first | rfl | (simp; done) | (simp [*]; done)), H', ⟨by first | omega | exact Nat.le_refl _⟩, ⟨by (with_reducible repeat (first | refine bN ?_ _ | refine bD ?_ | refine bA ?_ _)); exact BK113.out⟩, ⟨by repeat (first | (with_reducible first | exact HB.out | apply pA | apply pN | apply pD | refine pS ?_ GE113.out) | exact HB.out)⟩⟩
    ·
     rw [if_neg c20] at H
     have c20b0 : (a0_0 == 3) = false := beq_eq_false_iff_ne.mpr c20
     have c20b1 : (a0_0 != 3) = true := bne_iff_ne.mpr c20
     (first | rw [c20b0] | (simp only [i64_w, i32_w]; rw [c20b0]) | skip)
     have H' := Am H
     clear H
     go_wp2
     go_meet
     case rel => exact ⟨_, ((a0_0 == 4)), (by first | rfl | (simp; done) | (simp [*]; done)), H', ⟨by first | omega | exact Nat.le_refl _⟩, ⟨by (with_reducible repeat (first | refine bN ?_ _ | refine bD ?_ | refine bA ?_ _)); exact BK113.out⟩, ⟨by repeat (first | (with_reducible first | exact HB.out | apply pA | apply pN | apply pD | refine pS ?_ GE113.out) | exact HB.out)⟩⟩
   case rest =>
    clear HC17
    try clear c1
    try clear c2
    try clear c2b0
    try clear c2b1
    try clear p2
    try clear c3
    try clear c3b0
    try clear c3b1
    try clear c3b2
    try clear c8
    try clear c8b0
    try clear c8b1
    try clear c9
    try clear c9b0
    try clear c9b1
    try clear c9b2
    try clear c10
    try clear c10b0
    try clear c20
    try clear c20b0
    try clear c20b1
    try clear hcz12_0
    try clear hcz12_1
    try clear hcz12_2
    try clear hcz14_0
    try clear hcz14_1
    try clear hcz14_2
    try clear hcz16_0
    try clear hcz16_1
    try clear hcz16_2
    try clear hcz19_0
    try clear hcz19_1
    try clear hcz19_2
    try clear hcz5_0
    try clear hcz5_1
    try clear hcz5_2
    try clear hcz7_0
    try clear hcz7_1
    try clear hcz7_2
    try clear hfz12_0
    try clear hfz12_1
    try clear hfz12_2
    try clear hfz14_0
    try clear hfz14_1
    try clear hfz14_2
    try clear hfz16_0
    try clear hfz16_1
    try clear hfz16_2
    try clear hfz19_0
    try clear hfz19_1
    try clear hfz19_2
    try clear hfz5_0
    try clear hfz5_1
    try clear hfz5_2
    try clear hfz7_0
    try clear hfz7_1
    try clear hfz7_2
    obtain ⟨kq, x32_16, rfl, HA, HJ16, BK113, HB⟩ := hcut
    cases kq with
    | zero => exact absurd HA.out (by simp [ring_formed.j0])
    | succ kj16 =>
     have H := HA.out
     clear HA
     simp only [ring_formed.j0] at H
     by_cases c21 : x32_16 = true
     ·
      subst c21
      have H1 : (if (l0_2.length : Int) = 2 then (if a0_1 = 0 then (if 0 < (l0_2.length : Int) then ((ring_formed.f kj16 ((rd_T24 l0_2 0).f0) ((rd_T24 l0_2 0).f1) ((rd_T24 l0_2 0).f2)).bind fun t115 => (if t115 = true then (if 1 < (l0_2.length : Int) then ((ring_formed.f kj16 ((rd_T24 l0_2 1).f0) ((rd_T24 l0_2 1).f1) ((rd_T24 l0_2 1).f2)).bind fun t117 => (some t117)) else (none)) else (some false))) else (none)) else (some false)) else (some false)) = some r := by rw [if_pos rfl] at H; exact H
      clear H
      have H := H1
      clear H1
      by_cases c22 : (l0_2.length : Int) = 2
      ·
       rw [if_pos c22] at H
       have c22b0 : ((l0_2.length : Int) == 2) = true := beq_iff_eq.mpr c22
       have c22b1 : ((l0_2.length : Int) != 2) = false := bne_eq_false_iff_eq.mpr c22
       clear c22
       by_cases c23 : a0_1 = 0
       ·
        rw [if_pos c23] at H
        have c23b0 : (a0_1 == 0) = true := beq_iff_eq.mpr c23
        have c23b1 : (a0_1 != 0) = false := bne_eq_false_iff_eq.mpr c23
        clear c23
        by_cases c24 : 0 < (l0_2.length : Int)
        ·
         rw [if_pos c24] at H
         have c24b0 : decide (0 < (l0_2.length : Int)) = true := decide_eq_true c24
         have c24b1 : decide (0 < l0_2.length) = true := decide_eq_true (by omega)
         clear c24
         replace H := Option.bind_eq_some_iff.mp H
         obtain ⟨t115, A250, H⟩ := H
         replace H : (if t115 = true then (if 1 < (l0_2.length : Int) then ((ring_formed.f kj16 ((rd_T24 l0_2 1).f0) ((rd_T24 l0_2 1).f1) ((rd_T24 l0_2 1).f2)).bind fun t117 => (some t117)) else (none)) else (some false)) = some r := H
         have A25 := Am A250
         clear A250
         by_cases c26 : t115 = true
         ·
          subst c26
          have H1 : (if 1 < (l0_2.length : Int) then ((ring_formed.f kj16 ((rd_T24 l0_2 1).f0) ((rd_T24 l0_2 1).f1) ((rd_T24 l0_2 1).f2)).bind fun t117 => (some t117)) else (none)) = some r := by rw [if_pos rfl] at H; exact H
          clear H
          have H := H1
          clear H1
          by_cases c27 : 1 < (l0_2.length : Int)
          ·
           rw [if_pos c27] at H
           have c27b0 : decide (1 < (l0_2.length : Int)) = true := decide_eq_true c27
           have c27b1 : decide (1 < l0_2.length) = true := decide_eq_true (by omega)
           clear c27
           replace H := Option.bind_eq_some_iff.mp H
           obtain ⟨t117, A280, H⟩ := H
           replace H : (some t117) = some r := H
           have A28 := Am A280
           clear A280
           obtain rfl := Option.some.inj H
           have hcz29_0 : wc.cell? ⟨gb113, 0, none⟩ = some (.int .i64 a0_0) := (blk_cell BK113.out 0).trans rfl
           have hcz29_1 : wc.cell? ⟨gb113, 1, none⟩ = some (.int .i64 a0_1) := (blk_cell BK113.out 1).trans rfl
           have hcz29_2 : wc.cell? ⟨gb113, 2, none⟩ = some (.slice A0_2 l0_2.length c0_2) := (blk_cell BK113.out 2).trans rfl
           have hfz29_0 := blk_frozen BK113.out 0
           have hfz29_1 := blk_frozen BK113.out 1
           have hfz29_2 := blk_frozen BK113.out 2
           have p114 : 0 ≤ (0 : Int) := (by omega)
           have q114 : 0 < (l0_2.length : Int) := of_decide_eq_true (by first | (with_reducible assumption) | assumption)
           obtain ⟨ad114, A114_2, c114_2, e114, hx114_0, hx114_1, hx114_2, hl114_2, hi114_2⟩ := at_T24 HR0_2.out 0 p114 q114
           cases e114
           have qi114 : (0 < l0_2.length) = True := eq_true (by omega)
           (try rw [show ((0 : Int)).toNat = 0 from rfl] at hx114_0)
           (try rw [show 0 * 3 = 0 from rfl] at hx114_0)
           (try rw [Addr.add_zero'] at hx114_0)
           (try rw [show ((0 : Int)).toNat = 0 from rfl] at hx114_1)
           (try rw [show 0 * 3 = 0 from rfl] at hx114_1)
           (try rw [Addr.add_zero'] at hx114_1)
           (try rw [show ((0 : Int)).toNat = 0 from rfl] at hx114_2)
           (try rw [show 0 * 3 = 0 from rfl] at hx114_2)
           (try rw [Addr.add_zero'] at hx114_2)
           replace hx114_0 := (HB.out.cell (wB w _ hx114_0)).trans hx114_0
           replace hx114_1 := (HB.out.cell (wB w _ hx114_1)).trans hx114_1
           replace hx114_2 := (HB.out.cell (wB w _ hx114_2)).trans hx114_2
           have HR114_2 := Am hi114_2
           have HC114_2 := Am hl114_2
           clear hi114_2 hl114_2
           replace p114 := eq_true p114
           replace q114 := eq_true q114
           go_wp2_with (first | (go_at_call 32; (with_reducible refine (ih kj16 (by have := HJ16.out; omega) ((rd_T24 l0_2 0).f0) ((rd_T24 l0_2 0).f1) _ _ ((rd_T24 l0_2 0).f2) true _ ?side1 ?side2 A25.out).mono ?_); (case side1 => repeat (first | exact (Kd.C_below HR114_2.out HB.out) | (with_reducible refine Kd.C_alloc ?_ _) | (with_reducible refine Kd.C_drewN ?_ _) | (with_reducible refine Kd.C_drew ?_))); (case side2 => exact HC114_2.out); rintro e w30 ⟨rfl, hb⟩; have n0_ := Am (blk_below (g := gb113) (o := .cells #[.int .i64 a0_0, .int .i64 a0_1, .slice (some ad114) l0_2.length c0_2] 24 (0, 0)) (by (with_reducible repeat (first | refine bN ?_ _ | refine bD ?_ | refine bA ?_ _)); exact BK113.out) hb); have n1_ := Am (below_step (by repeat (first | (with_reducible first | exact HB.out | apply pA | apply pN | apply pD | refine pS ?_ GE113.out) | exact HB.out)) hb); clear BK113; clear HB; have BK113 := n0_; have HB := n1_; clear n0_ n1_; (try clear hb); (try clear hb2); (try clear hk); (try clear hi); have hcz31_0 : w30.cell? ⟨gb113, 0, none⟩ = some (.int .i64 a0_0) := (blk_cell BK113.out 0).trans rfl; have hcz31_1 : w30.cell? ⟨gb113, 1, none⟩ = some (.int .i64 a0_1) := (blk_cell BK113.out 1).trans rfl; have hcz31_2 : w30.cell? ⟨gb113, 2, none⟩ = some (.slice (some ad114) l0_2.length c0_2) := (blk_cell BK113.out 2).trans rfl; have hfz31_0 := blk_frozen BK113.out 0; have hfz31_1 := blk_frozen BK113.out 1; have hfz31_2 := blk_frozen BK113.out 2; have p116 : 0 ≤ (1 : Int) := (by omega); have q116 : 1 < (l0_2.length : Int) := of_decide_eq_true (by first | (with_reducible assumption) | assumption); obtain ⟨ad116, A116_2, c116_2, e116, hx116_0, hx116_1, hx116_2, hl116_2, hi116_2⟩ := at_T24 HR0_2.out 1 p116 q116; obtain rfl : ad114 = ad116 := (by injection e116); (try simp only [show (1 : Int).toNat = 1 from rfl, Nat.reduceMul, Nat.reduceEqDiff, Go.Addr.add, ↓reduceIte] at hx116_0); (try simp only [show (1 : Int).toNat = 1 from rfl, Nat.reduceMul, Nat.reduceEqDiff, Go.Addr.add, ↓reduceIte] at hx116_1); (try simp only [show (1 : Int).toNat = 1 from rfl, Nat.reduceMul, Nat.reduceEqDiff, Go.Addr.add, ↓reduceIte] at hx116_2); have qi116 : (1 < l0_2.length) = True := eq_true (by omega); (try rw [show ((1 : Int)).toNat = 1 from rfl] at hx116_0); (try rw [show 1 * 3 = 3 from rfl] at hx116_0); (try rw [show ((1 : Int)).toNat = 1 from rfl] at hx116_1); (try rw [show 1 * 3 = 3 from rfl] at hx116_1); (try rw [show ((1 : Int)).toNat = 1 from rfl] at hx116_2); (try rw [show 1 * 3 = 3 from rfl] at hx116_2); replace hx116_0 := (HB.out.cell (wB w _ hx116_0)).trans hx116_0; replace hx116_1 := (HB.out.cell (wB w _ hx116_1)).trans hx116_1; replace hx116_2 := (HB.out.cell (wB w _ hx116_2)).trans hx116_2; have HR116_2 := Am hi116_2; have HC116_2 := Am hl116_2; clear hi116_2 hl116_2; replace p116 := eq_true p116; replace q116 := eq_true q116) | (go_at_call 32; (with_reducible refine (ih kj16 (by have := HJ16.out; omega) ((rd_T24 l0_2 1).f0) ((rd_T24 l0_2 1).f1) _ _ ((rd_T24 l0_2 1).f2) t117 _ ?side1 ?side2 A28.out).mono ?_); (case side1 => repeat (first | exact (Kd.C_below HR116_2.out HB.out) | (with_reducible refine Kd.C_alloc ?_ _) | (with_reducible refine Kd.C_drewN ?_ _) | (with_reducible refine Kd.C_drew ?_))); (case side2 => exact HC116_2.out); rintro e w32 ⟨rfl, hb⟩; have n0_ := Am (blk_below (g := gb113) (o := .cells #[.int .i64 a0_0, .int .i64 a0_1, .slice (some ad114) l0_2.length c0_2] 24 (0, 0)) (by (with_reducible repeat (first | refine bN ?_ _ | refine bD ?_ | refine bA ?_ _)); exact BK113.out) hb); have n1_ := Am (below_step (by repeat (first | (with_reducible first | exact HB.out | apply pA | apply pN | apply pD | refine pS ?_ GE113.out) | exact HB.out)) hb); clear BK113; clear HB; have BK113 := n0_; have HB := n1_; clear n0_ n1_; (try clear hb); (try clear hb2); (try clear hk); (try clear hi)))
           go_ret
           exact ⟨by first | rfl | (simp [errW_none, errW_some] <;> rfl) | (simp [*, errW_none, errW_some] <;> rfl), by repeat (first | (with_reducible first | exact HB.out | apply pA | apply pN | apply pD | refine pS ?_ GE113.out) | exact HB.out)⟩
          ·
           rw [if_neg c27] at H
           exact absurd H (by simp)
         ·
          replace c26 := Bool.eq_false_iff.mpr c26
          subst c26
          have H1 : (some false) = some r := by rw [if_neg (show ¬ (false = true) by decide)] at H; exact H
          clear H
          have H := H1
          clear H1
          obtain rfl := Option.some.inj H
          have hcz33_0 : wc.cell? ⟨gb113, 0, none⟩ = some (.int .i64 a0_0) := (blk_cell BK113.out 0).trans rfl
          have hcz33_1 : wc.cell? ⟨gb113, 1, none⟩ = some (.int .i64 a0_1) := (blk_cell BK113.out 1).trans rfl
          have hcz33_2 : wc.cell? ⟨gb113, 2, none⟩ = some (.slice A0_2 l0_2.length c0_2) := (blk_cell BK113.out 2).trans rfl
          have hfz33_0 := blk_frozen BK113.out 0
          have hfz33_1 := blk_frozen BK113.out 1
          have hfz33_2 := blk_frozen BK113.out 2
          have p114 : 0 ≤ (0 : Int) := (by omega)
          have q114 : 0 < (l0_2.length : Int) := of_decide_eq_true (by first | (with_reducible assumption) | assumption)
          obtain ⟨ad114, A114_2, c114_2, e114, hx114_0, hx114_1, hx114_2, hl114_2, hi114_2⟩ := at_T24 HR0_2.out 0 p114 q114
          cases e114
          have qi114 : (0 < l0_2.length) = True := eq_true (by omega)
          (try rw [show ((0 : Int)).toNat = 0 from rfl] at hx114_0)
          (try rw [show 0 * 3 = 0 from rfl] at hx114_0)
          (try rw [Addr.add_zero'] at hx114_0)
          (try rw [show ((0 : Int)).toNat = 0 from rfl] at hx114_1)
          (try rw [show 0 * 3 = 0 from rfl] at hx114_1)
          (try rw [Addr.add_zero'] at hx114_1)
          (try rw [show ((0 : Int)).toNat = 0 from rfl] at hx114_2)
          (try rw [show 0 * 3 = 0 from rfl] at hx114_2)
          (try rw [Addr.add_zero'] at hx114_2)
          replace hx114_0 := (HB.out.cell (wB w _ hx114_0)).trans hx114_0
          replace hx114_1 := (HB.out.cell (wB w _ hx114_1)).trans hx114_1
          replace hx114_2 := (HB.out.cell (wB w _ hx114_2)).trans hx114_2
          have HR114_2 := Am hi114_2
          have HC114_2 := Am hl114_2
          clear hi114_2 hl114_2
          replace p114 := eq_true p114
          replace q114 := eq_true q114
          go_wp2_with (first | (go_at_call 32; (with_reducible refine (ih kj16 (by have := HJ16.out; omega) ((rd_T24 l0_2 0).f0) ((rd_T24 l0_2 0).f1) _ _ ((rd_T24 l0_2 0).f2) false _ ?side1 ?side2 A25.out).mono ?_); (case side1 => repeat (first | exact (Kd.C_below HR114_2.out HB.out) | (with_reducible refine Kd.C_alloc ?_ _) | (with_reducible refine Kd.C_drewN ?_ _) | (with_reducible refine Kd.C_drew ?_))); (case side2 => exact HC114_2.out); rintro e w34 ⟨rfl, hb⟩; have n0_ := Am (blk_below (g := gb113) (o := .cells #[.int .i64 a0_0, .int .i64 a0_1, .slice (some ad114) l0_2.length c0_2] 24 (0, 0)) (by (with_reducible repeat (first | refine bN ?_ _ | refine bD ?_ | refine bA ?_ _)); exact BK113.out) hb); have n1_ := Am (below_step (by repeat (first | (with_reducible first | exact HB.out | apply pA | apply pN | apply pD | refine pS ?_ GE113.out) | exact HB.out)) hb); clear BK113; clear HB; have BK113 := n0_; have HB := n1_; clear n0_ n1_; (try clear hb); (try clear hb2); (try clear hk); (try clear hi)))
          go_ret
          exact ⟨by first | rfl | (simp [errW_none, errW_some] <;> rfl) | (simp [*, errW_none, errW_some] <;> rfl), by repeat (first | (with_reducible first | exact HB.out | apply pA | apply pN | apply pD | refine pS ?_ GE113.out) | exact HB.out)⟩
        ·
         rw [if_neg c24] at H
         exact absurd H (by simp)
       ·
        rw [if_neg c23] at H
        have c23b0 : (a0_1 == 0) = false := beq_eq_false_iff_ne.mpr c23
        have c23b1 : (a0_1 != 0) = true := bne_iff_ne.mpr c23
        obtain rfl := Option.some.inj H
        have hcz35_0 : wc.cell? ⟨gb113, 0, none⟩ = some (.int .i64 a0_0) := (blk_cell BK113.out 0).trans rfl
        have hcz35_1 : wc.cell? ⟨gb113, 1, none⟩ = some (.int .i64 a0_1) := (blk_cell BK113.out 1).trans rfl
        have hcz35_2 : wc.cell? ⟨gb113, 2, none⟩ = some (.slice A0_2 l0_2.length c0_2) := (blk_cell BK113.out 2).trans rfl
        have hfz35_0 := blk_frozen BK113.out 0
        have hfz35_1 := blk_frozen BK113.out 1
        have hfz35_2 := blk_frozen BK113.out 2
        go_wp2
        go_ret
        exact ⟨by first | rfl | (simp [errW_none, errW_some] <;> rfl) | (simp [*, errW_none, errW_some] <;> rfl), by repeat (first | (with_reducible first | exact HB.out | apply pA | apply pN | apply pD | refine pS ?_ GE113.out) | exact HB.out)⟩
      ·
       rw [if_neg c22] at H
       have c22b0 : ((l0_2.length : Int) == 2) = false := beq_eq_false_iff_ne.mpr c22
       have c22b1 : ((l0_2.length : Int) != 2) = true := bne_iff_ne.mpr c22
       obtain rfl := Option.some.inj H
       have hcz36_0 : wc.cell? ⟨gb113, 0, none⟩ = some (.int .i64 a0_0) := (blk_cell BK113.out 0).trans rfl
       have hcz36_1 : wc.cell? ⟨gb113, 1, none⟩ = some (.int .i64 a0_1) := (blk_cell BK113.out 1).trans rfl
       have hcz36_2 : wc.cell? ⟨gb113, 2, none⟩ = some (.slice A0_2 l0_2.length c0_2) := (blk_cell BK113.out 2).trans rfl
       have hfz36_0 := blk_frozen BK113.out 0
       have hfz36_1 := blk_frozen BK113.out 1
       have hfz36_2 := blk_frozen BK113.out 2
       go_wp2
       go_ret
       exact ⟨by first | rfl | (simp [errW_none, errW_some] <;> rfl) | (simp [*, errW_none, errW_some] <;> rfl), by repeat (first | (with_reducible first | exact HB.out | apply pA | apply pN | apply pD | refine pS ?_ GE113.out) | exact HB.out)⟩
     ·
      replace c21 := Bool.eq_false_iff.mpr c21
      subst c21
      have H1 : (some false) = some r := by rw [if_neg (show ¬ (false = true) by decide)] at H; exact H
      clear H
      have H := H1
      clear H1
      obtain rfl := Option.some.inj H
      go_wp2
      go_ret
      exact ⟨by first | rfl | (simp [errW_none, errW_some] <;> rfl) | (simp [*, errW_none, errW_some] <;> rfl), by repeat (first | (with_reducible first | exact HB.out | apply pA | apply pN | apply pD | refine pS ?_ GE113.out) | exact HB.out)⟩

end Go.Proofs.Ytjnplfbggklkfaa.Rg

-- Written by a program of this claim's session: print.py's form, some functions told by hand.
namespace Go.Proofs.Ytjnplfbggklkfaa.Rg
open Go.RowKit Go.Proofs.YtjnplfbggklkfaaW.PrintWords Go.Proofs.YtjnplfbggklkfaaW.PrintLast Go.Proofs.YtjnplfbggklkfaaW.PrintMore
attribute [local go_sem] max2_int min2_int max_two min_two max_three min_three max_four min_four   -- for this text's walks alone
set_option linter.unusedVariables false
set_option linter.unusedSimpArgs false

/-! ### ring_sizeOf: function 31 -/
mutual
def ring_sizeOf.l0 : Nat → Int → Int → List (S24) → Int → Int → Option (Int × Int)
 | 0, _, _, _, _, _ => none
 | k + 1, x2, x3, x9, x10, x11 => if x11 < x10 then (if 0 ≤ x11 then (if x11 < (x9.length : Int) then ((ring_sizeOf.f k ((rd_T24 x9 x11).f0) ((rd_T24 x9 x11).f1) ((rd_T24 x9 x11).f2)).bind fun bt111 => (ring_sizeOf.l0 k (wrap64 (x2 + bt111.1)) (mx x3 bt111.2) x9 x10 (wrap64 (x11 + 1)))) else (none)) else (none)) else (some (wrap64 (x2 + 1), wrap64 (x3 + 1)))
def ring_sizeOf.f : Nat → Int → Int → List (S24) → Option (Int × Int)
 | 0, _, _, _ => none
 | k + 1, a0_0, a0_1, l0_2 => ring_sizeOf.l0 k 0 0 l0_2 (l0_2.length : Int) 0
end
theorem ring_sizeOf.mono_l : ∀ k, (∀ y0 y1 y2, LeO (ring_sizeOf.f k y0 y1 y2) (ring_sizeOf.f (k + 1) y0 y1 y2)) ∧ (∀ y0 y1 y2 y3 y4, LeO (ring_sizeOf.l0 k y0 y1 y2 y3 y4) (ring_sizeOf.l0 (k + 1) y0 y1 y2 y3 y4))
 | 0 => ⟨fun _ _ _ r h => by simp [ring_sizeOf.f] at h, fun _ _ _ _ _ r h => by simp [ring_sizeOf.l0] at h⟩
 | k + 1 => by
  obtain ⟨ih0, ih1⟩ := ring_sizeOf.mono_l k
  refine ⟨?_, ?_⟩
  ·
   intro y0 y1 y2
   unfold ring_sizeOf.f
   repeat' first
   | (with_reducible exact ih0 _ _ _)
   | (with_reducible exact ih1 _ _ _ _ _)
   | (with_reducible exact LeO.refl _)
   | (with_reducible exact LeO.none _)
   | (with_reducible refine LeO.ite ?_ ?_)
   | (with_reducible refine LeO.bind ?_ (fun _ => ?_))
   | exact ih0 _ _ _
   | exact ih1 _ _ _ _ _
   | exact LeO.none _
   | refine LeO.ite ?_ ?_
   | refine LeO.bind ?_ (fun _ => ?_)
  ·
   intro y0 y1 y2 y3 y4
   unfold ring_sizeOf.l0
   repeat' first
   | (with_reducible exact ih0 _ _ _)
   | (with_reducible exact ih1 _ _ _ _ _)
   | (with_reducible exact LeO.refl _)
   | (with_reducible exact LeO.none _)
   | (with_reducible refine LeO.ite ?_ ?_)
   | (with_reducible refine LeO.bind ?_ (fun _ => ?_))
   | exact ih0 _ _ _
   | exact ih1 _ _ _ _ _
   | exact LeO.none _
   | refine LeO.ite ?_ ?_
   | refine LeO.bind ?_ (fun _ => ?_)
theorem ring_sizeOf.mono : ∀ a0 a1 a2 k, LeO (ring_sizeOf.f k a0 a1 a2) (ring_sizeOf.f (k + 1) a0 a1 a2) := by
 intro a0 a1 a2 k
 obtain ⟨ih0, ih1⟩ := ring_sizeOf.mono_l k
 exact ih0 a0 a1 a2
set_option maxHeartbeats 8000000 in
set_option maxRecDepth 100000 in
theorem ring_sizeOf.calls (k : Nat) : ∀ (a0_0 : Int) (a0_1 : Int) (A0_2 : Option Addr) (c0_2 : Nat) (l0_2 : List (S24)) (r1 : Int) (r2 : Int) (w : World) (hr0_2 : Kd.C k24 w A0_2 l0_2.length l0_2) (hc0_2 : l0_2.length ≤ c0_2) (h : ring_sizeOf.f k a0_0 a0_1 l0_2 = some (r1, r2)),
  Calls Try.prog 31 #[.agg #[.int .i64 a0_0, .int .i64 a0_1, .slice A0_2 l0_2.length c0_2]] w fun e w' => e = .returned (.tuple #[.int .i64 r1, .int .i64 r2]) ∧ Below w.heap.size w w' := by
 induction k using Nat.strongRecOn with
 | _ k ih =>
 intro a0_0 a0_1 A0_2 c0_2 l0_2 r1 r2 w hr0_2 hc0_2 h
 cases k with
 | zero => exact absurd h (by simp [ring_sizeOf.f])
 | succ k =>
 simp only [ring_sizeOf.f] at h
 have hu24 := Try.underlying24
 have HR0_2 := Am hr0_2
 have HC0_2 := Am hc0_2
 clear hr0_2 hc0_2
 have HB := Am (Below.refl w.heap.size w)
 have H : (ring_sizeOf.l0 k 0 0 l0_2 (l0_2.length : Int) 0) = some (r1, r2) := h
 clear h
 have H' := Am H
 clear H
 go_enter Try.func31, Try.ntmps31
 go_wp2_with (first | ((with_reducible refine gate_dst (N := 1) rfl ?_); refine box_event ?hg (N := 1) ?hd (cs := #[.int .i64 a0_0, .int .i64 a0_1, .slice A0_2 l0_2.length c0_2]) (t := 24) ?hr ?_; (case hd => rfl); (case hg => rfl); (case hr => first | (go_simp; done) | (go_simp; rfl)); intro gb108 hg w2 hbox hb; have n0_ := Am (below_step (by repeat (first | (with_reducible first | exact HB.out | apply pA | apply pN | apply pD) | exact HB.out)) hb); have n1_ := Am (hbox); have n2_ := Am ((by rw [hg]; exact (below_size (by repeat (first | (with_reducible first | exact HB.out | apply pA | apply pN | apply pD) | exact HB.out))) : w.heap.size ≤ gb108)); have n3_ := Am ((by rw [hg]; exact (below_size (by repeat (first | (with_reducible first | exact HB.out | apply pA | apply pN | apply pD) | exact HB.out))) : w.heap.size ≤ gb108)); clear HB; have HB := n0_; have BK108 := n1_; have GW108 := n2_; have GE108 := n3_; clear n0_ n1_ n2_ n3_; clear hb hbox hg; have hcz3_0 : w2.cell? ⟨gb108, 0, none⟩ = some (.int .i64 a0_0) := (blk_cell BK108.out 0).trans rfl; have hcz3_1 : w2.cell? ⟨gb108, 1, none⟩ = some (.int .i64 a0_1) := (blk_cell BK108.out 1).trans rfl; have hcz3_2 : w2.cell? ⟨gb108, 2, none⟩ = some (.slice A0_2 l0_2.length c0_2) := (blk_cell BK108.out 2).trans rfl; have hfz3_0 := blk_frozen BK108.out 0; have hfz3_1 := blk_frozen BK108.out 1; have hfz3_2 := blk_frozen BK108.out 2))
 go_loopg [2, 3, 11] k (fun kq v2 v3 v11 w' => ∃ (x2_1 : Int) (x3_1 : Int) (x11_1 : Int), v2 = .int .i64 x2_1 ∧ v3 = .int .i64 x3_1 ∧ v11 = .int .i64 x11_1 ∧ Aside0 (ring_sizeOf.l0 kq x2_1 x3_1 l0_2 (l0_2.length : Int) x11_1 = some (r1, r2)) ∧ Aside0 (kq ≤ k) ∧ Aside0 (w'.heap[gb108]? = some (.cells #[.int .i64 a0_0, .int .i64 a0_1, (.slice A0_2 l0_2.length c0_2)] 24 (0, 0))) ∧ Aside0 (Below w.heap.size w w'))
 case atStart => exact ⟨(0), (0), (0), (by first | rfl | (simp; done) | (simp [*]; done)), (by first | rfl | (simp; done) | (simp [*]; done)), (by first | rfl | (simp; done) | (simp [*]; done)), H', ⟨Nat.le_refl _⟩, ⟨by (with_reducible repeat (first | refine bN ?_ _ | refine bD ?_ | refine bA ?_ _)); exact BK108.out⟩, ⟨by repeat (first | (with_reducible first | exact HB.out | apply pA | apply pN | apply pD | refine pS ?_ GE108.out) | exact HB.out)⟩⟩
 case round =>
  clear H'
  try clear p2
  try clear c3
  try clear hcz3_0
  try clear hcz3_1
  try clear hcz3_2
  try clear hfz3_0
  try clear hfz3_1
  try clear hfz3_2
  obtain ⟨x2_1, x3_1, x11_1, rfl, rfl, rfl, HA, HK1, BK108, HB⟩ := hrel
  cases gk with
  | zero => exact absurd HA.out (by simp [ring_sizeOf.l0])
  | succ k1 =>
   have H := HA.out
   clear HA
   simp only [ring_sizeOf.l0] at H
   by_cases c4 : x11_1 < (l0_2.length : Int)
   ·
    rw [if_pos c4] at H
    have c4b0 : decide (x11_1 < (l0_2.length : Int)) = true := decide_eq_true c4
    clear c4
    by_cases c5 : 0 ≤ x11_1
    ·
     rw [if_pos c5] at H
     have c5b0 : decide (0 ≤ x11_1) = true := decide_eq_true c5
     clear c5
     by_cases c6 : x11_1 < (l0_2.length : Int)
     ·
      rw [if_pos c6] at H
      have c6b0 : decide (x11_1 < (l0_2.length : Int)) = true := decide_eq_true c6
      clear c6
      replace H := Option.bind_eq_some_iff.mp H
      obtain ⟨⟨t111, t112⟩, A70, H⟩ := H
      replace H : (ring_sizeOf.l0 k1 (wrap64 (x2_1 + t111)) (mx x3_1 t112) l0_2 (l0_2.length : Int) (wrap64 (x11_1 + 1))) = some (r1, r2) := H
      have A7 := Am A70
      clear A70
      obtain ⟨ji8, hji8⟩ : ∃ j_ : Int, (mx x3_1 t112) = j_ := ⟨_, rfl⟩
      replace H : (ring_sizeOf.l0 k1 (wrap64 (x2_1 + t111)) ji8 l0_2 (l0_2.length : Int) (wrap64 (x11_1 + 1))) = some (r1, r2) := by first | (rw [hji8] at H; exact H) | (simp only [hji8] at H ⊢; exact H)
      (try rw [hji8] at A7)
      have hji8_ : (if x3_1 < t112 then t112 else x3_1) = ji8 := hji8
      have H' := Am H
      clear H
      have p109 : 0 ≤ (x11_1 : Int) := of_decide_eq_true (by first | (with_reducible assumption) | assumption)
      have q109 : x11_1 < (l0_2.length : Int) := of_decide_eq_true (by first | (with_reducible assumption) | assumption)
      obtain ⟨ad109, A109_2, c109_2, e109, hx109_0, hx109_1, hx109_2, hl109_2, hi109_2⟩ := at_T24 HR0_2.out x11_1 p109 q109
      cases e109
      replace hx109_0 := (HB.out.cell (wB w _ hx109_0)).trans hx109_0
      replace hx109_1 := (HB.out.cell (wB w _ hx109_1)).trans hx109_1
      replace hx109_2 := (HB.out.cell (wB w _ hx109_2)).trans hx109_2
      have HR109_2 := Am hi109_2
      have HC109_2 := Am hl109_2
      clear hi109_2 hl109_2
      replace p109 := eq_true p109
      replace q109 := eq_true q109
      go_wp2_with (first | ((with_reducible refine gate_dst (N := 5) rfl ?_); refine box_event ?hg (N := 5) ?hd (cs := #[.int .i64 0, .int .i64 0, .slice none 0 0]) (t := 24) ?hr ?_; (case hd => rfl); (case hg => rfl); (case hr => first | (go_simp; done) | (go_simp; rfl)); intro gb110 hg w9 hbox hb; have n0_ := Am (blk_below (g := gb108) (o := .cells #[.int .i64 a0_0, .int .i64 a0_1, .slice (some ad109) l0_2.length c0_2] 24 (0, 0)) (by (with_reducible repeat (first | refine bN ?_ _ | refine bD ?_ | refine bA ?_ _)); exact BK108.out) hb); have n1_ := Am (below_step (by repeat (first | (with_reducible first | exact HB.out | apply pA | apply pN | apply pD | refine pS ?_ GE108.out) | exact HB.out)) hb); have n2_ := Am (hbox); have n3_ := Am ((by rw [hg]; exact (below_size (by repeat (first | (with_reducible first | exact HB.out | apply pA | apply pN | apply pD | refine pS ?_ GE108.out) | exact HB.out))) : w.heap.size ≤ gb110)); have n4_ := Am ((by rw [hg]; exact (below_size (by repeat (first | (with_reducible first | exact HB.out | apply pA | apply pN | apply pD | refine pS ?_ GE108.out) | exact HB.out))) : w.heap.size ≤ gb110)); have n5_ := Am ((by rw [hg]; exact Nat.ne_of_lt (blk_lt (g := gb108) (o := .cells #[.int .i64 a0_0, .int .i64 a0_1, .slice (some ad109) l0_2.length c0_2] 24 (0, 0)) (by (with_reducible repeat (first | refine bN ?_ _ | refine bD ?_ | refine bA ?_ _)); exact BK108.out)) : gb108 ≠ gb110)); have n6_ := Am ((by rw [hg]; exact Nat.ne_of_gt (blk_lt (g := gb108) (o := .cells #[.int .i64 a0_0, .int .i64 a0_1, .slice (some ad109) l0_2.length c0_2] 24 (0, 0)) (by (with_reducible repeat (first | refine bN ?_ _ | refine bD ?_ | refine bA ?_ _)); exact BK108.out)) : gb110 ≠ gb108)); clear BK108; clear HB; have BK108 := n0_; have HB := n1_; have BK110 := n2_; have GW110 := n3_; have GE110 := n4_; have NB108_110 := n5_; have NB110_108 := n6_; clear n0_ n1_ n2_ n3_ n4_ n5_ n6_; clear hb hbox hg; have hnb10 := NB110_108.out; have hnc10 := NB108_110.out; have hcz11_0 : w9.cell? ⟨gb110, 0, none⟩ = some (.int .i64 0) := (blk_cell BK110.out 0).trans rfl; have hcz11_1 : w9.cell? ⟨gb110, 1, none⟩ = some (.int .i64 0) := (blk_cell BK110.out 1).trans rfl; have hcz11_2 : w9.cell? ⟨gb110, 2, none⟩ = some (.slice none 0 0) := (blk_cell BK110.out 2).trans rfl; have hfz11_0 := blk_frozen BK110.out 0; have hfz11_1 := blk_frozen BK110.out 1; have hfz11_2 := blk_frozen BK110.out 2) | ((with_reducible refine gate_callee (f := 31) rfl ?_); refine goesL_ (some 17) rfl rfl Try.func31 (by kernel_rfl) rfl #[.agg #[.int .i64 ((rd_T24 l0_2 x11_1).f0), .int .i64 ((rd_T24 l0_2 x11_1).f1), .slice A109_2 ((rd_T24 l0_2 x11_1).f2).length c109_2]] rfl (by (try simp only [List.map_toArray, List.map_cons, List.map_nil]); first | done | rfl | (simp only [List.length_drop, List.length_take]; rfl)) ?_; (with_reducible refine (ih k1 (by have := HK1.out; omega) ((rd_T24 l0_2 x11_1).f0) ((rd_T24 l0_2 x11_1).f1) _ _ ((rd_T24 l0_2 x11_1).f2) t111 t112 _ ?side1 ?side2 A7.out).mono ?_); (case side1 => exact Kd.C_below HR109_2.out (by repeat (first | (with_reducible first | exact HB.out | apply pA | apply pN | apply pD | refine pS ?_ GE108.out | refine pS ?_ GE110.out) | exact HB.out))); (case side2 => exact HC109_2.out); rintro e w12 ⟨rfl, hb⟩; refine ⟨_, rfl, ?_⟩; have n0_ := Am (blk_below (g := gb108) (o := .cells #[.int .i64 a0_0, .int .i64 a0_1, .slice (some ad109) l0_2.length c0_2] 24 (0, 0)) (by (with_reducible repeat (first | refine bN ?_ _ | refine bD ?_ | refine bA ?_ _)); refine blk_far ?_ NB108_110.out _; (with_reducible repeat (first | refine bN ?_ _ | refine bD ?_ | refine bA ?_ _)); refine blk_far ?_ NB108_110.out _; (with_reducible repeat (first | refine bN ?_ _ | refine bD ?_ | refine bA ?_ _)); refine blk_far ?_ NB108_110.out _; (with_reducible repeat (first | refine bN ?_ _ | refine bD ?_ | refine bA ?_ _)); exact BK108.out) hb); have n1_ := Am (blk_below (g := gb110) (o := .cells #[.int .i64 ((rd_T24 l0_2 x11_1).f0), .int .i64 ((rd_T24 l0_2 x11_1).f1), .slice A109_2 ((rd_T24 l0_2 x11_1).f2).length c109_2] 24 (0, 0)) (by (with_reducible repeat (first | refine bN ?_ _ | refine bD ?_ | refine bA ?_ _)); refine blk_put (cs := #[.int .i64 ((rd_T24 l0_2 x11_1).f0), .int .i64 ((rd_T24 l0_2 x11_1).f1), .slice none 0 0]) ?_ 2 _ rfl; (with_reducible repeat (first | refine bN ?_ _ | refine bD ?_ | refine bA ?_ _)); refine blk_put (cs := #[.int .i64 ((rd_T24 l0_2 x11_1).f0), .int .i64 0, .slice none 0 0]) ?_ 1 _ rfl; (with_reducible repeat (first | refine bN ?_ _ | refine bD ?_ | refine bA ?_ _)); refine blk_put (cs := #[.int .i64 0, .int .i64 0, .slice none 0 0]) ?_ 0 _ rfl; (with_reducible repeat (first | refine bN ?_ _ | refine bD ?_ | refine bA ?_ _)); exact BK110.out) hb); have n2_ := Am (below_step (by repeat (first | (with_reducible first | exact HB.out | apply pA | apply pN | apply pD | refine pS ?_ GE108.out | refine pS ?_ GE110.out) | exact HB.out)) hb); clear BK108; clear BK110; clear HB; have BK108 := n0_; have BK110 := n1_; have HB := n2_; clear n0_ n1_ n2_; (try clear hb); (try clear hb2); (try clear hk); (try clear hi)))
      go_roundg k1
      case measure => have := HK1.out; omega
      case rel => exact ⟨(wrap64 (x2_1 + t111)), (ji8), (wrap64 (x11_1 + 1)), (by first | rfl | (simp; done) | (simp [*]; done)), (by first | rfl | (simp; done) | (simp only [← hji8] <;> (first | rfl | simp)) | (simp [*]; done)), (by first | rfl | (simp; done) | (simp [*]; done)), H', ⟨by have := HK1.out; omega⟩, ⟨by (with_reducible repeat (first | refine bN ?_ _ | refine bD ?_ | refine bA ?_ _)); exact BK108.out⟩, ⟨by repeat (first | (with_reducible first | exact HB.out | apply pA | apply pN | apply pD | refine pS ?_ GE108.out | refine pS ?_ GE110.out) | exact HB.out)⟩⟩
     ·
      rw [if_neg c6] at H
      exact absurd H (by simp)
    ·
     rw [if_neg c5] at H
     exact absurd H (by simp)
   ·
    rw [if_neg c4] at H
    have c4b0 : decide (x11_1 < (l0_2.length : Int)) = false := decide_eq_false c4
    clear c4
    simp only [Option.some.injEq, Prod.mk.injEq] at H
    obtain ⟨rfl, rfl⟩ := H
    go_wp2
    go_ret2
    exact ⟨by first | rfl | (simp [errW_none, errW_some] <;> rfl) | (simp [*, errW_none, errW_some] <;> rfl), by repeat (first | (with_reducible first | exact HB.out | apply pA | apply pN | apply pD | refine pS ?_ GE108.out) | exact HB.out)⟩

end Go.Proofs.Ytjnplfbggklkfaa.Rg

-- Written by a program of this claim's session: print.py's form, some functions told by hand.
namespace Go.Proofs.Ytjnplfbggklkfaa.Rg
open Go.RowKit Go.Proofs.YtjnplfbggklkfaaW.PrintWords Go.Proofs.YtjnplfbggklkfaaW.PrintLast Go.Proofs.YtjnplfbggklkfaaW.PrintMore
attribute [local go_sem] max2_int min2_int max_two min_two max_three min_three max_four min_four   -- for this text's walks alone
set_option linter.unusedVariables false
set_option linter.unusedSimpArgs false

/-! ### ring_Valid: function 23 -/
def ring_Valid.f (k : Nat) (a0_0 : Int) (a0_1 : Int) (l0_2 : List (S24)) : Option (Bool) := (ring_sizeOf.f k a0_0 a0_1 l0_2).bind fun bt119 => (if bt119.1 ≤ 60 then (if bt119.2 ≤ 12 then ((ring_formed.f k a0_0 a0_1 l0_2).bind fun t121 => (if t121 = true then ((ring_right.f a0_0 a0_1 l0_2 1000000).bind fun t122 => (some t122)) else (some false))) else (some false)) else (some false))
theorem ring_Valid.mono : ∀ a0 a1 a2 k, LeO (ring_Valid.f k a0 a1 a2) (ring_Valid.f (k + 1) a0 a1 a2) := by
 intro a0 a1 a2 k
 unfold ring_Valid.f
 repeat' first
   | (with_reducible exact ring_formed.mono _ _ _ _)
   | (with_reducible exact ring_sizeOf.mono _ _ _ _)
   | (with_reducible exact LeO.refl _)
   | (with_reducible exact LeO.none _)
   | (with_reducible refine LeO.ite ?_ ?_)
   | (with_reducible refine LeO.bind ?_ (fun _ => ?_))
   | exact ring_formed.mono _ _ _ _
   | exact ring_sizeOf.mono _ _ _ _
   | exact LeO.none _
   | refine LeO.ite ?_ ?_
   | refine LeO.bind ?_ (fun _ => ?_)
set_option maxHeartbeats 8000000 in
set_option maxRecDepth 100000 in
theorem ring_Valid.calls (k : Nat) (a0_0 : Int) (a0_1 : Int) (A0_2 : Option Addr) (c0_2 : Nat) (l0_2 : List (S24)) (r : Bool) (w : World) (hr0_2 : Kd.C k24 w A0_2 l0_2.length l0_2) (hc0_2 : l0_2.length ≤ c0_2) (h : ring_Valid.f k a0_0 a0_1 l0_2 = some r) :
  Calls Try.prog 23 #[.agg #[.int .i64 a0_0, .int .i64 a0_1, .slice A0_2 l0_2.length c0_2]] w fun e w' => e = .returned (.bool r) ∧ Below w.heap.size w w' := by
 have hu24 := Try.underlying24
 have HR0_2 := Am hr0_2
 have HC0_2 := Am hc0_2
 clear hr0_2 hc0_2
 have HB := Am (Below.refl w.heap.size w)
 have H : ((ring_sizeOf.f k a0_0 a0_1 l0_2).bind fun bt119 => (if bt119.1 ≤ 60 then (if bt119.2 ≤ 12 then ((ring_formed.f k a0_0 a0_1 l0_2).bind fun t121 => (if t121 = true then ((ring_right.f a0_0 a0_1 l0_2 1000000).bind fun t122 => (some t122)) else (some false))) else (some false)) else (some false))) = some r := h
 clear h
 replace H := Option.bind_eq_some_iff.mp H
 obtain ⟨⟨t119, t120⟩, A20, H⟩ := H
 replace H : (if t119 ≤ 60 then (if t120 ≤ 12 then ((ring_formed.f k a0_0 a0_1 l0_2).bind fun t121 => (if t121 = true then ((ring_right.f a0_0 a0_1 l0_2 1000000).bind fun t122 => (some t122)) else (some false))) else (some false)) else (some false)) = some r := H
 have A2 := Am A20
 clear A20
 by_cases c3 : t119 ≤ 60
 ·
  rw [if_pos c3] at H
  have c3b0 : decide (t119 ≤ 60) = true := decide_eq_true c3
  clear c3
  by_cases c4 : t120 ≤ 12
  ·
   rw [if_pos c4] at H
   have c4b0 : decide (t120 ≤ 12) = true := decide_eq_true c4
   clear c4
   replace H := Option.bind_eq_some_iff.mp H
   obtain ⟨t121, A50, H⟩ := H
   replace H : (if t121 = true then ((ring_right.f a0_0 a0_1 l0_2 1000000).bind fun t122 => (some t122)) else (some false)) = some r := H
   have A5 := Am A50
   clear A50
   by_cases c6 : t121 = true
   ·
    subst c6
    have H1 : ((ring_right.f a0_0 a0_1 l0_2 1000000).bind fun t122 => (some t122)) = some r := by rw [if_pos rfl] at H; exact H
    clear H
    have H := H1
    clear H1
    replace H := Option.bind_eq_some_iff.mp H
    obtain ⟨t122, A70, H⟩ := H
    replace H : (some t122) = some r := H
    have A7 := Am A70
    clear A70
    obtain rfl := Option.some.inj H
    go_enter Try.func23, Try.ntmps23
    go_wp2_with (first | ((with_reducible refine gate_dst (N := 1) rfl ?_); refine box_event ?hg (N := 1) ?hd (cs := #[.int .i64 a0_0, .int .i64 a0_1, .slice A0_2 l0_2.length c0_2]) (t := 24) ?hr ?_; (case hd => rfl); (case hg => rfl); (case hr => first | (go_simp; done) | (go_simp; rfl)); intro gb118 hg w8 hbox hb; have n0_ := Am (below_step (by repeat (first | (with_reducible first | exact HB.out | apply pA | apply pN | apply pD) | exact HB.out)) hb); have n1_ := Am (hbox); have n2_ := Am ((by rw [hg]; exact (below_size (by repeat (first | (with_reducible first | exact HB.out | apply pA | apply pN | apply pD) | exact HB.out))) : w.heap.size ≤ gb118)); have n3_ := Am ((by rw [hg]; exact (below_size (by repeat (first | (with_reducible first | exact HB.out | apply pA | apply pN | apply pD) | exact HB.out))) : w.heap.size ≤ gb118)); clear HB; have HB := n0_; have BK118 := n1_; have GW118 := n2_; have GE118 := n3_; clear n0_ n1_ n2_ n3_; clear hb hbox hg; have hcz9_0 : w8.cell? ⟨gb118, 0, none⟩ = some (.int .i64 a0_0) := (blk_cell BK118.out 0).trans rfl; have hcz9_1 : w8.cell? ⟨gb118, 1, none⟩ = some (.int .i64 a0_1) := (blk_cell BK118.out 1).trans rfl; have hcz9_2 : w8.cell? ⟨gb118, 2, none⟩ = some (.slice A0_2 l0_2.length c0_2) := (blk_cell BK118.out 2).trans rfl; have hfz9_0 := blk_frozen BK118.out 0; have hfz9_1 := blk_frozen BK118.out 1; have hfz9_2 := blk_frozen BK118.out 2) | ((with_reducible refine gate_callee (f := 31) rfl ?_); refine goesL_ (some 7) rfl rfl Try.func31 (by kernel_rfl) rfl #[.agg #[.int .i64 a0_0, .int .i64 a0_1, .slice A0_2 l0_2.length c0_2]] rfl (by (try simp only [List.map_toArray, List.map_cons, List.map_nil]); first | done | rfl | (simp only [List.length_drop, List.length_take]; rfl)) ?_; (with_reducible refine (ring_sizeOf.calls k a0_0 a0_1 _ _ l0_2 t119 t120 _ ?side1 ?side2 A2.out).mono ?_); (case side1 => repeat (first | exact (Kd.C_below HR0_2.out HB.out) | (with_reducible refine Kd.C_alloc ?_ _) | (with_reducible refine Kd.C_drewN ?_ _) | (with_reducible refine Kd.C_drew ?_))); (case side2 => exact HC0_2.out); rintro e w10 ⟨rfl, hb⟩; refine ⟨_, rfl, ?_⟩; have n0_ := Am (blk_below (g := gb118) (o := .cells #[.int .i64 a0_0, .int .i64 a0_1, .slice A0_2 l0_2.length c0_2] 24 (0, 0)) (by (with_reducible repeat (first | refine bN ?_ _ | refine bD ?_ | refine bA ?_ _)); exact BK118.out) hb); have n1_ := Am (below_step (by repeat (first | (with_reducible first | exact HB.out | apply pA | apply pN | apply pD | refine pS ?_ GE118.out) | exact HB.out)) hb); clear BK118; clear HB; have BK118 := n0_; have HB := n1_; clear n0_ n1_; (try clear hb); (try clear hb2); (try clear hk); (try clear hi); have hcz11_0 : w10.cell? ⟨gb118, 0, none⟩ = some (.int .i64 a0_0) := (blk_cell BK118.out 0).trans rfl; have hcz11_1 : w10.cell? ⟨gb118, 1, none⟩ = some (.int .i64 a0_1) := (blk_cell BK118.out 1).trans rfl; have hcz11_2 : w10.cell? ⟨gb118, 2, none⟩ = some (.slice A0_2 l0_2.length c0_2) := (blk_cell BK118.out 2).trans rfl; have hfz11_0 := blk_frozen BK118.out 0; have hfz11_1 := blk_frozen BK118.out 1; have hfz11_2 := blk_frozen BK118.out 2) | (go_at_call 32; (with_reducible refine (ring_formed.calls k a0_0 a0_1 _ _ l0_2 true _ ?side1 ?side2 A5.out).mono ?_); (case side1 => repeat (first | exact (Kd.C_below HR0_2.out HB.out) | (with_reducible refine Kd.C_alloc ?_ _) | (with_reducible refine Kd.C_drewN ?_ _) | (with_reducible refine Kd.C_drew ?_))); (case side2 => exact HC0_2.out); rintro e w12 ⟨rfl, hb⟩; have n0_ := Am (blk_below (g := gb118) (o := .cells #[.int .i64 a0_0, .int .i64 a0_1, .slice A0_2 l0_2.length c0_2] 24 (0, 0)) (by (with_reducible repeat (first | refine bN ?_ _ | refine bD ?_ | refine bA ?_ _)); exact BK118.out) hb); have n1_ := Am (below_step (by repeat (first | (with_reducible first | exact HB.out | apply pA | apply pN | apply pD | refine pS ?_ GE118.out) | exact HB.out)) hb); clear BK118; clear HB; have BK118 := n0_; have HB := n1_; clear n0_ n1_; (try clear hb); (try clear hb2); (try clear hk); (try clear hi); have hcz13_0 : w12.cell? ⟨gb118, 0, none⟩ = some (.int .i64 a0_0) := (blk_cell BK118.out 0).trans rfl; have hcz13_1 : w12.cell? ⟨gb118, 1, none⟩ = some (.int .i64 a0_1) := (blk_cell BK118.out 1).trans rfl; have hcz13_2 : w12.cell? ⟨gb118, 2, none⟩ = some (.slice A0_2 l0_2.length c0_2) := (blk_cell BK118.out 2).trans rfl; have hfz13_0 := blk_frozen BK118.out 0; have hfz13_1 := blk_frozen BK118.out 1; have hfz13_2 := blk_frozen BK118.out 2) | (go_at_call 33; (with_reducible refine (ring_right.calls a0_0 a0_1 _ _ l0_2 1000000 t122 _ ?side1 ?side2 A7.out).mono ?_); (case side1 => repeat (first | exact (Kd.C_below HR0_2.out HB.out) | (with_reducible refine Kd.C_alloc ?_ _) | (with_reducible refine Kd.C_drewN ?_ _) | (with_reducible refine Kd.C_drew ?_))); (case side2 => exact HC0_2.out); rintro e w14 ⟨rfl, hb⟩; have n0_ := Am (blk_below (g := gb118) (o := .cells #[.int .i64 a0_0, .int .i64 a0_1, .slice A0_2 l0_2.length c0_2] 24 (0, 0)) (by (with_reducible repeat (first | refine bN ?_ _ | refine bD ?_ | refine bA ?_ _)); exact BK118.out) hb); have n1_ := Am (below_step (by repeat (first | (with_reducible first | exact HB.out | apply pA | apply pN | apply pD | refine pS ?_ GE118.out) | exact HB.out)) hb); clear BK118; clear HB; have BK118 := n0_; have HB := n1_; clear n0_ n1_; (try clear hb); (try clear hb2); (try clear hk); (try clear hi)))
    go_ret
    exact ⟨by first | rfl | (simp [errW_none, errW_some] <;> rfl) | (simp [*, errW_none, errW_some] <;> rfl), by repeat (first | (with_reducible first | exact HB.out | apply pA | apply pN | apply pD | refine pS ?_ GE118.out) | exact HB.out)⟩
   ·
    replace c6 := Bool.eq_false_iff.mpr c6
    subst c6
    have H1 : (some false) = some r := by rw [if_neg (show ¬ (false = true) by decide)] at H; exact H
    clear H
    have H := H1
    clear H1
    obtain rfl := Option.some.inj H
    go_enter Try.func23, Try.ntmps23
    go_wp2_with (first | ((with_reducible refine gate_dst (N := 1) rfl ?_); refine box_event ?hg (N := 1) ?hd (cs := #[.int .i64 a0_0, .int .i64 a0_1, .slice A0_2 l0_2.length c0_2]) (t := 24) ?hr ?_; (case hd => rfl); (case hg => rfl); (case hr => first | (go_simp; done) | (go_simp; rfl)); intro gb118 hg w15 hbox hb; have n0_ := Am (below_step (by repeat (first | (with_reducible first | exact HB.out | apply pA | apply pN | apply pD) | exact HB.out)) hb); have n1_ := Am (hbox); have n2_ := Am ((by rw [hg]; exact (below_size (by repeat (first | (with_reducible first | exact HB.out | apply pA | apply pN | apply pD) | exact HB.out))) : w.heap.size ≤ gb118)); have n3_ := Am ((by rw [hg]; exact (below_size (by repeat (first | (with_reducible first | exact HB.out | apply pA | apply pN | apply pD) | exact HB.out))) : w.heap.size ≤ gb118)); clear HB; have HB := n0_; have BK118 := n1_; have GW118 := n2_; have GE118 := n3_; clear n0_ n1_ n2_ n3_; clear hb hbox hg; have hcz16_0 : w15.cell? ⟨gb118, 0, none⟩ = some (.int .i64 a0_0) := (blk_cell BK118.out 0).trans rfl; have hcz16_1 : w15.cell? ⟨gb118, 1, none⟩ = some (.int .i64 a0_1) := (blk_cell BK118.out 1).trans rfl; have hcz16_2 : w15.cell? ⟨gb118, 2, none⟩ = some (.slice A0_2 l0_2.length c0_2) := (blk_cell BK118.out 2).trans rfl; have hfz16_0 := blk_frozen BK118.out 0; have hfz16_1 := blk_frozen BK118.out 1; have hfz16_2 := blk_frozen BK118.out 2) | ((with_reducible refine gate_callee (f := 31) rfl ?_); refine goesL_ (some 7) rfl rfl Try.func31 (by kernel_rfl) rfl #[.agg #[.int .i64 a0_0, .int .i64 a0_1, .slice A0_2 l0_2.length c0_2]] rfl (by (try simp only [List.map_toArray, List.map_cons, List.map_nil]); first | done | rfl | (simp only [List.length_drop, List.length_take]; rfl)) ?_; (with_reducible refine (ring_sizeOf.calls k a0_0 a0_1 _ _ l0_2 t119 t120 _ ?side1 ?side2 A2.out).mono ?_); (case side1 => repeat (first | exact (Kd.C_below HR0_2.out HB.out) | (with_reducible refine Kd.C_alloc ?_ _) | (with_reducible refine Kd.C_drewN ?_ _) | (with_reducible refine Kd.C_drew ?_))); (case side2 => exact HC0_2.out); rintro e w17 ⟨rfl, hb⟩; refine ⟨_, rfl, ?_⟩; have n0_ := Am (blk_below (g := gb118) (o := .cells #[.int .i64 a0_0, .int .i64 a0_1, .slice A0_2 l0_2.length c0_2] 24 (0, 0)) (by (with_reducible repeat (first | refine bN ?_ _ | refine bD ?_ | refine bA ?_ _)); exact BK118.out) hb); have n1_ := Am (below_step (by repeat (first | (with_reducible first | exact HB.out | apply pA | apply pN | apply pD | refine pS ?_ GE118.out) | exact HB.out)) hb); clear BK118; clear HB; have BK118 := n0_; have HB := n1_; clear n0_ n1_; (try clear hb); (try clear hb2); (try clear hk); (try clear hi); have hcz18_0 : w17.cell? ⟨gb118, 0, none⟩ = some (.int .i64 a0_0) := (blk_cell BK118.out 0).trans rfl; have hcz18_1 : w17.cell? ⟨gb118, 1, none⟩ = some (.int .i64 a0_1) := (blk_cell BK118.out 1).trans rfl; have hcz18_2 : w17.cell? ⟨gb118, 2, none⟩ = some (.slice A0_2 l0_2.length c0_2) := (blk_cell BK118.out 2).trans rfl; have hfz18_0 := blk_frozen BK118.out 0; have hfz18_1 := blk_frozen BK118.out 1; have hfz18_2 := blk_frozen BK118.out 2) | (go_at_call 32; (with_reducible refine (ring_formed.calls k a0_0 a0_1 _ _ l0_2 false _ ?side1 ?side2 A5.out).mono ?_); (case side1 => repeat (first | exact (Kd.C_below HR0_2.out HB.out) | (with_reducible refine Kd.C_alloc ?_ _) | (with_reducible refine Kd.C_drewN ?_ _) | (with_reducible refine Kd.C_drew ?_))); (case side2 => exact HC0_2.out); rintro e w19 ⟨rfl, hb⟩; have n0_ := Am (blk_below (g := gb118) (o := .cells #[.int .i64 a0_0, .int .i64 a0_1, .slice A0_2 l0_2.length c0_2] 24 (0, 0)) (by (with_reducible repeat (first | refine bN ?_ _ | refine bD ?_ | refine bA ?_ _)); exact BK118.out) hb); have n1_ := Am (below_step (by repeat (first | (with_reducible first | exact HB.out | apply pA | apply pN | apply pD | refine pS ?_ GE118.out) | exact HB.out)) hb); clear BK118; clear HB; have BK118 := n0_; have HB := n1_; clear n0_ n1_; (try clear hb); (try clear hb2); (try clear hk); (try clear hi)))
    go_ret
    exact ⟨by first | rfl | (simp [errW_none, errW_some] <;> rfl) | (simp [*, errW_none, errW_some] <;> rfl), by repeat (first | (with_reducible first | exact HB.out | apply pA | apply pN | apply pD | refine pS ?_ GE118.out) | exact HB.out)⟩
  ·
   rw [if_neg c4] at H
   have c4b0 : decide (t120 ≤ 12) = false := decide_eq_false c4
   clear c4
   obtain rfl := Option.some.inj H
   go_enter Try.func23, Try.ntmps23
   go_wp2_with (first | ((with_reducible refine gate_dst (N := 1) rfl ?_); refine box_event ?hg (N := 1) ?hd (cs := #[.int .i64 a0_0, .int .i64 a0_1, .slice A0_2 l0_2.length c0_2]) (t := 24) ?hr ?_; (case hd => rfl); (case hg => rfl); (case hr => first | (go_simp; done) | (go_simp; rfl)); intro gb118 hg w20 hbox hb; have n0_ := Am (below_step (by repeat (first | (with_reducible first | exact HB.out | apply pA | apply pN | apply pD) | exact HB.out)) hb); have n1_ := Am (hbox); have n2_ := Am ((by rw [hg]; exact (below_size (by repeat (first | (with_reducible first | exact HB.out | apply pA | apply pN | apply pD) | exact HB.out))) : w.heap.size ≤ gb118)); have n3_ := Am ((by rw [hg]; exact (below_size (by repeat (first | (with_reducible first | exact HB.out | apply pA | apply pN | apply pD) | exact HB.out))) : w.heap.size ≤ gb118)); clear HB; have HB := n0_; have BK118 := n1_; have GW118 := n2_; have GE118 := n3_; clear n0_ n1_ n2_ n3_; clear hb hbox hg; have hcz21_0 : w20.cell? ⟨gb118, 0, none⟩ = some (.int .i64 a0_0) := (blk_cell BK118.out 0).trans rfl; have hcz21_1 : w20.cell? ⟨gb118, 1, none⟩ = some (.int .i64 a0_1) := (blk_cell BK118.out 1).trans rfl; have hcz21_2 : w20.cell? ⟨gb118, 2, none⟩ = some (.slice A0_2 l0_2.length c0_2) := (blk_cell BK118.out 2).trans rfl; have hfz21_0 := blk_frozen BK118.out 0; have hfz21_1 := blk_frozen BK118.out 1; have hfz21_2 := blk_frozen BK118.out 2) | ((with_reducible refine gate_callee (f := 31) rfl ?_); refine goesL_ (some 7) rfl rfl Try.func31 (by kernel_rfl) rfl #[.agg #[.int .i64 a0_0, .int .i64 a0_1, .slice A0_2 l0_2.length c0_2]] rfl (by (try simp only [List.map_toArray, List.map_cons, List.map_nil]); first | done | rfl | (simp only [List.length_drop, List.length_take]; rfl)) ?_; (with_reducible refine (ring_sizeOf.calls k a0_0 a0_1 _ _ l0_2 t119 t120 _ ?side1 ?side2 A2.out).mono ?_); (case side1 => repeat (first | exact (Kd.C_below HR0_2.out HB.out) | (with_reducible refine Kd.C_alloc ?_ _) | (with_reducible refine Kd.C_drewN ?_ _) | (with_reducible refine Kd.C_drew ?_))); (case side2 => exact HC0_2.out); rintro e w22 ⟨rfl, hb⟩; refine ⟨_, rfl, ?_⟩; have n0_ := Am (blk_below (g := gb118) (o := .cells #[.int .i64 a0_0, .int .i64 a0_1, .slice A0_2 l0_2.length c0_2] 24 (0, 0)) (by (with_reducible repeat (first | refine bN ?_ _ | refine bD ?_ | refine bA ?_ _)); exact BK118.out) hb); have n1_ := Am (below_step (by repeat (first | (with_reducible first | exact HB.out | apply pA | apply pN | apply pD | refine pS ?_ GE118.out) | exact HB.out)) hb); clear BK118; clear HB; have BK118 := n0_; have HB := n1_; clear n0_ n1_; (try clear hb); (try clear hb2); (try clear hk); (try clear hi)))
   go_ret
   exact ⟨by first | rfl | (simp [errW_none, errW_some] <;> rfl) | (simp [*, errW_none, errW_some] <;> rfl), by repeat (first | (with_reducible first | exact HB.out | apply pA | apply pN | apply pD | refine pS ?_ GE118.out) | exact HB.out)⟩
 ·
  rw [if_neg c3] at H
  have c3b0 : decide (t119 ≤ 60) = false := decide_eq_false c3
  clear c3
  obtain rfl := Option.some.inj H
  go_enter Try.func23, Try.ntmps23
  go_wp2_with (first | ((with_reducible refine gate_dst (N := 1) rfl ?_); refine box_event ?hg (N := 1) ?hd (cs := #[.int .i64 a0_0, .int .i64 a0_1, .slice A0_2 l0_2.length c0_2]) (t := 24) ?hr ?_; (case hd => rfl); (case hg => rfl); (case hr => first | (go_simp; done) | (go_simp; rfl)); intro gb118 hg w23 hbox hb; have n0_ := Am (below_step (by repeat (first | (with_reducible first | exact HB.out | apply pA | apply pN | apply pD) | exact HB.out)) hb); have n1_ := Am (hbox); have n2_ := Am ((by rw [hg]; exact (below_size (by repeat (first | (with_reducible first | exact HB.out | apply pA | apply pN | apply pD) | exact HB.out))) : w.heap.size ≤ gb118)); have n3_ := Am ((by rw [hg]; exact (below_size (by repeat (first | (with_reducible first | exact HB.out | apply pA | apply pN | apply pD) | exact HB.out))) : w.heap.size ≤ gb118)); clear HB; have HB := n0_; have BK118 := n1_; have GW118 := n2_; have GE118 := n3_; clear n0_ n1_ n2_ n3_; clear hb hbox hg; have hcz24_0 : w23.cell? ⟨gb118, 0, none⟩ = some (.int .i64 a0_0) := (blk_cell BK118.out 0).trans rfl; have hcz24_1 : w23.cell? ⟨gb118, 1, none⟩ = some (.int .i64 a0_1) := (blk_cell BK118.out 1).trans rfl; have hcz24_2 : w23.cell? ⟨gb118, 2, none⟩ = some (.slice A0_2 l0_2.length c0_2) := (blk_cell BK118.out 2).trans rfl; have hfz24_0 := blk_frozen BK118.out 0; have hfz24_1 := blk_frozen BK118.out 1; have hfz24_2 := blk_frozen BK118.out 2) | ((with_reducible refine gate_callee (f := 31) rfl ?_); refine goesL_ (some 7) rfl rfl Try.func31 (by kernel_rfl) rfl #[.agg #[.int .i64 a0_0, .int .i64 a0_1, .slice A0_2 l0_2.length c0_2]] rfl (by (try simp only [List.map_toArray, List.map_cons, List.map_nil]); first | done | rfl | (simp only [List.length_drop, List.length_take]; rfl)) ?_; (with_reducible refine (ring_sizeOf.calls k a0_0 a0_1 _ _ l0_2 t119 t120 _ ?side1 ?side2 A2.out).mono ?_); (case side1 => repeat (first | exact (Kd.C_below HR0_2.out HB.out) | (with_reducible refine Kd.C_alloc ?_ _) | (with_reducible refine Kd.C_drewN ?_ _) | (with_reducible refine Kd.C_drew ?_))); (case side2 => exact HC0_2.out); rintro e w25 ⟨rfl, hb⟩; refine ⟨_, rfl, ?_⟩; have n0_ := Am (blk_below (g := gb118) (o := .cells #[.int .i64 a0_0, .int .i64 a0_1, .slice A0_2 l0_2.length c0_2] 24 (0, 0)) (by (with_reducible repeat (first | refine bN ?_ _ | refine bD ?_ | refine bA ?_ _)); exact BK118.out) hb); have n1_ := Am (below_step (by repeat (first | (with_reducible first | exact HB.out | apply pA | apply pN | apply pD | refine pS ?_ GE118.out) | exact HB.out)) hb); clear BK118; clear HB; have BK118 := n0_; have HB := n1_; clear n0_ n1_; (try clear hb); (try clear hb2); (try clear hk); (try clear hi)))
  go_ret
  exact ⟨by first | rfl | (simp [errW_none, errW_some] <;> rfl) | (simp [*, errW_none, errW_some] <;> rfl), by repeat (first | (with_reducible first | exact HB.out | apply pA | apply pN | apply pD | refine pS ?_ GE118.out) | exact HB.out)⟩

end Go.Proofs.Ytjnplfbggklkfaa.Rg

/- The answer of the ring's Equal as a function of the expressions that can be worked out: no program here. -/
namespace Go.Proofs.Ytjnplfbggklkfaa
open Go.Proofs.Ytjnplfbggklkfaa.Rg
set_option linter.unusedVariables false
set_option linter.unusedSimpArgs false

def bigB (l : Asc) : Bool := (ddup (l.map (·.1))).any (fun k => decide (1000000000000000 < coef l k)) || decide (200 < (ddup (l.map (·.1))).length)
theorem bigB_iff {l : Asc} (h : Plus l) : bigB l = true ↔ Big (coef l) := by
  unfold bigB
  simp only [Bool.or_eq_true, List.any_eq_true, decide_eq_true_eq]
  constructor
  · rintro (⟨k, _, hk⟩ | hl)
    · exact .inl ⟨k, hk⟩
    · exact .inr ⟨_, ddup_nd _, hl, fun k hk => (coef_pos h).2 (mem_ddup.1 hk)⟩
  · rintro (⟨k, hk⟩ | ⟨m, nd, hm, hp⟩)
    · exact .inl ⟨k, mem_ddup.2 ((coef_pos h).1 (by omega)), hk⟩
    · refine .inr (Nat.lt_of_lt_of_le hm (nodup_le nd fun k hk => mem_ddup.2 ((coef_pos h).1 (hp k hk))))
def steepB (l : Asc) : Bool := l.any fun m => m.1.any fun v => decide (60 < v)
theorem steepB_iff (l : Asc) : steepB l = true ↔ Steep l := by
  unfold steepB Steep
  simp only [List.any_eq_true, decide_eq_true_eq]
def sameD (a b : Asc) : Bool := (ddup (a.map (·.1) ++ b.map (·.1))).all fun k => decide (coef a k = coef b k)
theorem sameD_iff (a b : Asc) : sameD a b = true ↔ ∀ k, coef a k = coef b k := by
  unfold sameD
  rw [List.all_eq_true]
  constructor
  · intro h k
    by_cases hk : k ∈ a.map (·.1) ++ b.map (·.1)
    · exact of_decide_eq_true (h k (mem_ddup.2 hk))
    · rw [List.mem_append, not_or] at hk
      rw [coef_none hk.1, coef_none hk.2]
  · exact fun h k _ => decide_eq_true (h k)
mutual
def badB : S24 → Bool
  | ⟨op, n, l⟩ => badLB l || (op == 3 && bigB (den ⟨op, n, l⟩)) || (op == 4 && (bigB (den ⟨op, n, l⟩) || steepB (den ⟨op, n, l⟩)))
def badLB : List S24 → Bool
  | [] => false
  | x :: l => badB x || badLB l
end
theorem badB_iff_ : ∀ (n : Nat) (x : S24), SizeOf.sizeOf x < n → good x = true → (badB x = true ↔ Bad x)
  | 0, _, h, _ => absurd h (by omega)
  | n + 1, x, h, hg => by
    have hp := den_plus' hg
    rcases good_cases hg with ⟨h0, hl, _, _, _, hb⟩ | ⟨h0, hl, _, _, _, hb⟩ | ⟨y, z, h0, _, hl, gy, gz, h2, hb⟩
    · obtain ⟨op, m, l⟩ := x
      simp only at h0 hl
      subst h0 hl
      refine ⟨fun h => ?_, fun h => absurd h hb⟩
      rw [badB, badLB] at h
      simp at h
    · obtain ⟨op, m, l⟩ := x
      simp only at h0 hl
      subst h0 hl
      refine ⟨fun h => ?_, fun h => absurd h hb⟩
      rw [badB, badLB] at h
      simp at h
    · have hs : SizeOf.sizeOf y < SizeOf.sizeOf x ∧ SizeOf.sizeOf z < SizeOf.sizeOf x := by
        obtain ⟨op, m, l⟩ := x
        simp only at hl
        subst hl
        simp
        omega
      have ihy := badB_iff_ n y (by omega) gy
      have ihz := badB_iff_ n z (by omega) gz
      rw [hb]
      obtain ⟨op, m, l⟩ := x
      simp only at hl
      subst hl
      rw [badB, badLB, badLB, badLB]
      simp only [Bool.or_eq_true, Bool.and_eq_true, Bool.false_eq_true, or_false, beq_iff_eq, ihy, ihz, bigB_iff hp, steepB_iff, or_assoc]
theorem badB_iff {x : S24} (h : good x = true) : badB x = true ↔ Bad x := badB_iff_ (SizeOf.sizeOf x + 1) x (by omega) h
/-- What Equal answers for good expressions. -/
def verdict (x y : S24) : Bool × Int := if (badB x || badB y) = true then (false, 2) else (sameD (den x) (den y), 0)

theorem same_rep {a b : Asc} {f g : List Int → Int} (ha : Rep a f) (hb : Rep b g) : sameB a b = true ↔ ∀ k, f k = g k := by
  unfold sameB
  simp only [Bool.and_eq_true, List.all_eq_true, decide_eq_true_eq]
  have key : (∀ k, f k = g k) → ∀ k, k ∈ a.map (·.1) → k ∈ b.map (·.1) := fun h k hk => by
    have h1 := (get_bounds ha.pos k).2.2 (has_of_mem hk)
    rw [ha.get, h, ← hb.get] at h1
    cases hh : hasA b k with
    | true => exact mem_of_has hh
    | false => rw [get_none hh] at h1; omega
  have key2 : (∀ k, f k = g k) → ∀ k, k ∈ b.map (·.1) → k ∈ a.map (·.1) := fun h k hk => by
    have h1 := (get_bounds hb.pos k).2.2 (has_of_mem hk)
    rw [hb.get, ← h, ← ha.get] at h1
    cases hh : hasA a k with
    | true => exact mem_of_has hh
    | false => rw [get_none hh] at h1; omega
  constructor
  · rintro ⟨h1, h2⟩ k
    have hsub : ∀ k, k ∈ a.map (·.1) → k ∈ b.map (·.1) := fun k hk => by
      obtain ⟨p, hp, rfl⟩ := List.mem_map.1 hk
      have h3 := h1 p hp
      have h4 := (ha.pos p hp).1
      cases hh : hasA b p.1 with
      | true => exact mem_of_has hh
      | false => rw [get_none hh] at h3; omega
    rw [← ha.get, ← hb.get]
    cases hh : hasA a k with
    | true =>
      have h3 := idx_get hh
      have h4 := h1 _ (List.mem_of_getElem? h3)
      exact h4.symm
    | false =>
      rw [get_none hh]
      cases hb' : hasA b k with
      | false => rw [get_none hb']
      | true =>
        exfalso
        have hnd : (k :: a.map (·.1)).Nodup := List.nodup_cons.2 ⟨has_false hh, ha.nd⟩
        have := nodup_le hnd fun j hj => by
          rcases List.mem_cons.1 hj with rfl | hj
          · exact mem_of_has hb'
          · exact hsub j hj
        simp at this
        omega
  · intro h
    refine ⟨fun p hp => ?_, ?_⟩
    · obtain ⟨i, hi⟩ := List.mem_iff_getElem?.1 hp
      have h1 := (idx_only ha.nd (k := p.1) (c := p.2) (j := i) hi).2.2
      rw [hb.get, ← h, ← ha.get]
      exact h1
    · have h1 := nodup_le ha.nd (key h)
      have h2 := nodup_le hb.nd (key2 h)
      simp at h1 h2
      omega

/-! ### Valid expressions are good -/
theorem eta24 (x : S24) : (⟨x.f0, x.f1, x.f2⟩ : S24) = x := by cases x; rfl
theorem formed_good : ∀ (k : Nat) (a b : Int) (l : List S24), ring_formed.f k a b l = some true → right ⟨a, b, l⟩ 1000000 = true → good ⟨a, b, l⟩ = true := by
  intro k
  induction k using Nat.strongRecOn with
  | _ k ih =>
    intro a b l h hr
    cases k with
    | zero => simp [ring_formed.f] at h
    | succ k =>
      rw [right_eq] at hr
      simp only [Bool.and_eq_true, Bool.not_eq_true', Bool.and_eq_false_iff, beq_eq_false_iff_ne, decide_eq_false_iff_not] at hr
      obtain ⟨hr1, hr2⟩ := hr
      rw [good]
      simp only [Bool.or_eq_true, Bool.and_eq_true, beq_iff_eq, decide_eq_true_eq, List.isEmpty_iff]
      unfold ring_formed.f at h
      by_cases h1 : a = 1
      · rw [if_pos h1] at h
        by_cases hl : (l.length : Int) = 0
        · rw [if_pos hl] at h
          have : l = [] := List.length_eq_zero_iff.1 (by omega)
          simp only [Option.some.injEq, decide_eq_true_eq] at h
          refine .inl (.inl ⟨⟨⟨h1, this⟩, h⟩, ?_⟩)
          rcases hr1 with hr1 | hr1
          · exact absurd h1 hr1
          · omega
        · rw [if_neg hl] at h
          simp at h
      · rw [if_neg h1] at h
        by_cases h2 : a = 2
        · rw [if_pos h2] at h
          by_cases hl : (l.length : Int) = 0
          · rw [if_pos hl] at h
            have : l = [] := List.length_eq_zero_iff.1 (by omega)
            by_cases h0 : b ≥ 0
            · rw [if_pos h0] at h
              simp only [Option.some.injEq, decide_eq_true_eq] at h
              exact .inl (.inr ⟨⟨⟨h2, this⟩, h0⟩, h⟩)
            · rw [if_neg h0] at h
              simp at h
          · rw [if_neg hl] at h
            simp at h
        · rw [if_neg h2] at h
          have hj : ∃ c : Bool, (c = true → a = 3 ∨ a = 4) ∧ ring_formed.j0 k c a b l = some true := by
            by_cases h3 : a = 3
            · rw [if_pos h3] at h
              exact ⟨_, fun _ => .inl h3, h⟩
            · rw [if_neg h3] at h
              exact ⟨_, fun hc => .inr (beq_iff_eq.1 hc), h⟩
          clear h
          obtain ⟨c, hc, h⟩ := hj
          cases k with
          | zero => simp [ring_formed.j0] at h
          | succ k =>
            unfold ring_formed.j0 at h
            by_cases hct : c = true
            · rw [if_pos hct] at h
              by_cases hl : (l.length : Int) = 2
              · rw [if_pos hl] at h
                by_cases hb : b = 0
                · rw [if_pos hb, if_pos (by omega)] at h
                  match l, hl with
                  | [y, z], _ =>
                    obtain ⟨t1, e1, h⟩ := Option.bind_eq_some_iff.1 h
                    by_cases ht : t1 = true
                    · subst ht
                      rw [if_pos rfl, if_pos (by simp)] at h
                      obtain ⟨t2, e2, h⟩ := Option.bind_eq_some_iff.1 h
                      obtain rfl := Option.some.inj h
                      rw [rightL, rightL, rightL] at hr2
                      simp only [Bool.and_eq_true, Bool.and_true] at hr2
                      have gy := ih k (by omega) y.f0 y.f1 y.f2 e1 (by rw [eta24]; exact hr2.1)
                      have gz := ih k (by omega) z.f0 z.f1 z.f2 e2 (by rw [eta24]; exact hr2.2)
                      refine .inr ⟨⟨⟨hc hct, hb⟩, rfl⟩, ?_⟩
                      rw [goodL, goodL, goodL]
                      rw [eta24] at gy gz
                      rw [gy, gz]
                      rfl
                    · rw [if_neg ht] at h
                      simp at h
                · rw [if_neg hb] at h
                  simp at h
              · rw [if_neg hl] at h
                simp at h
            · rw [if_neg hct] at h
              simp at h
theorem valid_good {k : Nat} {a b : Int} {l : List S24} (h : ring_Valid.f k a b l = some true) : good ⟨a, b, l⟩ = true := by
  unfold ring_Valid.f at h
  obtain ⟨t, _, h⟩ := Option.bind_eq_some_iff.1 h
  by_cases h1 : t.1 ≤ 60
  · rw [if_pos h1] at h
    by_cases h2 : t.2 ≤ 12
    · rw [if_pos h2] at h
      obtain ⟨u, hf, h⟩ := Option.bind_eq_some_iff.1 h
      by_cases hu : u = true
      · subst hu
        rw [if_pos rfl] at h
        obtain ⟨v, hv, h⟩ := Option.bind_eq_some_iff.1 h
        obtain rfl := Option.some.inj h
        unfold ring_right.f at hv
        exact formed_good k a b l hf (Option.some.inj hv)
      · rw [if_neg hu] at h
        simp at h
    · rw [if_neg h2] at h
      simp at h
  · rw [if_neg h1] at h
    simp at h
end Go.Proofs.Ytjnplfbggklkfaa

-- Written by a program of this claim's session: print.py's form, some functions told by hand.
namespace Go.Proofs.Ytjnplfbggklkfaa.Rg
open Go.RowKit Go.Proofs.YtjnplfbggklkfaaW.PrintWords Go.Proofs.YtjnplfbggklkfaaW.PrintLast Go.Proofs.YtjnplfbggklkfaaW.PrintMore
attribute [local go_sem] max2_int min2_int max_two min_two max_three min_three max_four min_four   -- for this text's walks alone
set_option linter.unusedVariables false
set_option linter.unusedSimpArgs false

/-! ### tenetref24_Size: function 14 -/
mutual
def tenetref24_Size.l0 : Nat → Int → Int → Int → Int → Int → Int → List (S24) → Option (Int × Int)
 | 0, _, _, _, _, _, _, _ => none
 | k + 1, x1, x6, x7, x8, x102000, x102001, x102002 => if x8 < (x102002.length : Int) then (if x6 ≤ x1 then (if 0 ≤ x8 then ((tenetref24_Size.f k ((rd_T24 x102002 x8).f0) ((rd_T24 x102002 x8).f1) ((rd_T24 x102002 x8).f2) (wrap64 (x1 - x6))).bind fun bt103 => (tenetref24_Size.l0 k x1 (wrap64 (x6 + bt103.1)) (mx x7 bt103.2) (wrap64 (x8 + 1)) x102000 x102001 x102002)) else (none)) else (some (mn x6 (wrap64 (x1 + 1)), wrap64 (x7 + 1)))) else (some (mn x6 (wrap64 (x1 + 1)), wrap64 (x7 + 1)))
def tenetref24_Size.f : Nat → Int → Int → List (S24) → Int → Option (Int × Int)
 | 0, _, _, _, _ => none
 | k + 1, a0_0, a0_1, l0_2, a1 => tenetref24_Size.l0 k a1 1 0 0 a0_0 a0_1 l0_2
end
theorem tenetref24_Size.mono_l : ∀ k, (∀ y0 y1 y2 y3, LeO (tenetref24_Size.f k y0 y1 y2 y3) (tenetref24_Size.f (k + 1) y0 y1 y2 y3)) ∧ (∀ y0 y1 y2 y3 y4 y5 y6, LeO (tenetref24_Size.l0 k y0 y1 y2 y3 y4 y5 y6) (tenetref24_Size.l0 (k + 1) y0 y1 y2 y3 y4 y5 y6))
 | 0 => ⟨fun _ _ _ _ r h => by simp [tenetref24_Size.f] at h, fun _ _ _ _ _ _ _ r h => by simp [tenetref24_Size.l0] at h⟩
 | k + 1 => by
  obtain ⟨ih0, ih1⟩ := tenetref24_Size.mono_l k
  refine ⟨?_, ?_⟩
  ·
   intro y0 y1 y2 y3
   unfold tenetref24_Size.f
   repeat' first
   | (with_reducible exact ih0 _ _ _ _)
   | (with_reducible exact ih1 _ _ _ _ _ _ _)
   | (with_reducible exact LeO.refl _)
   | (with_reducible exact LeO.none _)
   | (with_reducible refine LeO.ite ?_ ?_)
   | (with_reducible refine LeO.bind ?_ (fun _ => ?_))
   | exact ih0 _ _ _ _
   | exact ih1 _ _ _ _ _ _ _
   | exact LeO.none _
   | refine LeO.ite ?_ ?_
   | refine LeO.bind ?_ (fun _ => ?_)
  ·
   intro y0 y1 y2 y3 y4 y5 y6
   unfold tenetref24_Size.l0
   repeat' first
   | (with_reducible exact ih0 _ _ _ _)
   | (with_reducible exact ih1 _ _ _ _ _ _ _)
   | (with_reducible exact LeO.refl _)
   | (with_reducible exact LeO.none _)
   | (with_reducible refine LeO.ite ?_ ?_)
   | (with_reducible refine LeO.bind ?_ (fun _ => ?_))
   | exact ih0 _ _ _ _
   | exact ih1 _ _ _ _ _ _ _
   | exact LeO.none _
   | refine LeO.ite ?_ ?_
   | refine LeO.bind ?_ (fun _ => ?_)
theorem tenetref24_Size.mono : ∀ a0 a1 a2 a3 k, LeO (tenetref24_Size.f k a0 a1 a2 a3) (tenetref24_Size.f (k + 1) a0 a1 a2 a3) := by
 intro a0 a1 a2 a3 k
 obtain ⟨ih0, ih1⟩ := tenetref24_Size.mono_l k
 exact ih0 a0 a1 a2 a3
set_option maxHeartbeats 8000000 in
set_option maxRecDepth 100000 in
theorem tenetref24_Size.calls (k : Nat) : ∀ (a0_0 : Int) (a0_1 : Int) (A0_2 : Option Addr) (c0_2 : Nat) (l0_2 : List (S24)) (a1 : Int) (r1 : Int) (r2 : Int) (w : World) (hr0_2 : Kd.C k24 w A0_2 l0_2.length l0_2) (hc0_2 : l0_2.length ≤ c0_2) (h : tenetref24_Size.f k a0_0 a0_1 l0_2 a1 = some (r1, r2)),
  Calls Try.prog 14 #[.agg #[.int .i64 a0_0, .int .i64 a0_1, .slice A0_2 l0_2.length c0_2], .int .i64 a1] w fun e w' => e = .returned (.tuple #[.int .i64 r1, .int .i64 r2]) ∧ Below w.heap.size w w' := by
 induction k using Nat.strongRecOn with
 | _ k ih =>
 intro a0_0 a0_1 A0_2 c0_2 l0_2 a1 r1 r2 w hr0_2 hc0_2 h
 cases k with
 | zero => exact absurd h (by simp [tenetref24_Size.f])
 | succ k =>
 simp only [tenetref24_Size.f] at h
 have hu24 := Try.underlying24
 have HR0_2 := Am hr0_2
 have HC0_2 := Am hc0_2
 clear hr0_2 hc0_2
 have HB := Am (Below.refl w.heap.size w)
 have H : (tenetref24_Size.l0 k a1 1 0 0 a0_0 a0_1 l0_2) = some (r1, r2) := h
 clear h
 have H' := Am H
 clear H
 go_enter Try.func14, Try.ntmps14
 go_wp2_with (first | ((with_reducible refine gate_dst (N := 2) rfl ?_); refine box_event ?hg (N := 2) ?hd (cs := #[.int .i64 a0_0, .int .i64 a0_1, .slice A0_2 l0_2.length c0_2]) (t := 24) ?hr ?_; (case hd => rfl); (case hg => rfl); (case hr => first | (go_simp; done) | (go_simp; rfl)); intro gb101 hg w3 hbox hb; have n0_ := Am (below_step (by repeat (first | (with_reducible first | exact HB.out | apply pA | apply pN | apply pD) | exact HB.out)) hb); have n1_ := Am (hbox); have n2_ := Am ((by rw [hg]; exact (below_size (by repeat (first | (with_reducible first | exact HB.out | apply pA | apply pN | apply pD) | exact HB.out))) : w.heap.size ≤ gb101)); have n3_ := Am ((by rw [hg]; exact (below_size (by repeat (first | (with_reducible first | exact HB.out | apply pA | apply pN | apply pD) | exact HB.out))) : w.heap.size ≤ gb101)); clear HB; have HB := n0_; have BK101 := n1_; have GW101 := n2_; have GE101 := n3_; clear n0_ n1_ n2_ n3_; clear hb hbox hg))
 go_loopg [6, 7, 8] k (fun kq v6 v7 v8 w' => ∃ (x6_1 : Int) (x7_1 : Int) (x8_1 : Int), v6 = .int .i64 x6_1 ∧ v7 = .int .i64 x7_1 ∧ v8 = .int .i64 x8_1 ∧ Aside0 (tenetref24_Size.l0 kq a1 x6_1 x7_1 x8_1 a0_0 a0_1 l0_2 = some (r1, r2)) ∧ Aside0 (kq ≤ k) ∧ Aside0 (w'.heap[gb101]? = some (.cells #[.int .i64 a0_0, .int .i64 a0_1, (.slice A0_2 l0_2.length c0_2)] 24 (0, 0))) ∧ Aside0 (Below w.heap.size w w'))
 case atStart => exact ⟨(1), (0), (0), (by first | rfl | (simp; done) | (simp [*]; done)), (by first | rfl | (simp; done) | (simp [*]; done)), (by first | rfl | (simp; done) | (simp [*]; done)), H', ⟨Nat.le_refl _⟩, ⟨by (with_reducible repeat (first | refine bN ?_ _ | refine bD ?_ | refine bA ?_ _)); exact BK101.out⟩, ⟨by repeat (first | (with_reducible first | exact HB.out | apply pA | apply pN | apply pD | refine pS ?_ GE101.out) | exact HB.out)⟩⟩
 case round =>
  clear H'
  try clear c1
  try clear p2
  obtain ⟨x6_1, x7_1, x8_1, rfl, rfl, rfl, HA, HK1, BK101, HB⟩ := hrel
  cases gk with
  | zero => exact absurd HA.out (by simp [tenetref24_Size.l0])
  | succ k1 =>
   have H := HA.out
   clear HA
   simp only [tenetref24_Size.l0] at H
   by_cases c4 : x8_1 < (l0_2.length : Int)
   ·
    rw [if_pos c4] at H
    have c4b0 : decide (x8_1 < (l0_2.length : Int)) = true := decide_eq_true c4
    clear c4
    by_cases c5 : x6_1 ≤ a1
    ·
     rw [if_pos c5] at H
     have c5b0 : decide (x6_1 ≤ a1) = true := decide_eq_true c5
     clear c5
     by_cases c6 : 0 ≤ x8_1
     ·
      rw [if_pos c6] at H
      have c6b0 : decide (0 ≤ x8_1) = true := decide_eq_true c6
      clear c6
      replace H := Option.bind_eq_some_iff.mp H
      obtain ⟨⟨t103, t104⟩, A70, H⟩ := H
      replace H : (tenetref24_Size.l0 k1 a1 (wrap64 (x6_1 + t103)) (mx x7_1 t104) (wrap64 (x8_1 + 1)) a0_0 a0_1 l0_2) = some (r1, r2) := H
      have A7 := Am A70
      clear A70
      obtain ⟨ji8, hji8⟩ : ∃ j_ : Int, (mx x7_1 t104) = j_ := ⟨_, rfl⟩
      replace H : (tenetref24_Size.l0 k1 a1 (wrap64 (x6_1 + t103)) ji8 (wrap64 (x8_1 + 1)) a0_0 a0_1 l0_2) = some (r1, r2) := by first | (rw [hji8] at H; exact H) | (simp only [hji8] at H ⊢; exact H)
      (try rw [hji8] at A7)
      have hji8_ : (if x7_1 < t104 then t104 else x7_1) = ji8 := hji8
      have H' := Am H
      clear H
      have hcz9_0 : wr.cell? ⟨gb101, 0, none⟩ = some (.int .i64 a0_0) := (blk_cell BK101.out 0).trans rfl
      have hcz9_1 : wr.cell? ⟨gb101, 1, none⟩ = some (.int .i64 a0_1) := (blk_cell BK101.out 1).trans rfl
      have hcz9_2 : wr.cell? ⟨gb101, 2, none⟩ = some (.slice A0_2 l0_2.length c0_2) := (blk_cell BK101.out 2).trans rfl
      have hfz9_0 := blk_frozen BK101.out 0
      have hfz9_1 := blk_frozen BK101.out 1
      have hfz9_2 := blk_frozen BK101.out 2
      have p102 : 0 ≤ (x8_1 : Int) := of_decide_eq_true (by first | (with_reducible assumption) | assumption)
      have q102 : x8_1 < (l0_2.length : Int) := of_decide_eq_true (by first | (with_reducible assumption) | assumption)
      obtain ⟨ad102, A102_2, c102_2, e102, hx102_0, hx102_1, hx102_2, hl102_2, hi102_2⟩ := at_T24 HR0_2.out x8_1 p102 q102
      cases e102
      replace hx102_0 := (HB.out.cell (wB w _ hx102_0)).trans hx102_0
      replace hx102_1 := (HB.out.cell (wB w _ hx102_1)).trans hx102_1
      replace hx102_2 := (HB.out.cell (wB w _ hx102_2)).trans hx102_2
      have HR102_2 := Am hi102_2
      have HC102_2 := Am hl102_2
      clear hi102_2 hl102_2
      replace p102 := eq_true p102
      replace q102 := eq_true q102
      go_wp2_with (first | ((with_reducible refine gate_callee (f := 14) rfl ?_); refine goesL_ (some 32) rfl rfl Try.func14 (by kernel_rfl) rfl #[.agg #[.int .i64 ((rd_T24 l0_2 x8_1).f0), .int .i64 ((rd_T24 l0_2 x8_1).f1), .slice A102_2 ((rd_T24 l0_2 x8_1).f2).length c102_2], .int .i64 (wrap64 (a1 - x6_1))] rfl (by (try simp only [List.map_toArray, List.map_cons, List.map_nil]); first | done | rfl | (simp only [List.length_drop, List.length_take]; rfl)) ?_; (with_reducible refine (ih k1 (by have := HK1.out; omega) ((rd_T24 l0_2 x8_1).f0) ((rd_T24 l0_2 x8_1).f1) _ _ ((rd_T24 l0_2 x8_1).f2) (wrap64 (a1 - x6_1)) t103 t104 _ ?side1 ?side2 A7.out).mono ?_); (case side1 => repeat (first | exact (Kd.C_below HR102_2.out HB.out) | (with_reducible refine Kd.C_alloc ?_ _) | (with_reducible refine Kd.C_drewN ?_ _) | (with_reducible refine Kd.C_drew ?_))); (case side2 => exact HC102_2.out); rintro e w10 ⟨rfl, hb⟩; refine ⟨_, rfl, ?_⟩; have n0_ := Am (blk_below (g := gb101) (o := .cells #[.int .i64 a0_0, .int .i64 a0_1, .slice (some ad102) l0_2.length c0_2] 24 (0, 0)) (by (with_reducible repeat (first | refine bN ?_ _ | refine bD ?_ | refine bA ?_ _)); exact BK101.out) hb); have n1_ := Am (below_step (by repeat (first | (with_reducible first | exact HB.out | apply pA | apply pN | apply pD | refine pS ?_ GE101.out) | exact HB.out)) hb); clear BK101; clear HB; have BK101 := n0_; have HB := n1_; clear n0_ n1_; (try clear hb); (try clear hb2); (try clear hk); (try clear hi)))
      go_roundg k1
      case measure => have := HK1.out; omega
      case rel => exact ⟨(wrap64 (x6_1 + t103)), (ji8), (wrap64 (x8_1 + 1)), (by first | rfl | (simp; done) | (simp [*]; done)), (by first | rfl | (simp; done) | (simp only [← hji8] <;> (first | rfl | simp)) | (simp [*]; done)), (by first | rfl | (simp; done) | (simp [*]; done)), H', ⟨by have := HK1.out; omega⟩, ⟨by (with_reducible repeat (first | refine bN ?_ _ | refine bD ?_ | refine bA ?_ _)); exact BK101.out⟩, ⟨by repeat (first | (with_reducible first | exact HB.out | apply pA | apply pN | apply pD | refine pS ?_ GE101.out) | exact HB.out)⟩⟩
     ·
      rw [if_neg c6] at H
      exact absurd H (by simp)
    ·
     rw [if_neg c5] at H
     have c5b0 : decide (x6_1 ≤ a1) = false := decide_eq_false c5
     clear c5
     obtain ⟨ji11, hji11⟩ : ∃ j_ : Int, (mn x6_1 (wrap64 (a1 + 1))) = j_ := ⟨_, rfl⟩
     replace H : (some (ji11, wrap64 (x7_1 + 1))) = some (r1, r2) := by first | (rw [hji11] at H; exact H) | (simp only [hji11] at H ⊢; exact H)
     have hji11_ : (if (wrap64 (a1 + 1)) < x6_1 then (wrap64 (a1 + 1)) else x6_1) = ji11 := hji11
     simp only [Option.some.injEq, Prod.mk.injEq] at H
     obtain ⟨rfl, rfl⟩ := H
     have hcz12_0 : wr.cell? ⟨gb101, 0, none⟩ = some (.int .i64 a0_0) := (blk_cell BK101.out 0).trans rfl
     have hcz12_1 : wr.cell? ⟨gb101, 1, none⟩ = some (.int .i64 a0_1) := (blk_cell BK101.out 1).trans rfl
     have hcz12_2 : wr.cell? ⟨gb101, 2, none⟩ = some (.slice A0_2 l0_2.length c0_2) := (blk_cell BK101.out 2).trans rfl
     have hfz12_0 := blk_frozen BK101.out 0
     have hfz12_1 := blk_frozen BK101.out 1
     have hfz12_2 := blk_frozen BK101.out 2
     go_wp2
     go_ret2
     exact ⟨by first | rfl | (simp [errW_none, errW_some] <;> rfl) | (simp only [← hji11]; first | rfl | (simp [errW_none, errW_some] <;> rfl)) | (simp [*, errW_none, errW_some] <;> rfl), by repeat (first | (with_reducible first | exact HB.out | apply pA | apply pN | apply pD | refine pS ?_ GE101.out) | exact HB.out)⟩
   ·
    rw [if_neg c4] at H
    have c4b0 : decide (x8_1 < (l0_2.length : Int)) = false := decide_eq_false c4
    clear c4
    obtain ⟨ji13, hji13⟩ : ∃ j_ : Int, (mn x6_1 (wrap64 (a1 + 1))) = j_ := ⟨_, rfl⟩
    replace H : (some (ji13, wrap64 (x7_1 + 1))) = some (r1, r2) := by first | (rw [hji13] at H; exact H) | (simp only [hji13] at H ⊢; exact H)
    have hji13_ : (if (wrap64 (a1 + 1)) < x6_1 then (wrap64 (a1 + 1)) else x6_1) = ji13 := hji13
    simp only [Option.some.injEq, Prod.mk.injEq] at H
    obtain ⟨rfl, rfl⟩ := H
    have hcz14_0 : wr.cell? ⟨gb101, 0, none⟩ = some (.int .i64 a0_0) := (blk_cell BK101.out 0).trans rfl
    have hcz14_1 : wr.cell? ⟨gb101, 1, none⟩ = some (.int .i64 a0_1) := (blk_cell BK101.out 1).trans rfl
    have hcz14_2 : wr.cell? ⟨gb101, 2, none⟩ = some (.slice A0_2 l0_2.length c0_2) := (blk_cell BK101.out 2).trans rfl
    have hfz14_0 := blk_frozen BK101.out 0
    have hfz14_1 := blk_frozen BK101.out 1
    have hfz14_2 := blk_frozen BK101.out 2
    go_wp2
    go_ret2
    exact ⟨by first | rfl | (simp [errW_none, errW_some] <;> rfl) | (simp only [← hji13]; first | rfl | (simp [errW_none, errW_some] <;> rfl)) | (simp [*, errW_none, errW_some] <;> rfl), by repeat (first | (with_reducible first | exact HB.out | apply pA | apply pN | apply pD | refine pS ?_ GE101.out) | exact HB.out)⟩

end Go.Proofs.Ytjnplfbggklkfaa.Rg

-- Written by a program of this claim's session: print.py's form, some functions told by hand.
namespace Go.Proofs.Ytjnplfbggklkfaa.Rg
open Go.RowKit Go.Proofs.YtjnplfbggklkfaaW.PrintWords Go.Proofs.YtjnplfbggklkfaaW.PrintLast Go.Proofs.YtjnplfbggklkfaaW.PrintMore
attribute [local go_sem] max2_int min2_int max_two min_two max_three min_three max_four min_four   -- for this text's walks alone
set_option linter.unusedVariables false
set_option linter.unusedSimpArgs false

/-! ### tenetlaw24_big: function 6 -/
def tenetlaw24_big.f (k : Nat) (a0_0 : Int) (a0_1 : Int) (l0_2 : List (S24)) : Option (Bool) := (tenetref24_Size.f k a0_0 a0_1 l0_2 400).bind fun bt106 => (some (decide (bt106.1 > 400)))
theorem tenetlaw24_big.mono : ∀ a0 a1 a2 k, LeO (tenetlaw24_big.f k a0 a1 a2) (tenetlaw24_big.f (k + 1) a0 a1 a2) := by
 intro a0 a1 a2 k
 unfold tenetlaw24_big.f
 repeat' first
   | (with_reducible exact tenetref24_Size.mono _ _ _ _ _)
   | (with_reducible exact LeO.refl _)
   | (with_reducible exact LeO.none _)
   | (with_reducible refine LeO.ite ?_ ?_)
   | (with_reducible refine LeO.bind ?_ (fun _ => ?_))
   | exact tenetref24_Size.mono _ _ _ _ _
   | exact LeO.none _
   | refine LeO.ite ?_ ?_
   | refine LeO.bind ?_ (fun _ => ?_)
set_option maxHeartbeats 8000000 in
set_option maxRecDepth 100000 in
theorem tenetlaw24_big.calls (k : Nat) (a0_0 : Int) (a0_1 : Int) (A0_2 : Option Addr) (c0_2 : Nat) (l0_2 : List (S24)) (r : Bool) (w : World) (hr0_2 : Kd.C k24 w A0_2 l0_2.length l0_2) (hc0_2 : l0_2.length ≤ c0_2) (h : tenetlaw24_big.f k a0_0 a0_1 l0_2 = some r) :
  Calls Try.prog 6 #[.agg #[.int .i64 a0_0, .int .i64 a0_1, .slice A0_2 l0_2.length c0_2]] w fun e w' => e = .returned (.bool r) ∧ Below w.heap.size w w' := by
 have hu24 := Try.underlying24
 have HR0_2 := Am hr0_2
 have HC0_2 := Am hc0_2
 clear hr0_2 hc0_2
 have HB := Am (Below.refl w.heap.size w)
 have H : ((tenetref24_Size.f k a0_0 a0_1 l0_2 400).bind fun bt106 => (some (decide (bt106.1 > 400)))) = some r := h
 clear h
 replace H := Option.bind_eq_some_iff.mp H
 obtain ⟨⟨t106, t107⟩, A20, H⟩ := H
 replace H : (some (decide (t106 > 400))) = some r := H
 have A2 := Am A20
 clear A20
 obtain rfl := Option.some.inj H
 go_enter Try.func6, Try.ntmps6
 go_wp2_with (first | ((with_reducible refine gate_dst (N := 1) rfl ?_); refine box_event ?hg (N := 1) ?hd (cs := #[.int .i64 a0_0, .int .i64 a0_1, .slice A0_2 l0_2.length c0_2]) (t := 24) ?hr ?_; (case hd => rfl); (case hg => rfl); (case hr => first | (go_simp; done) | (go_simp; rfl)); intro gb105 hg w3 hbox hb; have n0_ := Am (below_step (by repeat (first | (with_reducible first | exact HB.out | apply pA | apply pN | apply pD) | exact HB.out)) hb); have n1_ := Am (hbox); have n2_ := Am ((by rw [hg]; exact (below_size (by repeat (first | (with_reducible first | exact HB.out | apply pA | apply pN | apply pD) | exact HB.out))) : w.heap.size ≤ gb105)); have n3_ := Am ((by rw [hg]; exact (below_size (by repeat (first | (with_reducible first | exact HB.out | apply pA | apply pN | apply pD) | exact HB.out))) : w.heap.size ≤ gb105)); clear HB; have HB := n0_; have BK105 := n1_; have GW105 := n2_; have GE105 := n3_; clear n0_ n1_ n2_ n3_; clear hb hbox hg; have hcz4_0 : w3.cell? ⟨gb105, 0, none⟩ = some (.int .i64 a0_0) := (blk_cell BK105.out 0).trans rfl; have hcz4_1 : w3.cell? ⟨gb105, 1, none⟩ = some (.int .i64 a0_1) := (blk_cell BK105.out 1).trans rfl; have hcz4_2 : w3.cell? ⟨gb105, 2, none⟩ = some (.slice A0_2 l0_2.length c0_2) := (blk_cell BK105.out 2).trans rfl; have hfz4_0 := blk_frozen BK105.out 0; have hfz4_1 := blk_frozen BK105.out 1; have hfz4_2 := blk_frozen BK105.out 2) | ((with_reducible refine gate_callee (f := 14) rfl ?_); refine goesL_ (some 7) rfl rfl Try.func14 (by kernel_rfl) rfl #[.agg #[.int .i64 a0_0, .int .i64 a0_1, .slice A0_2 l0_2.length c0_2], .int .i64 400] rfl (by (try simp only [List.map_toArray, List.map_cons, List.map_nil]); first | done | rfl | (simp only [List.length_drop, List.length_take]; rfl)) ?_; (with_reducible refine (tenetref24_Size.calls k a0_0 a0_1 _ _ l0_2 400 t106 t107 _ ?side1 ?side2 A2.out).mono ?_); (case side1 => repeat (first | exact (Kd.C_below HR0_2.out HB.out) | (with_reducible refine Kd.C_alloc ?_ _) | (with_reducible refine Kd.C_drewN ?_ _) | (with_reducible refine Kd.C_drew ?_))); (case side2 => exact HC0_2.out); rintro e w5 ⟨rfl, hb⟩; refine ⟨_, rfl, ?_⟩; have n0_ := Am (blk_below (g := gb105) (o := .cells #[.int .i64 a0_0, .int .i64 a0_1, .slice A0_2 l0_2.length c0_2] 24 (0, 0)) (by (with_reducible repeat (first | refine bN ?_ _ | refine bD ?_ | refine bA ?_ _)); exact BK105.out) hb); have n1_ := Am (below_step (by repeat (first | (with_reducible first | exact HB.out | apply pA | apply pN | apply pD | refine pS ?_ GE105.out) | exact HB.out)) hb); clear BK105; clear HB; have BK105 := n0_; have HB := n1_; clear n0_ n1_; (try clear hb); (try clear hb2); (try clear hk); (try clear hi)))
 go_ret
 exact ⟨by first | rfl | (simp [errW_none, errW_some] <;> rfl) | (simp [*, errW_none, errW_some] <;> rfl), by repeat (first | (with_reducible first | exact HB.out | apply pA | apply pN | apply pD | refine pS ?_ GE105.out) | exact HB.out)⟩

end Go.Proofs.Ytjnplfbggklkfaa.Rg
