/- The ring's normal: the normal form of an expression, and when there is none. -/
import Derived.Test.YtjnplfbggklkfaaRgRight
import Derived.Test.YtjnplfbggklkfaaRgDen
import Derived.Test.YtjnplfbggklkfaaProd
namespace Go.Proofs.Ytjnplfbggklkfaa
open Go.RowKit Go.Proofs.YtjnplfbggklkfaaW.PrintWords
open Go.Proofs.Ytjnplfbggklkfaa.Rg (S24 k24 at24 cellB below_then')
set_option linter.unusedVariables false
set_option linter.unusedSimpArgs false

theorem run_first {w : World} {r : Nat} (hm : MapIs w r []) {k : List Int} (hk : Vec k) (c : Int) :
    (Instr.mapUpdate 41 (.map (some r)) (.agg (exC k)) (.int .i64 c)).run Try.prog w = .ok () (putMap w r [(k, c)]) := by
  obtain ⟨l, hl⟩ := key54 k hk
  have hc := law54.check w false hl
  have hf := run_find [] k hk hm.vec hm.nd w
  have hg : (getObj r).run Try.prog w = .ok (.map (ents []) 0) w := by simp [getObj, Sem.run, hm.blk]
  have hs : ∀ o, (setObj r o).run Try.prog w = .ok () { w with heap := w.heap.setIfInBounds r o } := by
    intro o
    simp [setObj, Sem.run, hm.blk]
  simp only [Instr.mapUpdate, Sem.run_bind, run_underlying Try.underlying41, Result.andThen_ok, hg, hc, hf]
  simp only [hasA, Bool.false_eq_true, if_false, hs]
  have := ents_push [] k c
  rw [show ([] : Asc).length = 0 from rfl] at this
  rw [this]
  rfl
theorem first_is {w : World} : MapIs (w.alloc (.map #[] 0)) w.heap.size [] := ⟨by
  have := heap_alloc_new w (.map #[] 0)
  exact this, by simp, by simp⟩
theorem one_is {w : World} {r : Nat} {o : Obj} (h : w.heap[r]? = some o) {k : List Int} (hk : Vec k) (c : Int) : MapIs (putMap w r [(k, c)]) r [(k, c)] :=
  putMap_is h _ (fun p hp => by rw [List.mem_singleton.1 hp]; exact hk) (by simp)
theorem rep_one {k : List Int} (hk : Vec k) (hks : ∀ v ∈ k, 0 ≤ v ∧ v ≤ 60) {c : Int} (hc : 0 < c) (h1 : c ≤ 1000000000000000) : Rep [(k, c)] (coef [(k, c)]) := by
  refine ⟨by simp, fun p hp => by rw [List.mem_singleton.1 hp]; exact ⟨hc, h1, hks⟩, by simp, fun k' => (coef_get (by simp) k').symm⟩
theorem rep_nil : Rep [] (coef []) := Rep.nil

def NormPost (w : World) (x : S24) (e : Ending) (w' : World) : Prop :=
  Below w.heap.size w w' ∧
  ((e = .returned (.tuple #[.map none, .bool false]) ∧ Bad x) ∨
   ∃ r es, e = .returned (.tuple #[.map (some r), .bool true]) ∧ w.heap.size ≤ r ∧ MapIs w' r es ∧ Rep es (coef (den x)) ∧ ¬ Bad x)
theorem NormPost.bad {w : World} {x : S24} {w' : World} (h : Below w.heap.size w w') (hb : Bad x) : NormPost w x (.returned (.tuple #[.map none, .bool false])) w' := ⟨h, .inl ⟨rfl, hb⟩⟩
theorem NormPost.good {w : World} {x : S24} {w' : World} {r : Nat} {es : Asc} (h : Below w.heap.size w w') (hr : w.heap.size ≤ r) (hm : MapIs w' r es) (hp : Rep es (coef (den x))) (hf : ¬ Bad x) : NormPost w x (.returned (.tuple #[.map (some r), .bool true])) w' :=
  ⟨h, .inr ⟨r, es, rfl, hr, hm, hp, hf⟩⟩
def NormAt (x : S24) : Prop := good x = true → ∀ (A : Option Addr) (c : Nat) (w : World), Kd.C k24 w A x.f2.length x.f2 → x.f2.length ≤ c →
  Calls Try.prog 27 #[.agg #[.int .i64 x.f0, .int .i64 x.f1, .slice A x.f2.length c]] w (NormPost w x)
theorem size_alloc (w : World) (o : Obj) : (w.alloc o).heap.size = w.heap.size + 1 := by simp
theorem vec_zeros : Vec zeros8 := ⟨rfl, by decide⟩
theorem below_alloc_put {w : World} (n : Nat) {v : World} (h : Below w.heap.size w v) (o : Obj) (es : Asc) : Below w.heap.size w (putMap (v.alloc o) v.heap.size es) := by
  have h1 : Below w.heap.size w (v.alloc o) := h.alloc h.size o
  exact (putMap_only (v.alloc o) v.heap.size es).below h1 h.size
theorem vec_unit {n : Int} (h0 : 0 ≤ n) (h8 : n < 8) : Vec (unit8 n) ∧ ∀ v ∈ unit8 n, 0 ≤ v ∧ v ≤ 60 := by
  have : n = 0 ∨ n = 1 ∨ n = 2 ∨ n = 3 ∨ n = 4 ∨ n = 5 ∨ n = 6 ∨ n = 7 := by omega
  rcases this with rfl | rfl | rfl | rfl | rfl | rfl | rfl | rfl <;> exact ⟨⟨rfl, by decide⟩, by decide⟩

set_option maxHeartbeats 4000000 in
set_option maxRecDepth 100000 in
theorem num_calls {x : S24} (hx : good x = true) (h0 : x.f0 = 1) (h2 : x.f2 = []) (h3 : 0 ≤ x.f1) (h4 : x.f1 ≤ 1000000) (h5 : den x = (if x.f1 = 0 then [] else [(zeros8, x.f1)])) (h6 : ¬ Bad x) (A : Option Addr) (c : Nat) (w : World) :
    Calls Try.prog 27 #[.agg #[.int .i64 x.f0, .int .i64 x.f1, .slice A x.f2.length c]] w (NormPost w x) := by
  have hu24 := Try.underlying24
  have hmm := @run_makeMap Try.prog
  by_cases hn : x.f1 = 0
  · have b0 : (x.f1 == 0) = true := beq_iff_eq.2 hn
    rw [if_pos hn] at h5
    rw [hn, h0]
    have R : Hid (∀ w', Below w.heap.size w w' → NormPost w x (.returned (.tuple #[.map (some w'.heap.size), .bool true])) (w'.alloc (.map #[] 0))) := Lib.hid fun w' hb =>
      NormPost.good (hb.alloc hb.size _) hb.size first_is (h5 ▸ rep_nil) h6
    have HB : Hid (Below w.heap.size w (w.alloc (.cells #[.int .i64 1, .int .i64 0, .slice A x.f2.length c] 24))) := Lib.hid ((Below.refl _ _).alloc (Nat.le_refl _) _)
    clear hx h2 h3 h4 h5 h6 hn b0 h0
    go_enter Try.func27, Try.ntmps27
    go_wp2
    go_ret2
    have h := R.out _ HB.out
    simp only [size_alloc] at h
    exact h
  · have b0 : (x.f1 == 0) = false := beq_eq_false_iff_ne.2 hn
    rw [if_neg hn] at h5
    have hb : Below w.heap.size w (w.alloc (.cells #[.int .i64 1, .int .i64 x.f1, .slice A x.f2.length c] 24)) := (Below.refl _ _).alloc (Nat.le_refl _) _
    rw [h0]
    generalize hw1 : w.alloc (.cells #[.int .i64 1, .int .i64 x.f1, .slice A x.f2.length c] 24) = w1 at hb
    have R := Lib.hid (NormPost.good (x := x) (below_alloc_put 0 hb (.map #[] 0) [(zeros8, x.f1)]) hb.size (one_is first_is.blk vec_zeros x.f1) (h5 ▸ rep_one vec_zeros (by decide) (by omega) (by omega)) h6)
    have hrun := run_first (first_is (w := w1)) vec_zeros x.f1
    simp only [exC, zeros8, List.map_cons, List.map_nil] at hrun
    rw [← hw1] at hrun R
    simp only [size_alloc] at hrun R
    clear hx h2 h3 h4 h5 h6 hn hb hw1 h0
    go_enter Try.func27, Try.ntmps27
    go_wp2
    go_ret2
    exact R.out
set_option maxHeartbeats 4000000 in
set_option maxRecDepth 100000 in
theorem var_calls {x : S24} (hx : good x = true) (h0 : x.f0 = 2) (h2 : x.f2 = []) (h3 : 0 ≤ x.f1) (h4 : x.f1 < 8) (h5 : den x = [(unit8 x.f1, 1)]) (h6 : ¬ Bad x) (A : Option Addr) (c : Nat) (w : World) :
    Calls Try.prog 27 #[.agg #[.int .i64 x.f0, .int .i64 x.f1, .slice A x.f2.length c]] w (NormPost w x) := by
  have hu24 := Try.underlying24
  have hmm := @run_makeMap Try.prog
  obtain ⟨hv, hks⟩ := vec_unit h3 h4
  rw [h0]
  have hone : Rep [(unit8 x.f1, 1)] (coef (den x)) := h5 ▸ rep_one hv hks (by omega) (by omega)
  have hrun : ∀ w1 : World, (Instr.mapUpdate 41 (.map (some w1.heap.size)) (.agg (exC (unit8 x.f1))) (.int .i64 1)).run Try.prog (w1.alloc (.map #[] 0)) = .ok () (putMap (w1.alloc (.map #[] 0)) w1.heap.size [(unit8 x.f1, 1)]) := fun w1 => run_first first_is hv 1
  have R : Hid (∀ w', Below w.heap.size w w' → NormPost w x (.returned (.tuple #[.map (some w'.heap.size), .bool true])) (putMap (w'.alloc (.map #[] 0)) w'.heap.size [(unit8 x.f1, 1)])) := Lib.hid fun w' hb =>
    NormPost.good (below_alloc_put 0 hb (.map #[] 0) _) hb.size (one_is first_is.blk hv 1) hone h6
  have B : Hid (Below w.heap.size w ((w.alloc (.cells #[.int .i64 2, .int .i64 x.f1, .slice A x.f2.length c] 24)).alloc (.cells #[.int .i64 0, .int .i64 0, .int .i64 0, .int .i64 0, .int .i64 0, .int .i64 0, .int .i64 0, .int .i64 0] 54))) := Lib.hid (((Below.refl _ _).alloc (Nat.le_refl _) _).alloc (by simp) _)
  clear hx h2 h5 h6 h0 hone hv hks
  generalize x.f1 = n at *
  have : n = 0 ∨ n = 1 ∨ n = 2 ∨ n = 3 ∨ n = 4 ∨ n = 5 ∨ n = 6 ∨ n = 7 := by omega
  clear h3 h4
  rcases this with rfl | rfl | rfl | rfl | rfl | rfl | rfl | rfl
  · have hrun := hrun ((w.alloc (.cells #[.int .i64 2, .int .i64 0, .slice A x.f2.length c] 24)).alloc (.cells #[.int .i64 1, .int .i64 0, .int .i64 0, .int .i64 0, .int .i64 0, .int .i64 0, .int .i64 0, .int .i64 0] 54))
    have R := R.out ((w.alloc (.cells #[.int .i64 2, .int .i64 0, .slice A x.f2.length c] 24)).alloc (.cells #[.int .i64 1, .int .i64 0, .int .i64 0, .int .i64 0, .int .i64 0, .int .i64 0, .int .i64 0, .int .i64 0] 54)) (((Below.refl _ _).alloc (Nat.le_refl _) _).alloc (by simp) _)
    rw [show unit8 0 = [1, 0, 0, 0, 0, 0, 0, 0] from rfl] at hrun R
    simp only [exC, List.map_cons, List.map_nil, size_alloc] at hrun R
    clear B
    have R := Lib.hid R
    go_enter Try.func27, Try.ntmps27
    go_wp2
    go_ret2
    exact R.out
  · have hrun := hrun ((w.alloc (.cells #[.int .i64 2, .int .i64 1, .slice A x.f2.length c] 24)).alloc (.cells #[.int .i64 0, .int .i64 1, .int .i64 0, .int .i64 0, .int .i64 0, .int .i64 0, .int .i64 0, .int .i64 0] 54))
    have R := R.out ((w.alloc (.cells #[.int .i64 2, .int .i64 1, .slice A x.f2.length c] 24)).alloc (.cells #[.int .i64 0, .int .i64 1, .int .i64 0, .int .i64 0, .int .i64 0, .int .i64 0, .int .i64 0, .int .i64 0] 54)) (((Below.refl _ _).alloc (Nat.le_refl _) _).alloc (by simp) _)
    rw [show unit8 1 = [0, 1, 0, 0, 0, 0, 0, 0] from rfl] at hrun R
    simp only [exC, List.map_cons, List.map_nil, size_alloc] at hrun R
    clear B
    have R := Lib.hid R
    go_enter Try.func27, Try.ntmps27
    go_wp2
    go_ret2
    exact R.out
  · have hrun := hrun ((w.alloc (.cells #[.int .i64 2, .int .i64 2, .slice A x.f2.length c] 24)).alloc (.cells #[.int .i64 0, .int .i64 0, .int .i64 1, .int .i64 0, .int .i64 0, .int .i64 0, .int .i64 0, .int .i64 0] 54))
    have R := R.out ((w.alloc (.cells #[.int .i64 2, .int .i64 2, .slice A x.f2.length c] 24)).alloc (.cells #[.int .i64 0, .int .i64 0, .int .i64 1, .int .i64 0, .int .i64 0, .int .i64 0, .int .i64 0, .int .i64 0] 54)) (((Below.refl _ _).alloc (Nat.le_refl _) _).alloc (by simp) _)
    rw [show unit8 2 = [0, 0, 1, 0, 0, 0, 0, 0] from rfl] at hrun R
    simp only [exC, List.map_cons, List.map_nil, size_alloc] at hrun R
    clear B
    have R := Lib.hid R
    go_enter Try.func27, Try.ntmps27
    go_wp2
    go_ret2
    exact R.out
  · have hrun := hrun ((w.alloc (.cells #[.int .i64 2, .int .i64 3, .slice A x.f2.length c] 24)).alloc (.cells #[.int .i64 0, .int .i64 0, .int .i64 0, .int .i64 1, .int .i64 0, .int .i64 0, .int .i64 0, .int .i64 0] 54))
    have R := R.out ((w.alloc (.cells #[.int .i64 2, .int .i64 3, .slice A x.f2.length c] 24)).alloc (.cells #[.int .i64 0, .int .i64 0, .int .i64 0, .int .i64 1, .int .i64 0, .int .i64 0, .int .i64 0, .int .i64 0] 54)) (((Below.refl _ _).alloc (Nat.le_refl _) _).alloc (by simp) _)
    rw [show unit8 3 = [0, 0, 0, 1, 0, 0, 0, 0] from rfl] at hrun R
    simp only [exC, List.map_cons, List.map_nil, size_alloc] at hrun R
    clear B
    have R := Lib.hid R
    go_enter Try.func27, Try.ntmps27
    go_wp2
    go_ret2
    exact R.out
  · have hrun := hrun ((w.alloc (.cells #[.int .i64 2, .int .i64 4, .slice A x.f2.length c] 24)).alloc (.cells #[.int .i64 0, .int .i64 0, .int .i64 0, .int .i64 0, .int .i64 1, .int .i64 0, .int .i64 0, .int .i64 0] 54))
    have R := R.out ((w.alloc (.cells #[.int .i64 2, .int .i64 4, .slice A x.f2.length c] 24)).alloc (.cells #[.int .i64 0, .int .i64 0, .int .i64 0, .int .i64 0, .int .i64 1, .int .i64 0, .int .i64 0, .int .i64 0] 54)) (((Below.refl _ _).alloc (Nat.le_refl _) _).alloc (by simp) _)
    rw [show unit8 4 = [0, 0, 0, 0, 1, 0, 0, 0] from rfl] at hrun R
    simp only [exC, List.map_cons, List.map_nil, size_alloc] at hrun R
    clear B
    have R := Lib.hid R
    go_enter Try.func27, Try.ntmps27
    go_wp2
    go_ret2
    exact R.out
  · have hrun := hrun ((w.alloc (.cells #[.int .i64 2, .int .i64 5, .slice A x.f2.length c] 24)).alloc (.cells #[.int .i64 0, .int .i64 0, .int .i64 0, .int .i64 0, .int .i64 0, .int .i64 1, .int .i64 0, .int .i64 0] 54))
    have R := R.out ((w.alloc (.cells #[.int .i64 2, .int .i64 5, .slice A x.f2.length c] 24)).alloc (.cells #[.int .i64 0, .int .i64 0, .int .i64 0, .int .i64 0, .int .i64 0, .int .i64 1, .int .i64 0, .int .i64 0] 54)) (((Below.refl _ _).alloc (Nat.le_refl _) _).alloc (by simp) _)
    rw [show unit8 5 = [0, 0, 0, 0, 0, 1, 0, 0] from rfl] at hrun R
    simp only [exC, List.map_cons, List.map_nil, size_alloc] at hrun R
    clear B
    have R := Lib.hid R
    go_enter Try.func27, Try.ntmps27
    go_wp2
    go_ret2
    exact R.out
  · have hrun := hrun ((w.alloc (.cells #[.int .i64 2, .int .i64 6, .slice A x.f2.length c] 24)).alloc (.cells #[.int .i64 0, .int .i64 0, .int .i64 0, .int .i64 0, .int .i64 0, .int .i64 0, .int .i64 1, .int .i64 0] 54))
    have R := R.out ((w.alloc (.cells #[.int .i64 2, .int .i64 6, .slice A x.f2.length c] 24)).alloc (.cells #[.int .i64 0, .int .i64 0, .int .i64 0, .int .i64 0, .int .i64 0, .int .i64 0, .int .i64 1, .int .i64 0] 54)) (((Below.refl _ _).alloc (Nat.le_refl _) _).alloc (by simp) _)
    rw [show unit8 6 = [0, 0, 0, 0, 0, 0, 1, 0] from rfl] at hrun R
    simp only [exC, List.map_cons, List.map_nil, size_alloc] at hrun R
    clear B
    have R := Lib.hid R
    go_enter Try.func27, Try.ntmps27
    go_wp2
    go_ret2
    exact R.out
  · have hrun := hrun ((w.alloc (.cells #[.int .i64 2, .int .i64 7, .slice A x.f2.length c] 24)).alloc (.cells #[.int .i64 0, .int .i64 0, .int .i64 0, .int .i64 0, .int .i64 0, .int .i64 0, .int .i64 0, .int .i64 1] 54))
    have R := R.out ((w.alloc (.cells #[.int .i64 2, .int .i64 7, .slice A x.f2.length c] 24)).alloc (.cells #[.int .i64 0, .int .i64 0, .int .i64 0, .int .i64 0, .int .i64 0, .int .i64 0, .int .i64 0, .int .i64 1] 54)) (((Below.refl _ _).alloc (Nat.le_refl _) _).alloc (by simp) _)
    rw [show unit8 7 = [0, 0, 0, 0, 0, 0, 0, 1] from rfl] at hrun R
    simp only [exC, List.map_cons, List.map_nil, size_alloc] at hrun R
    clear B
    have R := Lib.hid R
    go_enter Try.func27, Try.ntmps27
    go_wp2
    go_ret2
    exact R.out

theorem Pos.plus {a : Asc} (h : Pos a) : Plus a := fun p hp => (h p hp).1
theorem sum_law {x y z : S24} {a b : Asc} (pa : Rep a (coef (den y))) (pb : Rep b (coef (den z))) (hd : den x = den y ++ den z) (k : List Int) : getA a k + getA b k = coef (den x) k := by
  rw [hd, coef_append, pa.get, pb.get]
theorem prod_law {x y z : S24} {a b : Asc} (pa : Rep a (coef (den y))) (pb : Rep b (coef (den z))) (py : Plus (den y)) (pz : Plus (den z)) (hd : den x = mulL (den y) (den z)) :
    (∀ k, coef (mulL a b) k = coef (den x) k) ∧ (Steep (mulL a b) ↔ Steep (den x)) := by
  have ha : ∀ k, coef a k = coef (den y) k := fun k => (coef_get pa.nd k).trans (pa.get k)
  have hb : ∀ k, coef b k = coef (den z) k := fun k => (coef_get pb.nd k).trans (pb.get k)
  rw [hd]
  exact ⟨fun k => mul_congr ha hb k, steep_congr pa.pos.plus py pb.pos.plus pz ha hb⟩
/-- What the halves come to, and the whole. -/
structure Halves (x y z : S24) (w w1 : World) : Prop where
  iff : (Bad x ↔ (Bad y ∨ Bad z) ∨ (x.f0 = 3 ∧ Big (coef (den x))) ∨ (x.f0 = 4 ∧ (Big (coef (den x)) ∨ Steep (den x))))
  d : den x = (if x.f0 = 3 then den y ++ den z else mulL (den y) (den z))
  py : Plus (den y)
  pz : Plus (den z)
  b1 : Below w.heap.size w w1
theorem Halves.badY {x y z : S24} {w w1 w2 w3 : World} (h : Halves x y z w w1) (h1 : Below w1.heap.size w1 w2) (h2 : Below w2.heap.size w2 w3) (hb : Bad y ∨ Bad z) : NormPost w x (.returned (.tuple #[.map none, .bool false])) w3 :=
  NormPost.bad (below_then' (below_then' h.b1 h1) h2) (h.iff.2 (.inl hb))
theorem Halves.sum {x y z : S24} {w w1 w2 w3 w4 : World} (h : Halves x y z w w1) (h1 : Below w1.heap.size w1 w2) (h2 : Below w2.heap.size w2 w3) (h0 : x.f0 = 3) {a b : Asc} (pa : Rep a (coef (den y))) (pb : Rep b (coef (den z)))
    (ny : ¬ Bad y) (nz : ¬ Bad z) {e : Ending} (hp : PlusPost w3 a b e w4) : NormPost w x e w4 := by
  have hd := h.d
  rw [if_pos h0] at hd
  have hs := sum_law (x := x) pa pb hd
  have hB := below_then' (below_then' h.b1 h1) h2
  obtain ⟨hb, ⟨rfl, hbig⟩ | ⟨r, es, rfl, hr, hm, hp⟩⟩ := hp
  · exact NormPost.bad (below_then' hB hb) (h.iff.2 (.inr (.inl ⟨h0, hbig.congr hs⟩)))
  · have hp := hp.congr hs
    refine NormPost.good (below_then' hB hb) (Nat.le_trans hB.size hr) hm hp fun hbad => ?_
    rcases h.iff.1 hbad with (h | h) | ⟨_, h⟩ | ⟨h, _⟩
    · exact ny h
    · exact nz h
    · exact hp.not_big h
    · omega
theorem Halves.prod {x y z : S24} {w w1 w2 w3 w4 : World} (h : Halves x y z w w1) (h1 : Below w1.heap.size w1 w2) (h2 : Below w2.heap.size w2 w3) (h0 : x.f0 = 4) {a b : Asc} (pa : Rep a (coef (den y))) (pb : Rep b (coef (den z)))
    (ny : ¬ Bad y) (nz : ¬ Bad z) {e : Ending} (hp : ProdPost w3 a b e w4) : NormPost w x e w4 := by
  have hd := h.d
  rw [if_neg (by omega)] at hd
  have hs := prod_law (x := x) pa pb h.py h.pz hd
  have hB := below_then' (below_then' h.b1 h1) h2
  obtain ⟨hb, ⟨rfl, hbig⟩ | ⟨r, es, rfl, hr, hm, hp, hf⟩⟩ := hp
  · refine NormPost.bad (below_then' hB hb) (h.iff.2 (.inr (.inr ⟨h0, ?_⟩)))
    rcases hbig with hb | hb
    · exact .inl (hb.congr hs.1)
    · exact .inr (hs.2.1 hb)
  · have hp := hp.congr hs.1
    refine NormPost.good (below_then' hB hb) (Nat.le_trans hB.size hr) hm hp fun hbad => ?_
    rcases h.iff.1 hbad with (h | h) | ⟨h, _⟩ | ⟨_, h | h⟩
    · exact ny h
    · exact nz h
    · omega
    · exact hp.not_big h
    · exact hf.not_steep (hs.2.2 h)
set_option maxHeartbeats 4000000 in
set_option maxRecDepth 100000 in
theorem norm_at : ∀ (n : Nat) (x : S24), SizeOf.sizeOf x < n → NormAt x := by
  intro n
  induction n with
  | zero => intro x h; exact absurd h (by omega)
  | succ n ih =>
    intro x hx hg A c w hC hc
    rcases good_cases hg with ⟨h0, h2, h3, h4, h5, h6⟩ | ⟨h0, h2, h3, h4, h5, h6⟩ | ⟨y, z, h0, h1, h2, gy, gz, hd, hb⟩
    · exact num_calls hg h0 h2 h3 h4 h5 h6 A c w
    · exact var_calls hg h0 h2 h3 h4 h5 h6 A c w
    · have hs : SizeOf.sizeOf y < SizeOf.sizeOf x ∧ SizeOf.sizeOf z < SizeOf.sizeOf x := by
        obtain ⟨op, m, l⟩ := x
        simp only at h2
        subst h2
        simp
        omega
      have hy := ih y (by omega) gy
      have hz := ih z (by omega) gz
      have py := den_plus' gy
      have pz := den_plus' gz
      have hu24 := Try.underlying24
      have hl : x.f2.length = 2 := by rw [h2]; rfl
      have hB : Below w.heap.size w (w.alloc (.cells #[.int .i64 x.f0, .int .i64 x.f1, .slice A x.f2.length c] 24)) := (Below.refl _ _).alloc (Nat.le_refl _) _
      have hC' := Kd.C_below hC hB
      obtain ⟨ad, A2, c2, y', rfl, e, y0, y1, y2, hyl, hyC⟩ := at24 hC' 0 (by omega)
      rw [h2] at e
      obtain rfl : y = y' := by simpa using e
      obtain ⟨ad', A3, c3, z', e1, e, z0, z1, z2, hzl, hzC⟩ := at24 hC' 1 (by omega)
      obtain rfl := Option.some.inj e1
      rw [h2] at e
      obtain rfl : z = z' := by simpa using e
      have HY := Lib.hid (hy A2 c2 _ hyC hyl)
      have HZ := Lib.hid fun w5 (hb5 : Below (w.alloc (.cells #[.int .i64 x.f0, .int .i64 x.f1, .slice (some ad) x.f2.length c] 24)).heap.size (w.alloc (.cells #[.int .i64 x.f0, .int .i64 x.f1, .slice (some ad) x.f2.length c] 24)) w5) =>
        hz A3 c3 w5 (Kd.C_below hzC hb5) hzl
      have Z0 := Lib.hid z0
      have Z1 := Lib.hid z1
      have Z2 := Lib.hid z2
      have hx0 : (w.alloc (.cells #[.int .i64 x.f0, .int .i64 x.f1, .slice (some ad) x.f2.length c] 24)).cell? ⟨w.heap.size, 0, none⟩ = some (.int .i64 x.f0) := (cell_of_row _ w.heap.size 0 _ _ _ (heap_alloc_new w (.cells #[.int .i64 x.f0, .int .i64 x.f1, .slice (some ad) x.f2.length c] 24)))
      have hx2 : (w.alloc (.cells #[.int .i64 x.f0, .int .i64 x.f1, .slice (some ad) x.f2.length c] 24)).cell? ⟨w.heap.size, 2, none⟩ = some (.slice (some ad) x.f2.length c) := (cell_of_row _ w.heap.size 2 _ _ _ (heap_alloc_new w (.cells #[.int .i64 x.f0, .int .i64 x.f1, .slice (some ad) x.f2.length c] 24)))
      have X0 := Lib.hid hx0
      have X2 := Lib.hid hx2
      clear hx0 hx2
      have HH : Hid (Halves x y z w _) := Lib.hid ⟨hb, hd, py, pz, hB⟩
      have n1 : (x.f0 == 1) = false := beq_eq_false_iff_ne.2 (by omega)
      have n2 : (x.f0 == 2) = false := beq_eq_false_iff_ne.2 (by omega)
      clear hg hC hC' hy hz ih hx hc hs hB hb hd py pz z0 z1 z2 hyl hyC hzl hzC gy gz h2
      simp only [hl, h1, Nat.zero_mul, Nat.one_mul] at *
      clear hl h1 e
      have a0 : ad.add 0 = ad := rfl
      have a3 : ad.add 3 = ⟨ad.block, ad.off + 3, none⟩ := rfl
      simp only [a0, a3] at *
      clear a0 a3
      rcases h0 with h0 | h0
      · have H0 := Lib.hid h0
        have n3 : (x.f0 == 3) = true := beq_iff_eq.2 h0
        clear h0
        go_enter Try.func27, Try.ntmps27
        go_wp2_with (first | (go_at_call 27; refine (HZ.out _ hb2).mono ?_; rintro e w3 ⟨hb3, (⟨rfl, hbad⟩ | ⟨r2, b, rfl, hr2, m2, p2, nb2⟩)⟩ <;> have x0' := cellB hb3 x0) | (go_at_call 27; refine HY.out.mono ?_; rintro e w2 ⟨hb2, (⟨rfl, hbad⟩ | ⟨r1, a, rfl, hr1, m1, p1, nb1⟩)⟩ <;> (have z0 := cellB hb2 Z0.out; have z1 := cellB hb2 Z1.out; have z2 := cellB hb2 Z2.out; have x2 := cellB hb2 X2.out; have x0 := cellB hb2 X0.out)) | (go_at_call 34; refine (plus_calls _ _ _ _ _ (m1.below hb3) m2 p1.pos p2.pos).mono ?_; rintro e w4 hpp; have hpq := Lib.hid (HH.out.sum hb2 hb3 H0.out p1 p2 nb1 nb2 hpp); obtain ⟨hb4, (⟨rfl, hbig⟩ | ⟨r, es, rfl, _⟩)⟩ := hpp))
        all_goals go_ret2
        all_goals first | exact hpq.out | exact HH.out.badY hb2 hb3 (.inl (by assumption)) | exact HH.out.badY hb2 hb3 (.inr (by assumption))
      · have H0 := Lib.hid h0
        have n3 : (x.f0 == 3) = false := beq_eq_false_iff_ne.2 (by omega)
        clear h0
        go_enter Try.func27, Try.ntmps27
        go_wp2_with (first | (go_at_call 27; refine (HZ.out _ hb2).mono ?_; rintro e w3 ⟨hb3, (⟨rfl, hbad⟩ | ⟨r2, b, rfl, hr2, m2, p2, nb2⟩)⟩ <;> have x0' := cellB hb3 x0) | (go_at_call 27; refine HY.out.mono ?_; rintro e w2 ⟨hb2, (⟨rfl, hbad⟩ | ⟨r1, a, rfl, hr1, m1, p1, nb1⟩)⟩ <;> (have z0 := cellB hb2 Z0.out; have z1 := cellB hb2 Z1.out; have z2 := cellB hb2 Z2.out; have x2 := cellB hb2 X2.out; have x0 := cellB hb2 X0.out)) | (go_at_call 35; refine (product_calls _ _ _ _ _ (m1.below hb3) m2 p1.pos p2.pos).mono ?_; rintro e w4 hpp; have hpq := Lib.hid (HH.out.prod hb2 hb3 H0.out p1 p2 nb1 nb2 hpp); obtain ⟨hb4, (⟨rfl, hbig⟩ | ⟨r, es, rfl, _⟩)⟩ := hpp))
        all_goals go_ret2
        all_goals first | exact hpq.out | exact HH.out.badY hb2 hb3 (.inl (by assumption)) | exact HH.out.badY hb2 hb3 (.inr (by assumption))
theorem normal_calls {x : S24} (hg : good x = true) (A : Option Addr) (c : Nat) (w : World) (hC : Kd.C k24 w A x.f2.length x.f2) (hc : x.f2.length ≤ c) :
    Calls Try.prog 27 #[.agg #[.int .i64 x.f0, .int .i64 x.f1, .slice A x.f2.length c]] w (NormPost w x) :=
  norm_at (SizeOf.sizeOf x + 1) x (by omega) hg A c w hC hc
end Go.Proofs.Ytjnplfbggklkfaa
