/- A call is the same as itself; what is big; compositions of compositions. -/
import Derived.Test.YtdinmdjdkhlgcaaCompose
import Derived.Test.YtdinmdjdkhlgcaaSemi
import Derived.Test.YtdinmdjdkhlgcaaSz2
namespace Go.Proofs.Ytdinmdjdkhlgcaa
open Go.RowKit Go.Proofs.YtdinmdjdkhlgcaaW.PrintWords Go.Proofs.Ytdinmdjdkhlgcaa.Sz
set_option linter.unusedVariables false
set_option linter.unusedSimpArgs false

def bigC (x : S34) : Bool := decide (100 < x.f0.size) || decide (100 < x.f1.size) || decide (100 < x.f2.length)
theorem bigCall_f (x : S34) : tenetlaw16_bigCall.f x.f0 x.f1 x.f2 = some (bigC x) := by
  unfold tenetlaw16_bigCall.f bigC
  by_cases h0 : 100 < x.f0.size
  · rw [if_pos (by omega), decide_eq_true h0]
    rfl
  · rw [if_neg (by omega), decide_eq_false h0]
    by_cases h1 : 100 < x.f1.size
    · rw [if_pos (by omega), decide_eq_true h1]
      rfl
    · rw [if_neg (by omega), decide_eq_false h1]
      refine congrArg some ?_
      simp only [Bool.false_or]
      exact decide_eq_decide.2 (by omega)
theorem bigC_no {x : S34} (h : bigC x = false) : x.f0.size ≤ 100 ∧ x.f1.size ≤ 100 ∧ x.f2.length ≤ 100 := by
  unfold bigC at h
  simp only [Bool.or_eq_false_iff, decide_eq_false_iff_not] at h
  omega
theorem bigC_max {x : S34} (h : bigC x = false) : x.f0.size ≤ maxLen ∧ x.f1.size ≤ maxLen := by
  have := bigC_no h
  unfold maxLen
  omega
theorem big_calls (x : S34) (A : Option Addr) (c : Nat) (w : World) (hx : Kd.C k24 w A x.f2.length x.f2) (hc : x.f2.length ≤ c) : Calls Try.prog 15 #[v34 x A c] w fun e w' => e = .returned (.bool (bigC x)) ∧ Below w.heap.size w w' :=
  tenetlaw16_bigCall.calls x.f0 x.f1 A c x.f2 (bigC x) w hx hc (bigCall_f x)
theorem eq_l0 (s t : ByteArray) (l : List S24) (s' t' : ByteArray) (hl : l.length ≤ 1000000) : ∀ (n i : Nat), i + n = l.length → tenetref16_Eq.l0 (n + 1) i s t l s' t' l = some true
  | 0, i, h => by
    unfold tenetref16_Eq.l0
    rw [if_neg (by omega)]
  | n + 1, i, h => by
    unfold tenetref16_Eq.l0
    rw [if_pos (by omega), if_pos (by omega), if_pos (by omega)]
    have : (!(((rd_T24 l i).f0) == ((rd_T24 l i).f0)) || (!(((rd_T24 l i).f1) == ((rd_T24 l i).f1)) || (!(((rd_T24 l i).f2) == ((rd_T24 l i).f2))))) = false := by simp
    rw [this, if_neg (by decide)]
    have e : wrap64 ((i : Int) + 1) = ((i + 1 : Nat) : Int) := by
      rw [show ((i : Int) + 1) = ((i + 1 : Nat) : Int) by omega]
      unfold wrap64
      omega
    rw [e]
    exact eq_l0 s t l s' t' hl n (i + 1) (by omega)
theorem eq_self (x : S34) (hl : x.f2.length ≤ 1000000) : tenetref16_Eq.f (x.f2.length + 2) x.f0 x.f1 x.f2 x.f0 x.f1 x.f2 = some true := by
  unfold tenetref16_Eq.f
  rw [if_pos rfl, if_pos rfl]
  rw [show x.f2.length + 2 = (x.f2.length + 1) + 1 by omega, tenetref16_Eq.j0, if_neg (by simp)]
  exact eq_l0 _ _ _ _ _ hl x.f2.length 0 (by omega)
/-- The same calls, wherever they lie. -/
theorem same_calls (x : S34) (hl : x.f2.length ≤ 1000000) (A1 : Option Addr) (c1 : Nat) (A2 : Option Addr) (c2 : Nat) (w : World) (h1 : Kd.C k24 w A1 x.f2.length x.f2) (hc1 : x.f2.length ≤ c1) (h2 : Kd.C k24 w A2 x.f2.length x.f2) (hc2 : x.f2.length ≤ c2) :
    Calls Try.prog 17 #[v34 x A1 c1, v34 x A2 c2] w fun e w' => e = .returned (.bool true) ∧ Below w.heap.size w w' :=
  tenetref16_Eq.calls _ x.f0 x.f1 A1 c1 x.f2 x.f0 x.f1 A2 c2 x.f2 true w h1 hc1 h2 hc2 (eq_self x hl)
theorem comp_R {x y r : S34} {er : Int} (h : compR x y = (r, er)) {w w' : World} {e : Ending} (hp : CompPost x y w e w') : ∃ v, e = .returned v ∧ (Below w.heap.size w w' ∧ ∃ A c, v = .tuple #[v34 r A c, .int .i64 er] ∧ r.f2.length ≤ c ∧ Kd.C k24 w' A r.f2.length r.f2) := by
  obtain ⟨hb, A, c, rfl, h1, h2⟩ := hp
  rw [h] at h1 h2 ⊢
  exact ⟨_, rfl, hb, A, c, rfl, h1, h2⟩
theorem compR_cases {x y r : S34} {er : Int} (h : compR x y = (r, er)) : (er = 0 ∧ callOk x = true ∧ callOk y = true ∧ x.f1 = y.f0 ∧ r = callOf ((graphOf x).then (graphOf y))) ∨ (er = 4 ∧ r = z34) := by
  unfold compR at h
  split at h
  · rename_i hc
    injection h with h1 h2
    exact .inl ⟨h2.symm, hc.1, hc.2.1, hc.2.2, h1.symm⟩
  · injection h with h1 h2
    exact .inr ⟨h2.symm, h1.symm⟩
theorem callOk_ends {x : S34} (h : callOk x = true) : x.f0.toList.isEmpty = false ∧ x.f1.toList.isEmpty = false := by
  unfold callOk at h
  simp only [Bool.and_eq_true, Bool.not_eq_true'] at h
  exact h.1
theorem comp_comp {x y z r1 r2 : S34} (h1 : compR x y = (r1, 0)) (h2 : compR y z = (r2, 0)) (sx : x.f0.size ≤ maxLen ∧ x.f1.size ≤ maxLen) (sy : y.f0.size ≤ maxLen ∧ y.f1.size ≤ maxLen) (sz : z.f0.size ≤ maxLen ∧ z.f1.size ≤ maxLen) :
    ∃ q, compR r1 z = (q, 0) ∧ compR x r2 = (q, 0) ∧ q.f2.length ≤ 36 ∧ r1.f0.size ≤ maxLen ∧ r1.f1.size ≤ maxLen ∧ r2.f0.size ≤ maxLen ∧ r2.f1.size ≤ maxLen := by
  have ox := graphOf_ok sx.1 sx.2
  have oy := graphOf_ok sy.1 sy.2
  have oz := graphOf_ok sz.1 sz.2
  rcases compR_cases h1 with ⟨_, kx, ky, exy, rfl⟩ | ⟨e, _⟩
  · rcases compR_cases h2 with ⟨_, _, kz, eyz, rfl⟩ | ⟨e, _⟩
    · refine ⟨callOf (((graphOf x).then (graphOf y)).then (graphOf z)), ?_, ?_, arcsTo_len _ _, sx.1, sy.2, sy.1, sz.2⟩
      · unfold compR
        rw [if_pos ⟨callOk_callOf (callOk_ends kx).1 (callOk_ends ky).2, kz, eyz⟩, graphOf_callOf (then_ok ox oy)]
      · unfold compR
        rw [if_pos ⟨kx, callOk_callOf (callOk_ends ky).1 (callOk_ends kz).2, exy⟩, graphOf_callOf (then_ok oy oz), then_assoc ox oy oz]
    · exact absurd e (by decide)
  · exact absurd e (by decide)
/-- A call, boxed. -/
theorem box34 {w : World} (x : S34) (A : Option Addr) (c : Nat) : (w.alloc (.cells #[.string x.f0, .string x.f1, .slice A x.f2.length c] 34)).heap[w.heap.size]? = some (.cells #[.string x.f0, .string x.f1, .slice A x.f2.length c] 34 (0, 0)) := heap_alloc_new w _
abbrev l34 (x : S34) (A : Option Addr) (c : Nat) : List Value := [.string x.f0, .string x.f1, .slice A x.f2.length c]
theorem one_l34 (x : S34) (A : Option Addr) (c : Nat) : ∀ v ∈ l34 x A c, v.oneCell' = true := by
  intro v hv
  simp only [List.mem_cons, List.not_mem_nil, or_false] at hv
  rcases hv with rfl | rfl | rfl <;> rfl
theorem store_new34 (w : World) (x : S34) (A : Option Addr) (c : Nat) : (Instr.storeAt 34 (.pointer (some ⟨w.heap.size, 0, none⟩)) (v34 x A c)).run Try.prog (w.alloc (.cells #[.string ⟨#[]⟩, .string ⟨#[]⟩, .slice none 0 0] 34)) = .ok () (w.alloc (.cells #[.string x.f0, .string x.f1, .slice A x.f2.length c] 34)) := by
  have := run_storeAt_row (w := w.alloc (.cells #[.string ⟨#[]⟩, .string ⟨#[]⟩, .slice none 0 0] 34)) (ty := 34) (cs := l34 x A c) (heap_alloc_new w _) rfl (one_l34 x A c) info34
  rw [this, World.setRow_alloc_new]
end Go.Proofs.Ytdinmdjdkhlgcaa
