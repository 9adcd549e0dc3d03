/- The chapter's two examples: one does not terminate, the other does. -/
import Derived.Test.YtdinmdjdkhlgcaaTerm
namespace Go.Proofs.Ytdinmdjdkhlgcaa
open Go.RowKit Go.Proofs.YtdinmdjdkhlgcaaW.PrintWords Go.Proofs.Ytdinmdjdkhlgcaa.Sz
set_option linter.unusedVariables false
set_option linter.unusedSimpArgs false

theorem nodup_length {l : List Gr} : ∀ {m : List Gr}, l.Nodup → (∀ x ∈ l, x ∈ m) → l.length ≤ m.length := by
  induction l with
  | nil => intro m _ _; simp
  | cons x l ih =>
    intro m nd hs
    obtain ⟨hx, nd⟩ := List.nodup_cons.1 nd
    have hm := hs x (List.mem_cons_self ..)
    have := ih (m := m.erase x) nd fun y hy => (List.mem_erase_of_ne (fun e => hx (by rw [← e]; exact hy))).2 (hs y (List.mem_cons_of_mem _ hy))
    rw [List.length_erase_of_mem hm] at this
    have := List.length_pos_of_mem hm
    simp only [List.length_cons]
    omega
theorem not_large {fs : List Gr} {m : List Gr} (hm : m.length ≤ 2000) (h : ∀ g, Reach fs g → g ∈ m) : ¬ Large fs := by
  rintro ⟨ks, nd, hl, hr⟩
  have := nodup_length nd fun x hx => h x (hr x hx)
  omega
theorem large_small {fs : List Gr} (h : Large fs) : ¬ Small fs := by
  rintro ⟨ks, _, hl, hr⟩
  exact not_large hl (fun g hg => (hr g).2 hg) h
def fB : ByteArray := ⟨#[102]⟩
def turnC : S34 := ⟨fB, fB, [⟨0, 1, false⟩, ⟨1, 0, false⟩]⟩
def lessC : S34 := ⟨fB, fB, [⟨0, 1, false⟩, ⟨1, 0, true⟩]⟩
def T1 : Gr := graphOf turnC
def T2 : Gr := T1.then T1
theorem T21 : T2.then T1 = T1 := by kernel_rfl
theorem T2bad : T2.bad = true := by kernel_rfl
theorem reach_turn {g : Gr} (h : Reach [T1] g) : g = T1 ∨ g = T2 := by
  induction h with
  | one hg => exact .inl (List.mem_singleton.1 hg)
  | more _ hh _ ih =>
    rw [List.mem_singleton.1 hh]
    rcases ih with rfl | rfl
    · exact .inr rfl
    · exact .inl T21
def L1 : Gr := graphOf lessC
def L2 : Gr := L1.then L1
def L3 : Gr := L2.then L1
theorem L31 : L3.then L1 = L2 := by kernel_rfl
theorem L1ok : L1.bad = false := by kernel_rfl
theorem L2ok : L2.bad = false := by kernel_rfl
theorem L3ok : L3.bad = false := by kernel_rfl
theorem reach_less {g : Gr} (h : Reach [L1] g) : g = L1 ∨ g = L2 ∨ g = L3 := by
  induction h with
  | one hg => exact .inl (List.mem_singleton.1 hg)
  | more _ hh _ ih =>
    rw [List.mem_singleton.1 hh]
    rcases ih with rfl | rfl | rfl
    · exact .inr (.inl rfl)
    · exact .inr (.inr rfl)
    · exact .inr (.inl L31)
theorem fB_le : fB.size ≤ maxLen := by decide
theorem turn_calls (A : Option Addr) (w : World) (hx : Kd.C k34 w A 1 [turnC]) : Calls Try.prog 11 #[.slice A 1 1] w fun e w' => e = .returned (.tuple #[.bool false, .int .i64 0]) ∧ Below w.heap.size w w' := by
  refine (terminates_calls [turnC] A 1 w hx (Nat.le_refl _) (fun x hx => by rw [List.mem_singleton.1 hx]; exact ⟨fB_le, fB_le⟩)).mono fun e w' h => ?_
  obtain ⟨hb, ⟨h1, _⟩ | ⟨_, h2, _⟩ | ⟨_, _, ⟨h3, _⟩ | ⟨_, b, rfl, h4⟩⟩⟩ := h
  · exact absurd h1 (by decide)
  · rw [show [turnC].all callOk = true by kernel_rfl] at h2
    cases h2
  · exact absurd h3 (not_large (m := [T1, T2]) (by decide) fun g hg => by
      rcases reach_turn hg with rfl | rfl
      · simp
      · simp)
  · cases b with
    | false => exact ⟨rfl, hb⟩
    | true =>
      have := h4.1 rfl T2 (Reach.more (Reach.one (List.mem_singleton.2 rfl)) (List.mem_singleton.2 rfl) rfl)
      rw [T2bad] at this
      cases this
theorem less_calls (A : Option Addr) (w : World) (hx : Kd.C k34 w A 1 [lessC]) : Calls Try.prog 11 #[.slice A 1 1] w fun e w' => e = .returned (.tuple #[.bool true, .int .i64 0]) ∧ Below w.heap.size w w' := by
  refine (terminates_calls [lessC] A 1 w hx (Nat.le_refl _) (fun x hx => by rw [List.mem_singleton.1 hx]; exact ⟨fB_le, fB_le⟩)).mono fun e w' h => ?_
  obtain ⟨hb, ⟨h1, _⟩ | ⟨_, h2, _⟩ | ⟨_, _, ⟨h3, _⟩ | ⟨_, b, rfl, h4⟩⟩⟩ := h
  · exact absurd h1 (by decide)
  · rw [show [lessC].all callOk = true by kernel_rfl] at h2
    cases h2
  · exact absurd h3 (not_large (m := [L1, L2, L3]) (by decide) fun g hg => by
      rcases reach_less hg with rfl | rfl | rfl
      · simp
      · simp
      · simp)
  · have : b = true := h4.2 fun g hg => by
      rcases reach_less hg with rfl | rfl | rfl
      · exact L1ok
      · exact L2ok
      · exact L3ok
    subst this
    exact ⟨rfl, hb⟩
/-- A call of a list of one, in memory. -/
theorem one34 {w : World} {b a : Nat} {t : Nat} {x : S34} {n : Nat} {cs : List Value} {t' : Nat} (hb : w.heap[b]? = some (.cells #[.string x.f0, .string x.f1, .slice (some ⟨a, 0, none⟩) n n] t (0, 0))) (hn : x.f2.length = n) (hm : n ≤ 1000) (ha : w.heap[a]? = some (.cells cs.toArray t' (0, 0)))
    (hc : ∀ (i : Nat) (y : S24), x.f2[i]? = some y → cs[i * 3]? = some (.int .i64 y.f0) ∧ cs[i * 3 + 1]? = some (.int .i64 y.f1) ∧ cs[i * 3 + 2]? = some (.bool y.f2)) : Kd.C k34 w (some ⟨b, 0, none⟩) 1 [x] := by
  subst hn
  refine ⟨rfl, by decide, fun _ => ⟨⟨b, 0, none⟩, rfl, fun i p hi => ?_⟩⟩
  have hi0 : i = 0 := by
    have := (List.getElem?_eq_some_iff.1 hi).1
    simpa using this
  subst hi0
  obtain rfl : x = p := by simpa using hi
  refine ⟨[.string x.f0, .string x.f1, .slice (some ⟨a, 0, none⟩) x.f2.length x.f2.length], rfl, k34_mk w x (Nat.le_refl _) ⟨rfl, by omega, fun _ => ⟨⟨a, 0, none⟩, rfl, fun i y hy => ?_⟩⟩, fun j u hj => ?_⟩
  · obtain ⟨c0, c1, c2⟩ := hc i y hy
    refine ⟨_, rfl, k24_mk w y, fun j u hj => ?_⟩
    have e : (⟨a, 0, none⟩ : Addr).add (i * k24.sz + j) = ⟨a, i * 3 + j, none⟩ := by
      rw [Addr.add_mid, Nat.zero_add]
      rfl
    rw [e, cell_of_row w a _ _ _ _ ha, List.getElem?_toArray]
    match j, hj with
    | 0, hj => rw [Nat.add_zero, c0]; simpa using hj
    | 1, hj => rw [c1]; simpa using hj
    | 2, hj => rw [c2]; simpa using hj
  · have e : (⟨b, 0, none⟩ : Addr).add (0 * k34.sz + j) = ⟨b, j, none⟩ := by
      rw [Addr.add_mid, Nat.zero_add, Nat.zero_mul, Nat.zero_add]
    rw [e, cell_of_row w b _ _ _ _ hb]
    simpa using hj
end Go.Proofs.Ytdinmdjdkhlgcaa
