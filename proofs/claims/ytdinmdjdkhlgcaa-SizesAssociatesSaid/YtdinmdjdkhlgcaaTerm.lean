/- Terminates. -/
import Derived.Test.YtdinmdjdkhlgcaaClosed
namespace Go.Proofs.Ytdinmdjdkhlgcaa
open Go.RowKit Go.Proofs.YtdinmdjdkhlgcaaW.PrintWords Go.Proofs.Ytdinmdjdkhlgcaa.Sz
set_option linter.unusedVariables false
set_option linter.unusedSimpArgs false

/-- A closure has too many graphs, or few enough. -/
def Large (fs : List Gr) : Prop := ∃ ks : List Gr, ks.Nodup ∧ ks.length = 2001 ∧ ∀ g ∈ ks, Reach fs g
def Small (fs : List Gr) : Prop := ∃ ks : List Gr, ks.Nodup ∧ ks.length ≤ 2000 ∧ ∀ g, g ∈ ks ↔ Reach fs g
def TermPost (l : List S34) (w : World) (e : Ending) (w' : World) : Prop := Below w.heap.size w w' ∧
  ((60 < l.length ∧ e = .returned (.tuple #[.bool false, .int .i64 2])) ∨ (l.length ≤ 60 ∧ l.all callOk = false ∧ e = .returned (.tuple #[.bool false, .int .i64 4])) ∨
   (l.length ≤ 60 ∧ l.all callOk = true ∧ ((Large (l.map graphOf) ∧ e = .returned (.tuple #[.bool false, .int .i64 2])) ∨
     (Small (l.map graphOf) ∧ ∃ b : Bool, e = .returned (.tuple #[.bool b, .int .i64 0]) ∧ (b = true ↔ ∀ g, Reach (l.map graphOf) g → g.bad = false)))))
theorem closed_any (l : List S34) (A : Option Addr) (c : Nat) (w : World) (hx : Kd.C k34 w A l.length l) (hc : l.length ≤ c) (hs : ∀ x ∈ l, x.f0.size ≤ maxLen ∧ x.f1.size ≤ maxLen) : Calls Try.prog 32 #[.slice A l.length c] w (ClosedPost l w) := by
  by_cases h : l.length ≤ 60
  · exact closed_calls l A c w hx hc hs h
  · exact closed_many l A c w (by omega) hx.2.1
theorem anyBad_iff (all : List (Gr × Value)) : anyBad all = false ↔ ∀ g ∈ all.map (·.1), g.bad = false := by
  unfold anyBad firstBad
  constructor
  · intro h g hg
    cases hf : all.findIdx? (fun p => p.1.bad) with
    | none =>
      rw [List.findIdx?_eq_none_iff] at hf
      obtain ⟨x, hx, rfl⟩ := List.mem_map.1 hg
      exact hf x hx
    | some i =>
      rw [hf] at h
      have : (0 : Int) ≤ (i : Int) := by omega
      simp [this] at h
  · intro h
    have : all.findIdx? (fun p => p.1.bad) = none := by
      rw [List.findIdx?_eq_none_iff]
      intro x hx
      exact h x.1 (List.mem_map.2 ⟨x, hx, rfl⟩)
    rw [this]
    decide
/-- What a call of closed leaves. -/
def ClosedR (l : List S34) (w : World) (v : Value) (w' : World) : Prop := ClosedPost l w (.returned v) w'
theorem closed_R {l : List S34} {w : World} {e : Ending} {w' : World} (h : ClosedPost l w e w') : ∃ v, e = .returned v ∧ ClosedR l w v w' := by
  have h2 := h
  obtain ⟨_, ⟨_, rfl⟩ | ⟨_, _, rfl⟩ | ⟨_, _, ⟨_, rfl⟩ | ⟨_, _, _, rfl, _⟩⟩⟩ := h
  · exact ⟨_, rfl, h2⟩
  · exact ⟨_, rfl, h2⟩
  · exact ⟨_, rfl, h2⟩
  · exact ⟨_, rfl, h2⟩
set_option maxHeartbeats 4000000 in
set_option maxRecDepth 100000 in
theorem terminates_calls (l : List S34) (A : Option Addr) (c : Nat) (w : World) (hx : Kd.C k34 w A l.length l) (hc : l.length ≤ c) (hs : ∀ x ∈ l, x.f0.size ≤ maxLen ∧ x.f1.size ≤ maxLen) : Calls Try.prog 11 #[.slice A l.length c] w (TermPost l w) := by
  have HC := Lib.hid (closed_any l A c w hx hc hs)
  have hu80 := Try.underlying80
  obtain ⟨z8, hz8⟩ : ∃ z8, z8 = m0.toArray := ⟨_, rfl⟩
  have hz80 : ∀ w, (zeroValue 80).run Try.prog w = .ok (.agg z8) w := fun w => by rw [hz8]; exact zero80 w
  have HZ8 : Hid (z8.size = 39) := Lib.hid (by rw [hz8]; rfl)
  clear hx hc hs hz8
  go_enter Try.func11, Try.ntmps11
  go_upto_region 1 with fail
  refine wp_region_list ?_
  dsimp only [List.toList_toArray]
  refine wpList_val (v := .slice A l.length c) (w' := w) rfl (by go_simp) ?_
  refine wpList_call (f := 32) (args := #[.slice A l.length c]) (R := ClosedR l w) rfl (by go_simp) (HC.out.mono fun e w' h => closed_R h) ?_
  intro v w2 hv
  have hb := hv.1
  rcases hv.2 with ⟨h1, e⟩ | ⟨h1, h2, e⟩ | ⟨h1, h2, ⟨h3, e⟩ | ⟨all, A2, c2, e, h4, h5, h6, h7, h8, h9, h10, h11⟩⟩
  · injection e with e
    subst e
    have B := Lib.hid hb
    have H1 := Lib.hid h1
    clear hv hb h1
    go_wp2
    go_ret2
    exact ⟨B.out, .inl ⟨H1.out, rfl⟩⟩
  · injection e with e
    subst e
    have B := Lib.hid hb
    have H1 := Lib.hid h1
    have H2 := Lib.hid h2
    clear hv hb h1 h2
    go_wp2
    go_ret2
    exact ⟨B.out, .inr (.inl ⟨H1.out, H2.out, rfl⟩)⟩
  · injection e with e
    subst e
    have B := Lib.hid hb
    have H1 := Lib.hid h1
    have H2 := Lib.hid h2
    have H3 := Lib.hid h3
    clear hv hb h1 h2 h3
    go_wp2
    go_ret2
    exact ⟨B.out, .inr (.inr ⟨H1.out, H2.out, .inl ⟨H3.out, rfl⟩⟩)⟩
  · injection e with e
    subst e
    have B := Lib.hid hb
    have H1 := Lib.hid h1
    have H2 := Lib.hid h2
    have HS : Hid (Small (l.map graphOf)) := Lib.hid ⟨all.map (·.1), h9, by simpa using h5, h10⟩
    have HI : Hid (anyBad all = false ↔ ∀ g, Reach (l.map graphOf) g → g.bad = false) := Lib.hid (by
      rw [anyBad_iff]
      exact ⟨fun h g hg => h g ((h10 g).2 hg), fun h g hg => h g ((h10 g).1 hg)⟩)
    have HBAD := Lib.hid (bad_calls A2 c2 all w2 h6 h7 h8 (by omega) h4)
    clear hv hb h1 h2 h4 h5 h6 h7 h8 h9 h10 h11
    go_upto_region 4 with fail
    refine wp_region_list ?_
    dsimp only [List.toList_toArray]
    refine wpList_val (v := .slice A2 all.length c2) (w' := w2) rfl (by go_simp) ?_
    refine wpList_call (f := 33) (args := #[.slice A2 all.length c2]) (R := fun v w' => ∃ cs : List Value, v = .tuple #[.agg cs.toArray, .bool (anyBad all)] ∧ cs.length = 39 ∧ (∀ v ∈ cs, v.oneCell' = true) ∧ Below w2.heap.size w2 w') rfl (by go_simp) (HBAD.out.mono ?_) ?_
    · rintro e w9 ⟨⟨cs, rfl, g1, g2, g3⟩, hb9⟩
      exact ⟨_, rfl, cs, rfl, g1, g2, hb9⟩
    rintro v w3 ⟨cs, rfl, g1, g2, hb3⟩
    have HB3 := Lib.hid hb3
    have G1 := Lib.hid g1
    have G2 := Lib.hid g2
    clear hb3 g1 g2
    refine wpList_val (v := .tuple #[.agg cs.toArray, .bool (anyBad all)]) (w' := w3) rfl (by go_simp) ?_
    refine wpList_val (v := .agg cs.toArray) (w' := w3) rfl (by go_simp) ?_
    refine wpList_val (v := .bool (anyBad all)) (w' := w3) rfl (by go_simp) ?_
    refine wpList_val (v := .pointer (some ⟨w3.heap.size, 0, none⟩)) (w' := (w3.alloc (.cells z8 80))) rfl (by go_simp) ?_
    refine wpList_unit (w' := w3.alloc (.cells cs.toArray 80)) rfl (by
      have hst := run_storeAt_row (w := w3.alloc (.cells z8 80)) (ty := 80) (heap_alloc_new w3 (.cells z8 80)) (by rw [HZ8.out, G1.out]) G2.out (by rw [G1.out]; exact info80)
      rw [World.setRow_alloc_new] at hst
      exact run_u hst) ?_
    refine wpList_val (v := .bool (anyBad all)) (w' := (w3.alloc (.cells cs.toArray 80))) rfl (by go_simp) ?_
    refine wpList_nil ?_
    simp only [Act.put, List.setIfInBounds_toArray, List.set_cons_zero, List.set_cons_succ]
    go_wp2
    go_ret2
    refine ⟨below_then B.out (below_then HB3.out ((Below.refl _ _).alloc (Nat.le_refl _) _)), .inr (.inr ⟨H1.out, H2.out, .inr ⟨HS.out, _, rfl, ?_⟩⟩)⟩
    rw [← HI.out]
    simp
end Go.Proofs.Ytdinmdjdkhlgcaa
