/- slices.IndexFunc over the graphs of a closure, and bad. -/
import Derived.Test.YtdinmdjdkhlgcaaBad
namespace Go.Proofs.Ytdinmdjdkhlgcaa
open Go.RowKit
set_option linter.unusedVariables false
set_option linter.unusedSimpArgs false

/-- A slice of graphs with the calls that each is made of. -/
def Mades (w : World) (A : Option Addr) (l : List (Gr × Value)) : Prop := l ≠ [] → ∃ b o, A = some ⟨b, o, none⟩ ∧ ∀ (i : Nat) (g : Gr) (s : Value), l[i]? = some (g, s) → w.rangeAt b (o + i * 39) (mC g s)
theorem Mades.below {w w' : World} {A : Option Addr} {l : List (Gr × Value)} (h : Mades w A l) (hb : Below w.heap.size w w') : Mades w' A l := fun hl => by
  obtain ⟨b, o, e, h⟩ := h hl
  refine ⟨b, o, e, fun i g s hi j v hj => cellB hb (h i g s hi j v hj)⟩
/-- The place of the first bad one, or -1. -/
def firstBad (l : List (Gr × Value)) : Int := match l.findIdx? fun p => p.1.bad with
  | some i => i
  | none => -1
theorem rangeB' {w w' : World} (hb : Below w.heap.size w w') {b o : Nat} {cs : List Value} (h : w.rangeAt b o cs) : w'.rangeAt b o cs := fun j v hj => cellB hb (h j v hj)
theorem firstBad_at {l : List (Gr × Value)} {k : Nat} {p : Gr × Value} (hk : l[k]? = some p) (hb : p.1.bad = true) (hn : ∀ j q, j < k → l[j]? = some q → q.1.bad = false) : firstBad l = k := by
  unfold firstBad
  obtain ⟨hlt, e⟩ := List.getElem?_eq_some_iff.1 hk
  have : l.findIdx? (fun p => p.1.bad) = some k := by
    rw [List.findIdx?_eq_some_iff_getElem]
    refine ⟨hlt, by rw [e]; exact hb, fun j hj => ?_⟩
    rw [hn j _ hj (List.getElem?_eq_getElem (by omega))]
    decide
  rw [this]
theorem firstBad_none {l : List (Gr × Value)} (hn : ∀ (j : Nat) q, l[j]? = some q → q.1.bad = false) : firstBad l = -1 := by
  unfold firstBad
  have : l.findIdx? (fun p => p.1.bad) = none := by
    rw [List.findIdx?_eq_none_iff]
    intro p hp
    obtain ⟨i, hi⟩ := List.getElem?_of_mem hp
    exact hn i p hi
  rw [this]
set_option maxHeartbeats 4000000 in
set_option maxRecDepth 100000 in
theorem index_calls (A : Option Addr) (c : Nat) (l : List (Gr × Value)) (w : World) (hA : Mades w A l) (hok : ∀ p ∈ l, p.1.Ok) (hm : l.length ≤ 100000) :
    Calls Try.prog 53 #[.slice A l.length c, .func (.func 54) #[] #[]] w fun e w' => e = .returned (.int .i64 (firstBad l)) ∧ Below w.heap.size w w' := by
  have hu80 := Try.underlying80
  have HA := Lib.hid hA
  have HOK := Lib.hid hok
  clear hA hok
  go_enter Try.func53, Try.ntmps53
  go_wp2
  go_loopg [8] l.length (fun n v8 wr => ∃ k : Nat, v8 = .int .i64 k ∧ Hid (k ≤ l.length) ∧ Hid (n = l.length - k) ∧ Hid (Below w.heap.size w wr) ∧ Hid (∀ j q, j < k → l[j]? = some q → q.1.bad = false))
  case atStart => exact ⟨0, rfl, Lib.hid (by omega), Lib.hid (by omega), Lib.hid (Below.refl _ _), Lib.hid (fun j q h => absurd h (by omega))⟩
  case round =>
    obtain ⟨k, rfl, HK, HN, B, HS⟩ := hrel
    by_cases hk : k < l.length
    · have hkb : decide ((k : Int) < (l.length : Int)) = true := decide_eq_true (by omega)
      have hk' : k + 1 ≤ 100000 := by omega
      obtain ⟨⟨g, s⟩, hp⟩ : ∃ p, l[k]? = some p := ⟨_, List.getElem?_eq_getElem hk⟩
      obtain ⟨b, o, rfl, hr⟩ := (HA.out.below B.out) (fun e => by rw [e] at hk; simp at hk)
      have HRA := Lib.hid (hr k g s hp)
      have okg : g.Ok := HOK.out (g, s) (List.mem_of_getElem? hp)
      have hi : (Try.prog.info? 80).map (·.size) = some (mC g s).length := by rw [mC_len okg]; exact info80
      have HC := Lib.hid fun w5 => badf_calls g okg s w5
      have HP := Lib.hid hp
      clear hr okg hp
      have hn0 : (0 : Int) ≤ (k : Int) := by omega
      have hn1 : (k : Int) < (l.length : Int) := by omega
      go_upto_region 4 with fail
      obtain ⟨ms, hms⟩ : ∃ ms, ms = mC g s := ⟨_, rfl⟩
      simp only [mV, ← hms] at *
      clear hms
      cases hbad : g.bad with
      | true =>
        rw [hbad] at HC
        have HF : Hid (firstBad l = k) := Lib.hid (firstBad_at HP.out hbad HS.out)
        clear hbad
        let R : Nat → Value → World → Prop := fun i v w' => match i with
          | 0 => v = .func (.func 54) #[] #[]
          | 1 => v = .slice (some ⟨b, o, none⟩) l.length c
          | 2 => v = .int .i64 k
          | 3 => v = .pointer (some ⟨b, o + k * 39, none⟩)
          | 4 => v = .agg ms.toArray
          | 5 => v = .bool true
          | _ => True
        refine wp_region_row (I := fun w' => Below wr.heap.size wr w') (R := R) (T := fun _ _ => True) (by kernel_rfl) (by kernel_rfl) ?_ ?_ ?_ ?_
        · intro j v w1 w2 _ h
          rcases j with _ | _ | _ | _ | _ | _ | j <;> exact h
        · exact Below.refl _ _
        · intro i hlt a w1 up
          have HI := Lib.hid hlt
          clear hlt
          have UP := Lib.hid up
          clear up
          rcases i with _ | _ | _ | _ | _ | _ | i
          · have h1 : a.tmps.getD 1 undef = .func (.func 54) #[] #[] := UP.out.before 1 (by kernel_rfl)
            exact wpOp_value (v := .func (.func 54) #[] #[]) rfl (by kernel_rfl) (by go_simp) ⟨_, rfl, trivial, UP.out.inv, rfl⟩
          · have h0 : a.tmps.getD 0 undef = .slice (some ⟨b, o, none⟩) l.length c := UP.out.before 0 (by kernel_rfl)
            exact wpOp_value (v := .slice (some ⟨b, o, none⟩) l.length c) rfl (by kernel_rfl) (by go_simp) ⟨_, rfl, trivial, UP.out.inv, rfl⟩
          · have h5 : a.tmps.getD 5 undef = .int .i64 k := UP.out.before 5 (by kernel_rfl)
            exact wpOp_value (v := .int .i64 k) rfl (by kernel_rfl) (by go_simp) ⟨_, rfl, trivial, UP.out.inv, rfl⟩
          · have h12 : a.tmps.getD 12 undef = .slice (some ⟨b, o, none⟩) l.length c := UP.out.dep 1 (by kernel_rfl)
            have h13 : a.tmps.getD 13 undef = .int .i64 k := UP.out.dep 2 (by kernel_rfl)
            exact wpOp_value (v := .pointer (some ⟨b, o + k * 39, none⟩)) rfl (by kernel_rfl) (by go_simp) ⟨_, rfl, trivial, UP.out.inv, rfl⟩
          · have h14 : a.tmps.getD 14 undef = .pointer (some ⟨b, o + k * 39, none⟩) := UP.out.dep 3 (by kernel_rfl)
            exact wpOp_load rfl rfl (by kernel_rfl) h14 (run_loadAt_mid w1 _ (o + k * 39) 80 ms _ (rangeB' UP.out.inv HRA.out) hu80 rfl hi) ⟨_, rfl, trivial, UP.out.inv, rfl⟩
          · have h11 : a.tmps.getD 11 undef = .func (.func 54) #[] #[] := UP.out.dep 0 (by kernel_rfl)
            have h15 : a.tmps.getD 15 undef = .agg ms.toArray := UP.out.dep 4 (by kernel_rfl)
            refine wpOp_call (f := 54) (args := #[.agg ms.toArray]) (R := fun v w' => v = .bool true ∧ Below w1.heap.size w1 w') rfl (by kernel_rfl) (by go_simp) ((HC.out w1).mono ?_) ?_
            · rintro e w2 ⟨rfl, hb⟩
              exact ⟨_, rfl, rfl, hb⟩
            · rintro v w2 ⟨rfl, hb⟩
              exact ⟨_, rfl, trivial, below_then UP.out.inv hb, rfl⟩
          · exact absurd HI.out (by simp)
        · intro vs w' hinv hR
          have r0 : vs 0 = .func (.func 54) #[] #[] := hR 0 (by decide)
          have r1 : vs 1 = .slice (some ⟨b, o, none⟩) l.length c := hR 1 (by decide)
          have r2 : vs 2 = .int .i64 k := hR 2 (by decide)
          have r3 : vs 3 = .pointer (some ⟨b, o + k * 39, none⟩) := hR 3 (by decide)
          have r4 : vs 4 = .agg ms.toArray := hR 4 (by decide)
          have r5 : vs 5 = .bool true := hR 5 (by decide)
          simp only [putFrom, Act.put, List.setIfInBounds_toArray, List.set_cons_zero, List.set_cons_succ, r0, r1, r2, r3, r4, r5]
          have HV := Lib.hid hinv
          have HR := Lib.hid hR
          clear hinv hR r0 r1 r2 r3 r4 r5
          go_wp2
          go_ret
          exact ⟨by rw [HF.out]; rfl, below_then B.out HV.out⟩
      | false =>
        rw [hbad] at HC
        have HF : Hid (∀ j q, j < k + 1 → l[j]? = some q → q.1.bad = false) := Lib.hid (fun j q hj hq => by
          by_cases e : j = k
          · subst e
            rw [HP.out] at hq
            rw [← Option.some.inj hq]
            exact hbad
          · exact HS.out j q (by omega) hq)
        clear hbad
        let R : Nat → Value → World → Prop := fun i v w' => match i with
          | 0 => v = .func (.func 54) #[] #[]
          | 1 => v = .slice (some ⟨b, o, none⟩) l.length c
          | 2 => v = .int .i64 k
          | 3 => v = .pointer (some ⟨b, o + k * 39, none⟩)
          | 4 => v = .agg ms.toArray
          | 5 => v = .bool false
          | _ => True
        refine wp_region_row (I := fun w' => Below wr.heap.size wr w') (R := R) (T := fun _ _ => True) (by kernel_rfl) (by kernel_rfl) ?_ ?_ ?_ ?_
        · intro j v w1 w2 _ h
          rcases j with _ | _ | _ | _ | _ | _ | j <;> exact h
        · exact Below.refl _ _
        · intro i hlt a w1 up
          have HI := Lib.hid hlt
          clear hlt
          have UP := Lib.hid up
          clear up
          rcases i with _ | _ | _ | _ | _ | _ | i
          · have h1 : a.tmps.getD 1 undef = .func (.func 54) #[] #[] := UP.out.before 1 (by kernel_rfl)
            exact wpOp_value (v := .func (.func 54) #[] #[]) rfl (by kernel_rfl) (by go_simp) ⟨_, rfl, trivial, UP.out.inv, rfl⟩
          · have h0 : a.tmps.getD 0 undef = .slice (some ⟨b, o, none⟩) l.length c := UP.out.before 0 (by kernel_rfl)
            exact wpOp_value (v := .slice (some ⟨b, o, none⟩) l.length c) rfl (by kernel_rfl) (by go_simp) ⟨_, rfl, trivial, UP.out.inv, rfl⟩
          · have h5 : a.tmps.getD 5 undef = .int .i64 k := UP.out.before 5 (by kernel_rfl)
            exact wpOp_value (v := .int .i64 k) rfl (by kernel_rfl) (by go_simp) ⟨_, rfl, trivial, UP.out.inv, rfl⟩
          · have h12 : a.tmps.getD 12 undef = .slice (some ⟨b, o, none⟩) l.length c := UP.out.dep 1 (by kernel_rfl)
            have h13 : a.tmps.getD 13 undef = .int .i64 k := UP.out.dep 2 (by kernel_rfl)
            exact wpOp_value (v := .pointer (some ⟨b, o + k * 39, none⟩)) rfl (by kernel_rfl) (by go_simp) ⟨_, rfl, trivial, UP.out.inv, rfl⟩
          · have h14 : a.tmps.getD 14 undef = .pointer (some ⟨b, o + k * 39, none⟩) := UP.out.dep 3 (by kernel_rfl)
            exact wpOp_load rfl rfl (by kernel_rfl) h14 (run_loadAt_mid w1 _ (o + k * 39) 80 ms _ (rangeB' UP.out.inv HRA.out) hu80 rfl hi) ⟨_, rfl, trivial, UP.out.inv, rfl⟩
          · have h11 : a.tmps.getD 11 undef = .func (.func 54) #[] #[] := UP.out.dep 0 (by kernel_rfl)
            have h15 : a.tmps.getD 15 undef = .agg ms.toArray := UP.out.dep 4 (by kernel_rfl)
            refine wpOp_call (f := 54) (args := #[.agg ms.toArray]) (R := fun v w' => v = .bool false ∧ Below w1.heap.size w1 w') rfl (by kernel_rfl) (by go_simp) ((HC.out w1).mono ?_) ?_
            · rintro e w2 ⟨rfl, hb⟩
              exact ⟨_, rfl, rfl, hb⟩
            · rintro v w2 ⟨rfl, hb⟩
              exact ⟨_, rfl, trivial, below_then UP.out.inv hb, rfl⟩
          · exact absurd HI.out (by simp)
        · intro vs w' hinv hR
          have r0 : vs 0 = .func (.func 54) #[] #[] := hR 0 (by decide)
          have r1 : vs 1 = .slice (some ⟨b, o, none⟩) l.length c := hR 1 (by decide)
          have r2 : vs 2 = .int .i64 k := hR 2 (by decide)
          have r3 : vs 3 = .pointer (some ⟨b, o + k * 39, none⟩) := hR 3 (by decide)
          have r4 : vs 4 = .agg ms.toArray := hR 4 (by decide)
          have r5 : vs 5 = .bool false := hR 5 (by decide)
          simp only [putFrom, Act.put, List.setIfInBounds_toArray, List.set_cons_zero, List.set_cons_succ, r0, r1, r2, r3, r4, r5]
          have HV := Lib.hid hinv
          have HR := Lib.hid hR
          clear hinv hR r0 r1 r2 r3 r4 r5
          go_wp2
          go_roundg (l.length - (k + 1))
          case measure => have := HN.out; omega
          case rel => exact ⟨k + 1, by go_num, Lib.hid (by omega), Lib.hid rfl, Lib.hid (below_then B.out HV.out), HF⟩
    · have hkb : decide ((k : Int) < (l.length : Int)) = false := decide_eq_false (by omega)
      have HF : Hid (firstBad l = -1) := Lib.hid (firstBad_none fun j q hq => HS.out j q (by
        have := (List.getElem?_eq_some_iff.1 hq).1
        omega) hq)
      go_wp2
      go_ret
      exact ⟨by rw [HF.out]; rfl, B.out⟩
end Go.Proofs.Ytdinmdjdkhlgcaa
