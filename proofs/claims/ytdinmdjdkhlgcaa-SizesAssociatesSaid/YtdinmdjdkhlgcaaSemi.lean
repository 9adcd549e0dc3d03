/- Composing is associative; more arcs keep what descends: the plain law of the sizes. -/
import Derived.Test.YtdinmdjdkhlgcaaTurn
namespace Go.Proofs.Ytdinmdjdkhlgcaa
set_option linter.unusedVariables false
set_option linter.unusedSimpArgs false

theorem tn_ge {g h : Gr} (og : g.Ok) (oh : h.Ok) (i k : Nat) {v : Int} (hv : 1 ≤ v) : ∀ n, v ≤ tn g h i k n ↔ ∃ j, j < n ∧ 0 < g.at i j ∧ 0 < h.at j k ∧ (v ≤ g.at i j ∨ v ≤ h.at j k)
  | 0 => by
    simp only [tn]
    constructor
    · intro h; omega
    · rintro ⟨j, hj, _⟩; omega
  | n + 1 => by
    have ih := tn_ge og oh i k hv n
    rw [tn]
    by_cases hp : 0 < g.at i n ∧ 0 < h.at n k
    · rw [if_pos hp]
      constructor
      · intro hm
        rcases Int.le_total v (tn g h i k n) with h1 | h1
        · obtain ⟨j, hj, h2⟩ := ih.1 h1
          exact ⟨j, by omega, h2⟩
        · by_cases h2 : v ≤ tn g h i k n
          · obtain ⟨j, hj, h3⟩ := ih.1 h2
            exact ⟨j, by omega, h3⟩
          · exact ⟨n, by omega, hp.1, hp.2, by omega⟩
      · rintro ⟨j, hj, h1, h2, h3⟩
        by_cases e : j = n
        · subst e
          refine Int.le_trans ?_ (Int.le_max_right _ _)
          rcases h3 with h3 | h3
          · exact Int.le_trans h3 (Int.le_max_left _ _)
          · exact Int.le_trans h3 (Int.le_max_right _ _)
        · exact Int.le_trans (ih.2 ⟨j, by omega, h1, h2, h3⟩) (Int.le_max_left _ _)
    · rw [if_neg hp]
      constructor
      · intro hm
        obtain ⟨j, hj, h1⟩ := ih.1 hm
        exact ⟨j, by omega, h1⟩
      · rintro ⟨j, hj, h1, h2, h3⟩
        by_cases e : j = n
        · subst e
          exact absurd ⟨h1, h2⟩ hp
        · exact ih.2 ⟨j, by omega, h1, h2, h3⟩
theorem then_at (g h : Gr) {i k : Nat} (hi : i < 6) (hk : k < 6) : (g.then h).at i k = tn g h i k 6 := mkG_at _ _ _ hi hk
theorem then_ge {g h : Gr} (og : g.Ok) (oh : h.Ok) {i k : Nat} (hi : i < 6) (hk : k < 6) {v : Int} (hv : 1 ≤ v) : v ≤ (g.then h).at i k ↔ ∃ j, j < 6 ∧ 0 < g.at i j ∧ 0 < h.at j k ∧ (v ≤ g.at i j ∨ v ≤ h.at j k) := by
  rw [then_at g h hi hk]
  exact tn_ge og oh i k hv 6
theorem int_eq {a b : Int} (ha : 0 ≤ a) (hb : 0 ≤ b) (h : ∀ v : Int, 1 ≤ v → (v ≤ a ↔ v ≤ b)) : a = b := by
  by_cases h1 : 1 ≤ a
  · have h2 := (h a h1).1 (by omega)
    have h3 := (h b (by omega)).2 (by omega)
    omega
  · by_cases h2 : 1 ≤ b
    · have := (h b h2).2 (by omega)
      omega
    · omega
/-- Composing is associative. -/
theorem then_assoc {a b c : Gr} (oa : a.Ok) (ob : b.Ok) (oc : c.Ok) : (a.then b).then c = a.then (b.then c) := by
  have oab := then_ok oa ob
  have obc := then_ok ob oc
  show mkG _ _ _ = mkG _ _ _
  refine mkG_congr fun i k hi hk => ?_
  refine int_eq (tn_bound oab oc i k 6).1 (tn_bound oa obc i k 6).1 fun v hv => ?_
  rw [tn_ge oab oc i k hv, tn_ge oa obc i k hv]
  constructor
  · rintro ⟨j, hj, h1, h2, h3⟩
    obtain ⟨m, hm, h4, h5, _⟩ := (then_ge oa ob hi hj (v := 1) (by omega)).1 (by omega)
    rcases h3 with h3 | h3
    · obtain ⟨m, hm, h4, h5, h6⟩ := (then_ge oa ob hi hj hv).1 h3
      have h7 := (then_ge ob oc hm hk (v := 1) (by omega)).2 ⟨j, hj, h5, h2, by omega⟩
      refine ⟨m, hm, h4, by omega, ?_⟩
      rcases h6 with h6 | h6
      · exact .inl h6
      · exact .inr ((then_ge ob oc hm hk hv).2 ⟨j, hj, h5, h2, .inl h6⟩)
    · have h7 := (then_ge ob oc hm hk hv).2 ⟨j, hj, h5, h2, .inr h3⟩
      exact ⟨m, hm, h4, by omega, .inr h7⟩
  · rintro ⟨m, hm, h1, h2, h3⟩
    obtain ⟨j, hj, h4, h5, _⟩ := (then_ge ob oc hm hk (v := 1) (by omega)).1 (by omega)
    rcases h3 with h3 | h3
    · have h7 := (then_ge oa ob hi hj hv).2 ⟨m, hm, h1, h4, .inl h3⟩
      exact ⟨j, hj, by omega, h5, .inl h7⟩
    · obtain ⟨j, hj, h4, h5, h6⟩ := (then_ge ob oc hm hk hv).1 h3
      have h7 := (then_ge oa ob hi hj (v := 1) (by omega)).2 ⟨m, hm, h1, h4, by omega⟩
      refine ⟨j, hj, by omega, h5, ?_⟩
      rcases h6 with h6 | h6
      · exact .inl ((then_ge oa ob hi hj hv).2 ⟨m, hm, h1, h4, .inr h6⟩)
      · exact .inr h6
/-- The arcs of one are arcs of the other, as strict. -/
def Gr.le (a b : Gr) : Prop := a.src = b.src ∧ a.dst = b.dst ∧ ∀ i k, i < 6 → k < 6 → a.at i k ≤ b.at i k
theorem le_then {a a' b b' : Gr} (oa : a.Ok) (ob : b.Ok) (oa' : a'.Ok) (ob' : b'.Ok) (h : a.le a') (k : b.le b') : (a.then b).le (a'.then b') := by
  refine ⟨h.1, k.2.1, fun i j hi hj => ?_⟩
  have hb := (then_ok oa ob).bound i j
  have hb' := (then_ok oa' ob').bound i j
  by_cases h1 : 1 ≤ (a.then b).at i j
  · obtain ⟨m, hm, h2, h3, h4⟩ := (then_ge oa ob hi hj h1).1 (by omega)
    have e1 := h.2.2 i m hi hm
    have e2 := k.2.2 m j hm hj
    exact (then_ge oa' ob' hi hj h1).2 ⟨m, hm, by omega, by omega, by omega⟩
  · omega
def AllOk (fs : List Gr) : Prop := ∀ g ∈ fs, g.Ok
theorem Reach.ok {fs : List Gr} (ho : AllOk fs) {g : Gr} (h : Reach fs g) : g.Ok := by
  induction h with
  | one hg => exact ho _ hg
  | more _ hh _ ih => exact then_ok ih (ho _ hh)
theorem Reach.then {fs : List Gr} (ho : AllOk fs) {a b : Gr} (ha : Reach fs a) (hb : Reach fs b) : a.dst = b.src → Reach fs (a.then b) := by
  induction hb with
  | one hg => exact fun e => .more ha hg e
  | @more c d hc hd e ih =>
    intro e2
    rw [← then_assoc (ha.ok ho) (hc.ok ho) (ho _ hd)]
    exact .more (ih e2) hd e
theorem Reach.sub {fs fs' : List Gr} (hs : ∀ g ∈ fs', g ∈ fs) {g : Gr} (h : Reach fs' g) : Reach fs g := by
  induction h with
  | one hg => exact .one (hs _ hg)
  | more _ hh e ih => exact .more ih (hs _ hh) e
/-- Powers of a graph. -/
def pw (g : Gr) : Nat → Gr
  | 0 => g
  | n + 1 => (pw g n).then g
theorem pw_src (g : Gr) (n : Nat) : (pw g n).src = g.src := by
  induction n with
  | zero => rfl
  | succ n ih => exact ih
theorem pw_dst (g : Gr) (n : Nat) : (pw g n).dst = g.dst := by
  cases n <;> rfl
theorem pw_ok {g : Gr} (o : g.Ok) (n : Nat) : (pw g n).Ok := by
  induction n with
  | zero => exact o
  | succ n ih => exact then_ok ih o
theorem pw_add {g : Gr} (o : g.Ok) (m n : Nat) : (pw g m).then (pw g n) = pw g (m + n + 1) := by
  induction n with
  | zero => rfl
  | succ n ih =>
    show (pw g m).then ((pw g n).then g) = _
    rw [← then_assoc (pw_ok o m) (pw_ok o n) o, ih]
    rfl
theorem pw_reach {fs : List Gr} (ho : AllOk fs) {g : Gr} (h : Reach fs g) (e : g.src = g.dst) (n : Nat) : Reach fs (pw g n) := by
  induction n with
  | zero => exact h
  | succ n ih => exact Reach.then ho ih h (by rw [pw_dst]; exact e.symm)
theorem pw_le {g g' : Gr} (o : g.Ok) (o' : g'.Ok) (h : g.le g') (hi : g'.then g' = g') (n : Nat) : (pw g n).le g' := by
  induction n with
  | zero => exact h
  | succ n ih =>
    rw [← hi]
    exact le_then (pw_ok o n) o o' o' ih h
theorem pigeon {ks : List Gr} {f : Nat → Gr} (h : ∀ n, f n ∈ ks) : ∃ i j, i < j ∧ f i = f j := by
  apply Classical.byContradiction
  intro hc
  have hn : ((List.range (ks.length + 1)).map f).Nodup := by
    rw [List.nodup_iff_pairwise_ne, List.pairwise_map]
    refine List.Pairwise.imp (fun {i j} (hij : i < j) e => hc ⟨i, j, hij, e⟩) List.pairwise_lt_range
  have := nodup_length hn (m := ks) (fun x hx => by
    obtain ⟨n, _, rfl⟩ := List.mem_map.1 hx
    exact h n)
  simp at this
  omega
theorem pw_period {g : Gr} (o : g.Ok) {i j : Nat} (hij : i < j) (e : pw g i = pw g j) : ∀ (k m : Nat), i ≤ m → pw g (m + k * (j - i)) = pw g m := by
  have step : ∀ m, i ≤ m → pw g (m + (j - i)) = pw g m := by
    intro m hm
    rcases Nat.eq_or_lt_of_le hm with h0 | hlt
    · subst h0
      rw [show i + (j - i) = j by omega]
      exact e.symm
    · have h1 : pw g m = (pw g i).then (pw g (m - i - 1)) := by rw [pw_add o]; congr 1; omega
      have h2 : pw g (m + (j - i)) = (pw g j).then (pw g (m - i - 1)) := by rw [pw_add o]; congr 1; omega
      rw [h1, h2, e]
  intro k
  induction k with
  | zero => intro m _; rw [Nat.zero_mul]; rfl
  | succ k ih =>
    intro m hm
    rw [Nat.add_mul, Nat.one_mul, ← Nat.add_assoc, step _ (by omega), ih m hm]
/-- Some power is itself when composed with itself. -/
theorem idem {g : Gr} (o : g.Ok) {ks : List Gr} (h : ∀ n, pw g n ∈ ks) : ∃ n, (pw g n).then (pw g n) = pw g n := by
  obtain ⟨i, j, hij, e⟩ := pigeon h
  obtain ⟨d, hd⟩ : ∃ d, d = j - i := ⟨_, rfl⟩
  have hd1 : 1 ≤ d := by omega
  -- m + 1 is a multiple of d, m at least i
  refine ⟨(i + 1) * d - 1, ?_⟩
  have hmul : i + 1 ≤ (i + 1) * d := Nat.le_mul_of_pos_right _ hd1
  rw [pw_add o]
  have := pw_period o hij e (i + 1) ((i + 1) * d - 1) (by omega)
  rw [← hd] at this
  rw [← this]
  congr 1
  omega
theorem desc_iff (g : Gr) : g.desc = true ↔ ∃ i, i < 6 ∧ g.at i i = 2 := by
  unfold Gr.desc
  rw [List.any_eq_true]
  constructor
  · rintro ⟨i, hi, h⟩
    exact ⟨i, List.mem_range.1 hi, by simpa using h⟩
  · rintro ⟨i, hi, h⟩
    exact ⟨i, List.mem_range.2 hi, by simpa using h⟩
theorem bad_iff (g : Gr) : g.bad = true ↔ g.src = g.dst ∧ g.then g = g ∧ g.desc = false := by
  unfold Gr.bad Gr.loops
  simp only [Bool.and_eq_true, decide_eq_true_eq, Bool.not_eq_true']
  exact and_assoc
/-- More arcs keep termination. -/
theorem more_keeps {fs fs' : List Gr} (ho : AllOk fs) (ho' : AllOk fs') (hs : Small fs) (hle : ∀ g' ∈ fs', ∃ g ∈ fs, g.le g') (hb : ∀ g, Reach fs g → g.bad = false) : ∀ g', Reach fs' g' → g'.bad = false := by
  have hr : ∀ g', Reach fs' g' → ∃ g, Reach fs g ∧ g.le g' := by
    intro g' h
    induction h with
    | one hg =>
      obtain ⟨g, h1, h2⟩ := hle _ hg
      exact ⟨g, .one h1, h2⟩
    | @more a b ha hb' e ih =>
      obtain ⟨g, h1, h2⟩ := ih
      obtain ⟨k, h3, h4⟩ := hle _ hb'
      exact ⟨g.then k, .more h1 h3 (by rw [h2.2.1, h4.1]; exact e), le_then (h1.ok ho) (ho _ h3) (ha.ok ho') (ho' _ hb') h2 h4⟩
  intro g' hg'
  cases hbad : g'.bad with
  | false => rfl
  | true =>
    exfalso
    obtain ⟨h1, h2, h3⟩ := (bad_iff g').1 hbad
    obtain ⟨g, hg, hl⟩ := hr g' hg'
    have o := hg.ok ho
    have o' := hg'.ok ho'
    have e : g.src = g.dst := by rw [hl.1, hl.2.1]; exact h1
    obtain ⟨ks, _, _, hks⟩ := hs
    obtain ⟨n, hn⟩ := idem o (ks := ks) fun n => (hks _).2 (pw_reach ho hg e n)
    have hnb := hb _ (pw_reach ho hg e n)
    have hd : (pw g n).desc = true := by
      cases hdd : (pw g n).desc with
      | true => rfl
      | false =>
        have := (bad_iff (pw g n)).2 ⟨by rw [pw_src, pw_dst]; exact e, hn, hdd⟩
        rw [hnb] at this
        cases this
    obtain ⟨i, hi, h4⟩ := (desc_iff _).1 hd
    have h5 := (pw_le o o' hl h2 n).2.2 i i hi hi
    have h6 := o'.bound i i
    have : g'.desc = true := (desc_iff _).2 ⟨i, hi, by omega⟩
    rw [h3] at this
    cases this
end Go.Proofs.Ytdinmdjdkhlgcaa
