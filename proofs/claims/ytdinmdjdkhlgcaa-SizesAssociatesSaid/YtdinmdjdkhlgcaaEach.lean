/- A region that draws its order: one law, each operation looked at once, whatever came before it. -/
import Derived.WalkKit
import Derived.KernelRfl
namespace Go.Proofs.Ytdinmdjdkhlgcaa
open Go.RowKit
set_option linter.unusedVariables false
set_option linter.unusedSimpArgs false

/-- The operations that an operation waits for stand before it; no two write one slot, each slot is there. -/
def downB (ops : Array Oper) : Bool := (List.range ops.size).all fun i => ((ops[i]?).map fun o => o.after.all fun e => decide (e.on < i)).getD true
def apartB (ops : Array Oper) (n : Nat) : Bool := (List.range ops.size).all fun i => (((ops[i]?).bind (·.dst)).map fun d => decide (d < n) && (List.range ops.size).all fun j => j == i || decide ((ops[j]?).bind (·.dst) ≠ some d)).getD true
/-- The slot of operation i. -/
def dstOf (ops : Array Oper) (i : Nat) : Option Tmp := (ops[i]?).bind (·.dst)
/-- What operation i has yielded. -/
def got (ops : Array Oper) (a : Act) (i : Nat) : Value := match dstOf ops i with
  | some d => a.tmps.getD d undef
  | none => undef
theorem down_spec {ops : Array Oper} (h : downB ops = true) {i : Nat} {o : Oper} (ho : ops[i]? = some o) : ∀ e ∈ o.after, e.on < i := by
  intro e he
  unfold downB at h
  rw [List.all_eq_true] at h
  have hi : i < ops.size := (Array.getElem?_eq_some_iff.1 ho).1
  have := h i (List.mem_range.2 hi)
  rw [ho] at this
  simp only [Option.map_some, Option.getD_some, Array.all_eq_true_iff_forall_mem, decide_eq_true_eq] at this
  exact this e he
theorem apart_spec {ops : Array Oper} {n : Nat} (h : apartB ops n = true) {i : Nat} {d : Tmp} (hd : dstOf ops i = some d) : d < n ∧ ∀ j, dstOf ops j = some d → j = i := by
  unfold apartB at h
  rw [List.all_eq_true] at h
  have hi : i < ops.size := by
    rcases Nat.lt_or_ge i ops.size with h' | h'
    · exact h'
    · unfold dstOf at hd
      rw [Array.getElem?_eq_none h'] at hd
      cases hd
  have := h i (List.mem_range.2 hi)
  unfold dstOf at hd
  rw [hd] at this
  simp only [Option.map_some, Option.getD_some, Bool.and_eq_true, decide_eq_true_eq, List.all_eq_true, List.mem_range, Bool.or_eq_true, beq_iff_eq] at this
  refine ⟨this.1, fun j hj => ?_⟩
  have hj' : j < ops.size := by
    rcases Nat.lt_or_ge j ops.size with h' | h'
    · exact h'
    · unfold dstOf at hj
      rw [Array.getElem?_eq_none h'] at hj
      cases hj
  rcases this.2 j hj' with h2 | h2
  · exact h2
  · exact absurd hj h2
/-- The frame in which all have come up. -/
def putFrom : List Oper → (Nat → Value) → Nat → Act → Act
  | [], _, _, a => a
  | o :: l, vs, k, a => putFrom l vs (k + 1) (a.put o.dst (vs k))
/-- The state between two operations. -/
structure Mid (ops : Array Oper) (a0 : Act) (I : World → Prop) (R : Nat → Value → World → Prop) (listed : Array Bool) (a : Act) (w : World) : Prop where
  size : a.tmps.size = a0.tmps.size
  defers : a.defers = a0.defers
  old : ∀ s, (∀ j, listed.getD j false = true → dstOf ops j ≠ some s) → a.tmps[s]? = a0.tmps[s]?
  inv : I w
  rel : ∀ j, listed.getD j false = true → R j (got ops a j) w
theorem put_size (a : Act) (d : Option Tmp) (v : Value) : (a.put d v).tmps.size = a.tmps.size := by
  cases d <;> simp [Act.put]
theorem put_defers (a : Act) (d : Option Tmp) (v : Value) : (a.put d v).defers = a.defers := by
  cases d <;> rfl
theorem put_other (a : Act) (d : Option Tmp) (v : Value) (s : Nat) (h : d ≠ some s) : (a.put d v).tmps[s]? = a.tmps[s]? := by
  cases d with
  | none => rfl
  | some t =>
    simp only [Act.put]
    rw [Array.getElem?_setIfInBounds_ne (fun e => h (by rw [e]))]
theorem put_same (a : Act) (d : Tmp) (v : Value) (h : d < a.tmps.size) : (a.put (some d) v).tmps[d]? = some v := by
  simp [Act.put, h]
theorem putFrom_none (vs : Nat → Value) (s : Nat) : ∀ (l : List Oper) (k : Nat) (a : Act), (∀ (j : Nat) (o : Oper), l[j]? = some o → o.dst ≠ some s) → (putFrom l vs k a).tmps[s]? = a.tmps[s]?
  | [], k, a, _ => rfl
  | o :: l, k, a, h => by
    rw [putFrom, putFrom_none vs s l _ _ (fun j o' hj => h (j + 1) o' (by simpa using hj)), put_other _ _ _ _ (h 0 o rfl)]
theorem putFrom_size (vs : Nat → Value) : ∀ (l : List Oper) (k : Nat) (a : Act), (putFrom l vs k a).tmps.size = a.tmps.size
  | [], k, a => rfl
  | o :: l, k, a => by rw [putFrom, putFrom_size vs l, put_size]
theorem putFrom_defers (vs : Nat → Value) : ∀ (l : List Oper) (k : Nat) (a : Act), (putFrom l vs k a).defers = a.defers
  | [], k, a => rfl
  | o :: l, k, a => by rw [putFrom, putFrom_defers vs l, put_defers]
theorem putFrom_at (vs : Nat → Value) : ∀ (l : List Oper) (k : Nat) (a : Act) (j : Nat) (o : Oper) (s : Tmp), l[j]? = some o → o.dst = some s → (∀ j' o', l[j']? = some o' → o'.dst = some s → j' = j) → s < a.tmps.size →
    (putFrom l vs k a).tmps[s]? = some (vs (k + j))
  | [], k, a, j, o, s, hj, _, _, _ => by simp at hj
  | x :: l, k, a, 0, o, s, hj, hd, hu, hs => by
    simp only [List.getElem?_cons_zero, Option.some.injEq] at hj
    subst hj
    rw [putFrom, putFrom_none, hd, put_same _ _ _ hs]
    · rfl
    · intro j o' hj hd'
      have := hu (j + 1) o' (by simpa using hj) hd'
      omega
  | x :: l, k, a, j + 1, o, s, hj, hd, hu, hs => by
    rw [putFrom, putFrom_at vs l (k + 1) _ j o s (by simpa using hj) hd (fun j' o' h1 h2 => by have := hu (j' + 1) o' (by simpa using h1) h2; omega) (by rw [put_size]; exact hs)]
    rw [show k + 1 + j = k + (j + 1) by omega]
theorem mid_all {ops : Array Oper} {a0 : Act} {I : World → Prop} {R : Nat → Value → World → Prop} {listed : Array Bool} {a : Act} {w : World} (hap : apartB ops a0.tmps.size = true) (h : Mid ops a0 I R listed a w) (hall : ∀ j, j < ops.size → listed.getD j false = true) :
    a = putFrom ops.toList (fun j => got ops a j) 0 a0 := by
  have e1 : a.tmps = (putFrom ops.toList (fun j => got ops a j) 0 a0).tmps := by
    apply Array.ext_getElem?
    intro s
    by_cases hs : ∃ j, dstOf ops j = some s
    · obtain ⟨j, hj⟩ := hs
      obtain ⟨hlt, hu⟩ := apart_spec hap hj
      have hj2 := hj
      unfold dstOf at hj2
      obtain ⟨o, ho, hd⟩ := Option.bind_eq_some_iff.1 hj2
      rw [putFrom_at _ ops.toList 0 a0 j o s (by simpa using ho) hd (fun j' o' h1 h2 => hu j' (by
        unfold dstOf
        rw [show ops[j']? = some o' by simpa using h1]
        exact h2)) hlt]
      simp only [Nat.zero_add, got, hj]
      have : s < a.tmps.size := by rw [h.size]; exact hlt
      rw [Array.getElem?_eq_getElem this, Array.getD_eq_getD_getElem?, Array.getElem?_eq_getElem this]
      rfl
    · rw [h.old s (fun j _ e => hs ⟨j, e⟩), putFrom_none]
      intro j o hj hd
      refine hs ⟨j, ?_⟩
      unfold dstOf
      rw [show ops[j]? = some o by simpa using hj]
      exact hd
  have e2 : a.defers = (putFrom ops.toList (fun j => got ops a j) 0 a0).defers := by rw [putFrom_defers, h.defers]
  generalize putFrom ops.toList (fun j => got ops a j) 0 a0 = b at e1 e2 ⊢
  cases a
  cases b
  simp only at e1 e2
  rw [e1, e2]
/-- What an operation may lean on when it comes up. -/
structure Up (ops : Array Oper) (a0 : Act) (I : World → Prop) (R : Nat → Value → World → Prop) (i : Nat) (a : Act) (w : World) : Prop where
  inv : I w
  old : ∀ s, (∀ j, dstOf ops j ≠ some s) → a.tmps.getD s undef = a0.tmps.getD s undef
  rel : ∀ o, ops[i]? = some o → ∀ e ∈ o.after, Region.binds .any e = true → R e.on (got ops a e.on) w
/-- How many have not come up. -/
def left (ops : Array Oper) (listed : Array Bool) : Nat := ((List.range ops.size).filter fun j => !listed.getD j false).length
theorem left_set {ops : Array Oper} {listed : Array Bool} {i : Nat} (hsz : listed.size = ops.size) (hi : i < ops.size) (h : listed.getD i false = false) : left ops (listed.setIfInBounds i true) < left ops listed := by
  unfold left
  have hp : ∀ j, (!(listed.setIfInBounds i true).getD j false) = (decide (j ≠ i) && !listed.getD j false) := by
    intro j
    by_cases e : j = i
    · subst e
      simp [hsz, hi]
    · simp [Array.getElem?_setIfInBounds_ne (fun h => e h.symm), e]
  have h1 : ((List.range ops.size).filter fun j => !(listed.setIfInBounds i true).getD j false) = (((List.range ops.size).filter fun j => !listed.getD j false).filter fun j => decide (j ≠ i)) := by
    rw [List.filter_filter]
    exact List.filter_congr fun j _ => hp j
  rw [h1]
  refine List.length_filter_lt_length_iff_exists.2 ⟨i, ?_, by simp⟩
  rw [List.mem_filter, List.mem_range]
  exact ⟨hi, by rw [h]; rfl⟩
theorem left_zero {ops : Array Oper} {listed : Array Bool} (h : left ops listed = 0) : ∀ j, j < ops.size → listed.getD j false = true := by
  intro j hj
  unfold left at h
  rw [List.length_eq_zero_iff, List.filter_eq_nil_iff] at h
  have := h j (List.mem_range.2 hj)
  simpa using this
theorem ready_all {ops : Array Oper} {listed : Array Bool} (hdown : downB ops = true) (hsz : listed.size = ops.size) (h : Region.ready .any ops listed = []) : ∀ j, j < ops.size → listed.getD j false = true := by
  intro j
  induction j using Nat.strongRecOn with
  | _ j ih =>
    intro hj
    cases hl : listed.getD j false with
    | true => rfl
    | false =>
      have hm : j ∈ Region.ready .any ops listed := by
        rw [mem_ready]
        refine ⟨?_, ops[j], Array.getElem?_eq_getElem hj, fun e he _ => ?_⟩
        · have hjl : j < listed.size := by omega
          rw [Array.getD_eq_getD_getElem?, Array.getElem?_eq_getElem hjl] at hl ⊢
          exact hl
        · have h1 := down_spec hdown (Array.getElem?_eq_getElem hj) e he
          exact ih _ h1 (by omega)
      rw [h] at hm
      cases hm
/-- Does operation i wait for operation j? -/
def depB (ops : Array Oper) (i j : Nat) : Bool := ((ops[i]?).map fun o => o.after.any fun e => e.on == j && Region.binds .any e).getD false
theorem dep_spec {ops : Array Oper} {i j : Nat} (hb : depB ops i j = true) : ∃ o e, ops[i]? = some o ∧ e ∈ o.after ∧ e.on = j ∧ Region.binds .any e = true := by
  unfold depB at hb
  cases ho : ops[i]? with
  | none => rw [ho] at hb; cases hb
  | some o =>
    rw [ho] at hb
    simp only [Option.map_some, Option.getD_some] at hb
    rw [← Array.any_toList, List.any_eq_true] at hb
    obtain ⟨e, he, hb⟩ := hb
    rw [Bool.and_eq_true, beq_iff_eq] at hb
    exact ⟨o, e, rfl, Array.mem_toList_iff.1 he, hb.1, hb.2⟩
section
variable {P : Program} {ops : Array Oper} {Q : Exit → Act → World → Prop} {a0 : Act} {I : World → Prop} {R : Nat → Value → World → Prop} {T : World → World → Prop}
theorem mid_next {listed : Array Bool} {a : Act} {w w' : World} {i : Nat} {v : Value} (hap : apartB ops a0.tmps.size = true) (hsz : listed.size = ops.size) (hi : i < ops.size) (hm : Mid ops a0 I R listed a w)
    (hT : ∀ j v, R j v w → R j v w') (hI : I w') (hR : R i (if (dstOf ops i).isSome then v else undef) w') (hnew : listed.getD i false = false) : Mid ops a0 I R (listed.setIfInBounds i true) (a.put (dstOf ops i) v) w' := by
  have hset : ∀ j, (listed.setIfInBounds i true).getD j false = true → j = i ∨ listed.getD j false = true := by
    intro j hj
    by_cases e : j = i
    · exact .inl e
    · rw [getD_set_ne false (fun h => e h.symm)] at hj
      exact .inr hj
  refine ⟨by rw [put_size]; exact hm.size, by rw [put_defers]; exact hm.defers, fun s hs => ?_, hI, fun j hj => ?_⟩
  · rw [put_other _ _ _ _ (hs i (by simp [hsz, hi]))]
    exact hm.old s fun j hj => hs j (getD_set_true hj)
  · rcases hset j hj with rfl | hl
    · have : got ops (a.put (dstOf ops j) v) j = if (dstOf ops j).isSome then v else undef := by
        unfold got
        cases hd : dstOf ops j with
        | none => rfl
        | some d =>
          have hlt := (apart_spec hap hd).1
          simp only [Option.isSome_some, if_true]
          rw [Array.getD_eq_getD_getElem?, put_same _ _ _ (by rw [hm.size]; exact hlt)]
          rfl
      rw [this]
      exact hR
    · have hji : j ≠ i := fun e => by rw [e, hnew] at hl; cases hl
      have : got ops (a.put (dstOf ops i) v) j = got ops a j := by
        unfold got
        cases hd : dstOf ops j with
        | none => rfl
        | some d =>
          have hu := (apart_spec hap hd).2
          simp only [Array.getD_eq_getD_getElem?]
          rw [put_other]
          intro e
          exact hji (hu i e).symm
      rw [this]
      exact hT j _ (hm.rel j hl)
/-- THE LAW: I: what holds of the world between two operations; R j: what holds of what operation j has yielded; T: how the world may turn. -/
theorem wp_region_each {id : Nat} {w0 : World} (hm : P.follows .mixedOrders = true) (hdown : downB ops = true) (hap : apartB ops a0.tmps.size = true)
    (hT : ∀ j v w w', T w w' → R j v w → R j v w') (hI : I w0.drew)
    (hstep : ∀ i, i < ops.size → ∀ a w, Up ops a0 I R i a w → wpOp P ops Q i (fun a' w' => ∃ v, a' = a.put (dstOf ops i) v ∧ T w w' ∧ I w' ∧ R i (if (dstOf ops i).isSome then v else undef) w') a w)
    (hend : ∀ vs w', I w' → (∀ j, j < ops.size → R j (if (dstOf ops j).isSome then vs j else undef) w') → Q .normal (putFrom ops.toList vs 0 a0) w') :
    (Code.region id ops true).wp P Q a0 w0 := by
  refine wp_region_any hm ?_
  have main : ∀ (fuel : Nat) (listed : Array Bool) (a : Act) (w : World), listed.size = ops.size → left ops listed ≤ fuel → Mid ops a0 I R listed a w → wpAny P .any ops Q fuel listed a w := by
    intro fuel
    induction fuel with
    | zero =>
      intro listed a w hsz hl h
      have hall := left_zero (Nat.le_zero.1 hl)
      have hq : Q .normal a w := by
        rw [mid_all hap h hall]
        refine hend _ _ h.inv fun j hj => ?_
        have := h.rel j (hall j hj)
        cases hd : dstOf ops j with
        | none => simpa [got, hd] using this
        | some d => simpa [hd] using this
      refine ⟨?_, hq⟩
      rw [List.eq_nil_iff_forall_not_mem]
      intro j hj
      obtain ⟨h0, o, ho, _⟩ := mem_ready.1 hj
      have hj' := (Array.getElem?_eq_some_iff.1 ho).1
      have h1 := hall j hj'
      rw [Array.getD_eq_getD_getElem?, Array.getElem?_eq_getElem (by omega)] at h0 h1
      simp only [Option.getD_some] at h0 h1
      rw [h0] at h1
      cases h1
    | succ fuel ih =>
      intro listed a w hsz hl h
      refine ⟨fun hr => ?_, fun i hi => ?_⟩
      · have hall := ready_all hdown hsz hr
        rw [mid_all hap h hall]
        refine hend _ _ h.inv fun j hj => ?_
        have := h.rel j (hall j hj)
        cases hd : dstOf ops j with
        | none => simpa [got, hd] using this
        | some d => simpa [hd] using this
      · obtain ⟨h0, o, ho, hafter⟩ := mem_ready.1 hi
        have hlt := (Array.getElem?_eq_some_iff.1 ho).1
        have hnew : listed.getD i false = false := by
          rw [Array.getD_eq_getD_getElem?, Array.getElem?_eq_getElem (by omega)] at h0 ⊢
          exact h0
        have up : Up ops a0 I R i a w := ⟨h.inv, fun s hs => by
          rw [Array.getD_eq_getD_getElem?, h.old s (fun j _ => hs j), ← Array.getD_eq_getD_getElem?], fun o' ho' e he hb => by
          rw [ho] at ho'
          obtain rfl := Option.some.inj ho'
          exact h.rel _ (hafter e he hb)⟩
        refine wpOp_mono (fun a' w' ⟨v, ha, ht, hi', hr⟩ => ?_) (hstep i hlt a w up)
        subst ha
        exact ih _ _ _ (by simpa using hsz) (by have := left_set hsz hlt hnew; omega) (mid_next hap hsz hlt h (fun j v => hT j v w w' ht) hi' hr hnew)
  refine main _ _ _ _ (by simp) ?_ ⟨rfl, rfl, fun _ _ => rfl, hI, fun j hj => ?_⟩
  · unfold left
    refine Nat.le_trans (List.length_filter_le _ _) (by simp)
  · have : (Array.replicate ops.size false).getD j false = false := by
      rw [Array.getD_eq_getD_getElem?]
      rcases Nat.lt_or_ge j ops.size with h' | h'
      · simp [h']
      · simp [h']
    rw [this] at hj
    cases hj
/-- THE LAW, one operation (number m) marked: what holds of the world ahead of it and behind it: R j: what holds of what operation j has yielded; T: how the world may turn. -/
theorem wp_region_mark {id : Nat} {w0 : World} {I : Bool → World → Prop} (m : Nat) (hmlt : m < ops.size) (hm : P.follows .mixedOrders = true) (hdown : downB ops = true) (hap : apartB ops a0.tmps.size = true)
    (hT : ∀ j v w w', T w w' → R j v w → R j v w') (hI : I false w0.drew)
    (hstep : ∀ i, i < ops.size → ∀ b a w, (i = m ∨ depB ops m i = true → b = false) → Up ops a0 (I b) R i a w → wpOp P ops Q i (fun a' w' => ∃ v, a' = a.put (dstOf ops i) v ∧ T w w' ∧ I (if i = m then true else b) w' ∧ R i (if (dstOf ops i).isSome then v else undef) w') a w)
    (hend : ∀ vs w', I true w' → (∀ j, j < ops.size → R j (if (dstOf ops j).isSome then vs j else undef) w') → Q .normal (putFrom ops.toList vs 0 a0) w') :
    (Code.region id ops true).wp P Q a0 w0 := by
  refine wp_region_any hm ?_
  have main : ∀ (fuel : Nat) (listed : Array Bool) (a : Act) (w : World), listed.size = ops.size → left ops listed ≤ fuel → (∀ j o e, listed.getD j false = true → ops[j]? = some o → e ∈ o.after → Region.binds .any e = true → listed.getD e.on false = true) → Mid ops a0 (I (listed.getD m false)) R listed a w → wpAny P .any ops Q fuel listed a w := by
    intro fuel
    induction fuel with
    | zero =>
      intro listed a w hsz hl hcl h
      have hall := left_zero (Nat.le_zero.1 hl)
      have hq : Q .normal a w := by
        rw [mid_all hap h hall]
        refine hend _ _ (by have := h.inv; rwa [hall m hmlt] at this) fun j hj => ?_
        have := h.rel j (hall j hj)
        cases hd : dstOf ops j with
        | none => simpa [got, hd] using this
        | some d => simpa [hd] using this
      refine ⟨?_, hq⟩
      rw [List.eq_nil_iff_forall_not_mem]
      intro j hj
      obtain ⟨h0, o, ho, _⟩ := mem_ready.1 hj
      have hj' := (Array.getElem?_eq_some_iff.1 ho).1
      have h1 := hall j hj'
      rw [Array.getD_eq_getD_getElem?, Array.getElem?_eq_getElem (by omega)] at h0 h1
      simp only [Option.getD_some] at h0 h1
      rw [h0] at h1
      cases h1
    | succ fuel ih =>
      intro listed a w hsz hl hcl h
      refine ⟨fun hr => ?_, fun i hi => ?_⟩
      · have hall := ready_all hdown hsz hr
        rw [mid_all hap h hall]
        refine hend _ _ (by have := h.inv; rwa [hall m hmlt] at this) fun j hj => ?_
        have := h.rel j (hall j hj)
        cases hd : dstOf ops j with
        | none => simpa [got, hd] using this
        | some d => simpa [hd] using this
      · obtain ⟨h0, o, ho, hafter⟩ := mem_ready.1 hi
        have hlt := (Array.getElem?_eq_some_iff.1 ho).1
        have hnew : listed.getD i false = false := by
          rw [Array.getD_eq_getD_getElem?, Array.getElem?_eq_getElem (by omega)] at h0 ⊢
          exact h0
        have up : Up ops a0 (I (listed.getD m false)) R i a w := ⟨h.inv, fun s hs => by
          rw [Array.getD_eq_getD_getElem?, h.old s (fun j _ => hs j), ← Array.getD_eq_getD_getElem?], fun o' ho' e he hb => by
          rw [ho] at ho'
          obtain rfl := Option.some.inj ho'
          exact h.rel _ (hafter e he hb)⟩
        refine wpOp_mono (fun a' w' ⟨v, ha, ht, hi', hr⟩ => ?_) (hstep i hlt _ a w (fun e => by
          rcases e with e | e
          · rw [← e]
            exact hnew
          · cases hlm : listed.getD m false with
            | false => rfl
            | true =>
              obtain ⟨om, em, h1, h2, h3, h4⟩ := dep_spec e
              have := hcl m om em hlm h1 h2 h4
              rw [h3, hnew] at this
              cases this) up)
        subst ha
        have hmid := mid_next hap hsz hlt (show Mid ops a0 (fun w' => True) R listed a w from ⟨h.size, h.defers, h.old, trivial, h.rel⟩) (fun j v => hT j v w w' ht) trivial hr hnew
        refine ih _ _ _ (by simpa using hsz) (by have := left_set hsz hlt hnew; omega) (fun j' o' e' hj' ho' he' hb' => by
          by_cases e : j' = i
          · subst e
            rw [ho] at ho'
            obtain rfl := Option.some.inj ho'
            exact getD_set_true (hafter e' he' hb')
          · rw [getD_set_ne false (fun h => e h.symm)] at hj'
            exact getD_set_true (hcl j' o' e' hj' ho' he' hb')) ⟨hmid.size, hmid.defers, hmid.old, ?_, hmid.rel⟩
        by_cases e : i = m
        · subst e
          rw [if_pos rfl] at hi'
          rw [show (listed.setIfInBounds i true).getD i false = true by simp [hsz, hlt]]
          exact hi'
        · rw [if_neg e] at hi'
          rw [getD_set_ne false e]
          exact hi'
  refine main _ _ _ _ (by simp) ?_ (fun j o e hj => by
    have : (Array.replicate ops.size false).getD j false = false := by
      rw [Array.getD_eq_getD_getElem?]
      rcases Nat.lt_or_ge j ops.size with h' | h'
      · simp [h']
      · simp [h']
    rw [this] at hj
    cases hj) ⟨rfl, rfl, fun _ _ => rfl, by rw [show (Array.replicate ops.size false).getD m false = false by simp [hmlt]]; exact hI, fun j hj => ?_⟩
  · unfold left
    refine Nat.le_trans (List.length_filter_le _ _) (by simp)
  · have : (Array.replicate ops.size false).getD j false = false := by
      rw [Array.getD_eq_getD_getElem?]
      rcases Nat.lt_or_ge j ops.size with h' | h'
      · simp [h']
      · simp [h']
    rw [this] at hj
    cases hj
/-- THE LAW, what holds of the world told by which operations have come up: R j: what holds of what operation j has yielded; T: how the world may turn. -/
theorem wp_region_gen {id : Nat} {w0 : World} {I : (Nat → Bool) → World → Prop} (hm : P.follows .mixedOrders = true) (hdown : downB ops = true) (hap : apartB ops a0.tmps.size = true)
    (hT : ∀ j v w w', T w w' → R j v w → R j v w') (hI : I (fun _ => false) w0.drew)
    (hstep : ∀ i, i < ops.size → ∀ lf a w, lf i = false → (∀ j k, lf j = true → depB ops j k = true → lf k = true) → (∀ k, depB ops i k = true → lf k = true) → Up ops a0 (I lf) R i a w → wpOp P ops Q i (fun a' w' => ∃ v, a' = a.put (dstOf ops i) v ∧ T w w' ∧ I (fun j => lf j || j == i) w' ∧ R i (if (dstOf ops i).isSome then v else undef) w') a w)
    (hend : ∀ lf vs w', (∀ j, j < ops.size → lf j = true) → I lf w' → (∀ j, j < ops.size → R j (if (dstOf ops j).isSome then vs j else undef) w') → Q .normal (putFrom ops.toList vs 0 a0) w') :
    (Code.region id ops true).wp P Q a0 w0 := by
  refine wp_region_any hm ?_
  have main : ∀ (fuel : Nat) (listed : Array Bool) (a : Act) (w : World), listed.size = ops.size → left ops listed ≤ fuel → (∀ j o e, listed.getD j false = true → ops[j]? = some o → e ∈ o.after → Region.binds .any e = true → listed.getD e.on false = true) → Mid ops a0 (I (fun j => listed.getD j false)) R listed a w → wpAny P .any ops Q fuel listed a w := by
    intro fuel
    induction fuel with
    | zero =>
      intro listed a w hsz hl hcl h
      have hall := left_zero (Nat.le_zero.1 hl)
      have hq : Q .normal a w := by
        rw [mid_all hap h hall]
        refine hend _ _ _ hall h.inv fun j hj => ?_
        have := h.rel j (hall j hj)
        cases hd : dstOf ops j with
        | none => simpa [got, hd] using this
        | some d => simpa [hd] using this
      refine ⟨?_, hq⟩
      rw [List.eq_nil_iff_forall_not_mem]
      intro j hj
      obtain ⟨h0, o, ho, _⟩ := mem_ready.1 hj
      have hj' := (Array.getElem?_eq_some_iff.1 ho).1
      have h1 := hall j hj'
      rw [Array.getD_eq_getD_getElem?, Array.getElem?_eq_getElem (by omega)] at h0 h1
      simp only [Option.getD_some] at h0 h1
      rw [h0] at h1
      cases h1
    | succ fuel ih =>
      intro listed a w hsz hl hcl h
      refine ⟨fun hr => ?_, fun i hi => ?_⟩
      · have hall := ready_all hdown hsz hr
        rw [mid_all hap h hall]
        refine hend _ _ _ hall h.inv fun j hj => ?_
        have := h.rel j (hall j hj)
        cases hd : dstOf ops j with
        | none => simpa [got, hd] using this
        | some d => simpa [hd] using this
      · obtain ⟨h0, o, ho, hafter⟩ := mem_ready.1 hi
        have hlt := (Array.getElem?_eq_some_iff.1 ho).1
        have hnew : listed.getD i false = false := by
          rw [Array.getD_eq_getD_getElem?, Array.getElem?_eq_getElem (by omega)] at h0 ⊢
          exact h0
        have up : Up ops a0 (I (fun j => listed.getD j false)) R i a w := ⟨h.inv, fun s hs => by
          rw [Array.getD_eq_getD_getElem?, h.old s (fun j _ => hs j), ← Array.getD_eq_getD_getElem?], fun o' ho' e he hb => by
          rw [ho] at ho'
          obtain rfl := Option.some.inj ho'
          exact h.rel _ (hafter e he hb)⟩
        refine wpOp_mono (fun a' w' ⟨v, ha, ht, hi', hr⟩ => ?_) (hstep i hlt _ a w hnew (fun j k hj hd => by
          obtain ⟨om, em, h1, h2, h3, h4⟩ := dep_spec hd
          rw [← h3]
          exact hcl j om em hj h1 h2 h4) (fun k hd => by
          obtain ⟨om, em, h1, h2, h3, h4⟩ := dep_spec hd
          rw [ho] at h1
          obtain rfl := Option.some.inj h1
          rw [← h3]
          exact hafter em h2 h4) up)
        subst ha
        have hmid := mid_next hap hsz hlt (show Mid ops a0 (fun w' => True) R listed a w from ⟨h.size, h.defers, h.old, trivial, h.rel⟩) (fun j v => hT j v w w' ht) trivial hr hnew
        refine ih _ _ _ (by simpa using hsz) (by have := left_set hsz hlt hnew; omega) (fun j' o' e' hj' ho' he' hb' => by
          by_cases e : j' = i
          · subst e
            rw [ho] at ho'
            obtain rfl := Option.some.inj ho'
            exact getD_set_true (hafter e' he' hb')
          · rw [getD_set_ne false (fun h => e h.symm)] at hj'
            exact getD_set_true (hcl j' o' e' hj' ho' he' hb')) ⟨hmid.size, hmid.defers, hmid.old, ?_, hmid.rel⟩
        have hf : (fun j => (listed.setIfInBounds i true).getD j false) = fun j => listed.getD j false || j == i := by
          funext j
          by_cases e : i = j
          · subst e
            simp [hsz, hlt]
          · rw [getD_set_ne false e]
            have : (j == i) = false := by simpa using fun h => e h.symm
            rw [this, Bool.or_false]
        rw [hf]
        exact hi'
  refine main _ _ _ _ (by simp) ?_ (fun j o e hj => by
    have : (Array.replicate ops.size false).getD j false = false := by
      rw [Array.getD_eq_getD_getElem?]
      rcases Nat.lt_or_ge j ops.size with h' | h'
      · simp [h']
      · simp [h']
    rw [this] at hj
    cases hj) ⟨rfl, rfl, fun _ _ => rfl, by
    have hf : (fun j => (Array.replicate ops.size false).getD j false) = fun _ => false := by
      funext j
      rw [Array.getD_eq_getD_getElem?]
      rcases Nat.lt_or_ge j ops.size with h' | h'
      · simp [h']
      · simp [h']
    rw [hf]
    exact hI, fun j hj => ?_⟩
  · unfold left
    refine Nat.le_trans (List.length_filter_le _ _) (by simp)
  · have : (Array.replicate ops.size false).getD j false = false := by
      rw [Array.getD_eq_getD_getElem?]
      rcases Nat.lt_or_ge j ops.size with h' | h'
      · simp [h']
      · simp [h']
    rw [this] at hj
    cases hj
end

def oldB (ops : Array Oper) (s : Nat) : Bool := (List.range ops.size).all fun j => !((ops[j]?).bind (·.dst) == some s)
theorem Up.dep {ops : Array Oper} {a0 : Act} {I : World → Prop} {R : Nat → Value → World → Prop} {i : Nat} {a : Act} {w : World} (h : Up ops a0 I R i a w) (j : Nat) (hb : depB ops i j = true) : R j (got ops a j) w := by
  unfold depB at hb
  cases ho : ops[i]? with
  | none => rw [ho] at hb; cases hb
  | some o =>
    rw [ho] at hb
    simp only [Option.map_some, Option.getD_some] at hb
    rw [← Array.any_toList, List.any_eq_true] at hb
    obtain ⟨e, he, hb⟩ := hb
    rw [Bool.and_eq_true, beq_iff_eq] at hb
    obtain ⟨hj, hb⟩ := hb
    rw [Array.mem_toList_iff] at he
    subst hj
    exact h.rel o ho e he hb
theorem Up.before {ops : Array Oper} {a0 : Act} {I : World → Prop} {R : Nat → Value → World → Prop} {i : Nat} {a : Act} {w : World} (h : Up ops a0 I R i a w) (s : Nat) (hb : oldB ops s = true) : a.tmps.getD s undef = a0.tmps.getD s undef := by
  refine h.old s fun j hj => ?_
  unfold oldB at hb
  rw [List.all_eq_true] at hb
  have hlt : j < ops.size := by
    rcases Nat.lt_or_ge j ops.size with h' | h'
    · exact h'
    · unfold dstOf at hj
      rw [Array.getElem?_eq_none h'] at hj
      cases hj
  have := hb j (List.mem_range.2 hlt)
  unfold dstOf at hj
  rw [hj] at this
  simp at this
theorem wpOp_run {P : Program} {ops : Array Oper} {Q : Exit → Act → World → Prop} {i : Nat} {K : Act → World → Prop} {a : Act} {w : World} {o : Oper} (ho : ops[i]? = some o) (hw : Region.wanted o (yielded ops a.tmps) = true) (h : o.wp P a w K Q) : wpOp P ops Q i K a w := by
  unfold wpOp
  rw [ho]
  simp only [hw, if_true]
  exact .inl h
theorem wpOp_skip {P : Program} {ops : Array Oper} {Q : Exit → Act → World → Prop} {i : Nat} {K : Act → World → Prop} {a : Act} {w : World} {o : Oper} (ho : ops[i]? = some o) (hw : Region.wanted o (yielded ops a.tmps) = false) (h : K (a.put o.dst undef) w) : wpOp P ops Q i K a w := by
  unfold wpOp
  rw [ho]
  simp only [hw, Bool.false_eq_true, if_false]
  exact h
/-- An operation that yields a value in this world. -/
theorem wpOp_value {P : Program} {ops : Array Oper} {Q : Exit → Act → World → Prop} {i : Nat} {K : Act → World → Prop} {a : Act} {w w' : World} {o : Oper} {v : Value} (ho : ops[i]? = some o) (hw : Region.wanted o (yielded ops a.tmps) = true) (hr : (execOp a.eval o).run P w = .ok (.value v) w') (h : K (a.put o.dst v) w') : wpOp P ops Q i K a w := by
  refine wpOp_run ho hw ?_
  unfold Oper.wp
  rw [hr]
  exact h
/-- An operation that calls a Go function. -/
theorem wpOp_call {P : Program} {ops : Array Oper} {Q : Exit → Act → World → Prop} {i : Nat} {K : Act → World → Prop} {a : Act} {w w' : World} {o : Oper} {f : FuncId} {args : Array Value} {R : Value → World → Prop} (ho : ops[i]? = some o) (hw : Region.wanted o (yielded ops a.tmps) = true) (hr : (execOp a.eval o).run P w = .ok (.enter f args) w')
    (hc : Calls P f args w' fun e w'' => ∃ v, e = .returned v ∧ R v w'') (h : ∀ v w'', R v w'' → K (a.put o.dst v) w'') : wpOp P ops Q i K a w := by
  refine wpOp_run ho hw ?_
  unfold Oper.wp
  rw [hr]
  refine hc.mono ?_
  rintro e w'' ⟨v, rfl, hv⟩
  exact h v w'' hv
theorem getD_bool {l : Array Value} {d : Nat} {b : Bool} (h : l.getD d undef = .bool b) : l[d]? = some (.bool b) := by
  rw [Array.getD_eq_getD_getElem?] at h
  cases hx : l[d]? with
  | none => rw [hx] at h; cases h
  | some v => rw [hx] at h; rw [← h]; rfl
theorem wanted_yes {ops : Array Oper} {o : Oper} {a : Act} {j d : Nat} {b : Bool} (hg : o.guard = some (j, b)) (hd : dstOf ops j = some d) (h : a.tmps.getD d undef = .bool b) : Region.wanted o (yielded ops a.tmps) = true := by
  unfold Region.wanted yielded
  unfold dstOf at hd
  rw [hg]
  simp only [hd, Option.bind_some, getD_bool h, beq_self_eq_true]
theorem wanted_no {ops : Array Oper} {o : Oper} {a : Act} {j d : Nat} {b c : Bool} (hg : o.guard = some (j, b)) (hd : dstOf ops j = some d) (h : a.tmps.getD d undef = .bool c) (hne : c ≠ b) : Region.wanted o (yielded ops a.tmps) = false := by
  unfold Region.wanted yielded
  unfold dstOf at hd
  rw [hg]
  simp only [hd, Option.bind_some, getD_bool h]
  simp [hne]
theorem run_val {P : Program} {s : Sem Value} {w w' : World} {v : Value} (h : s.run P w = .ok v w') : Sem.run P (do pure (Next.value (← s)) : Sem Next) w = .ok (.value v) w' := by
  rw [Sem.run_bind, h]
  rfl
/-- A load that the law of its row gives. -/
theorem wpOp_load {P : Program} {ops : Array Oper} {Q : Exit → Act → World → Prop} {i : Nat} {K : Act → World → Prop} {a : Act} {w : World} {o : Oper} {v p : Value} {ty : TypeId} {t : Tmp} (ho : ops[i]? = some o) (hop : o.op = .load ty (.tmp t)) (hw : Region.wanted o (yielded ops a.tmps) = true) (ht : a.tmps.getD t undef = p)
    (hr : (Instr.loadAt ty p).run P w = .ok v w) (h : K (a.put o.dst v) w) : wpOp P ops Q i K a w := by
  refine wpOp_value ho hw ?_ h
  have he : a.eval (.tmp t) = p := ht
  simp only [execOp, hop]
  rw [he]
  exact run_val hr
theorem wpOp_bin {P : Program} {ops : Array Oper} {Q : Exit → Act → World → Prop} {i : Nat} {K : Act → World → Prop} {a : Act} {w : World} {o : Oper} {v vx vy : Value} {op : BinOp} {ty ty' : TypeId} {x y : Operand} (ho : ops[i]? = some o) (hop : o.op = .binOp op ty x y ty') (hw : Region.wanted o (yielded ops a.tmps) = true) (hx : a.eval x = vx) (hy : a.eval y = vy)
    (hg : (eqGuard op ty x y vx vy).run P w = .ok () w) (hr : (binOp op ty vx vy).run P w = .ok v w) (h : K (a.put o.dst v) w) : wpOp P ops Q i K a w := by
  refine wpOp_value ho hw ?_ h
  simp only [execOp, hop]
  rw [hx, hy]
  refine run_val ?_
  rw [Sem.run_bind, hg]
  exact hr
/-- The same law for a region in the text's order. -/
theorem wp_region_row {P : Program} {ops : Array Oper} {Q : Exit → Act → World → Prop} {a0 : Act} {I : World → Prop} {R : Nat → Value → World → Prop} {T : World → World → Prop} {id : Nat} {w0 : World} (hdown : downB ops = true) (hap : apartB ops a0.tmps.size = true)
    (hT : ∀ j v w w', T w w' → R j v w → R j v w') (hI : I w0)
    (hstep : ∀ i, i < ops.size → ∀ a w, Up ops a0 I R i a w → wpOp P ops Q i (fun a' w' => ∃ v, a' = a.put (dstOf ops i) v ∧ T w w' ∧ I w' ∧ R i (if (dstOf ops i).isSome then v else undef) w') a w)
    (hend : ∀ vs w', I w' → (∀ j, j < ops.size → R j (if (dstOf ops j).isSome then vs j else undef) w') → Q .normal (putFrom ops.toList vs 0 a0) w') :
    (Code.region id ops false).wp P Q a0 w0 := by
  refine wp_region ?_
  have main : ∀ (n k : Nat) (listed : Array Bool) (a : Act) (w : World), k + n = ops.size → listed.size = ops.size → (∀ j, listed.getD j false = decide (j < k)) → Mid ops a0 I R listed a w → wpOps P ops Q (List.range' k n) a w := by
    intro n
    induction n with
    | zero =>
      intro k listed a w hk hsz hl h
      have hall : ∀ j, j < ops.size → listed.getD j false = true := fun j hj => by rw [hl]; exact decide_eq_true (by omega)
      show Q .normal a w
      rw [mid_all hap h hall]
      refine hend _ _ h.inv fun j hj => ?_
      have := h.rel j (hall j hj)
      cases hd : dstOf ops j with
      | none => simpa [got, hd] using this
      | some d => simpa [hd] using this
    | succ n ih =>
      intro k listed a w hk hsz hl h
      rw [List.range'_succ, wpOps_cons]
      have hlt : k < ops.size := by omega
      have hnew : listed.getD k false = false := by rw [hl]; exact decide_eq_false (by omega)
      have up : Up ops a0 I R k a w := ⟨h.inv, fun s hs => by
        rw [Array.getD_eq_getD_getElem?, h.old s (fun j _ => hs j), ← Array.getD_eq_getD_getElem?], fun o ho e he hb => h.rel _ (by
          rw [hl]
          exact decide_eq_true (down_spec hdown ho e he))⟩
      refine wpOp_mono (fun a' w' ⟨v, ha, ht, hi', hr⟩ => ?_) (hstep k hlt a w up)
      subst ha
      refine ih (k + 1) (listed.setIfInBounds k true) _ _ (by omega) (by simpa using hsz) (fun j => ?_) (mid_next hap hsz hlt h (fun j v => hT j v w w' ht) hi' hr hnew)
      by_cases e : k = j
      · subst e
        simp [hsz, hlt]
      · rw [getD_set_ne false e, hl]
        by_cases h2 : j < k
        · rw [decide_eq_true h2, decide_eq_true (by omega)]
        · rw [decide_eq_false h2, decide_eq_false (by omega)]
  rw [List.range_eq_range']
  refine main ops.size 0 (Array.replicate ops.size false) a0 w0 (by omega) (by simp) (fun j => ?_) ⟨rfl, rfl, fun _ _ => rfl, hI, fun j hj => ?_⟩
  · rw [Array.getD_eq_getD_getElem?]
    rcases Nat.lt_or_ge j ops.size with h' | h'
    · simp [h']
    · simp [h']
  · have : (Array.replicate ops.size false).getD j false = false := by
      rw [Array.getD_eq_getD_getElem?]
      rcases Nat.lt_or_ge j ops.size with h' | h'
      · simp [h']
      · simp [h']
    rw [this] at hj
    cases hj
section
variable {P : Program} {ops : Array Oper} {Q : Exit → Act → World → Prop} {a : Act} {w w' : World} {rest : List Oper} {o : Oper}
theorem wpList_val {v : Value} (hw : Region.wanted o (yielded ops a.tmps) = true) (hr : (execOp a.eval o).run P w = .ok (.value v) w') (h : wpList P ops Q rest (a.put o.dst v) w') : wpList P ops Q (o :: rest) a w := by
  unfold wpList
  rw [if_pos hw]
  refine .inl ?_
  unfold Oper.wp
  rw [hr]
  exact h
theorem wpList_skip (hw : Region.wanted o (yielded ops a.tmps) = false) (h : wpList P ops Q rest (a.put o.dst undef) w) : wpList P ops Q (o :: rest) a w := by
  unfold wpList
  rw [if_neg (by rw [hw]; decide)]
  exact h
theorem wpList_unit (hw : Region.wanted o (yielded ops a.tmps) = true) (hr : (execOp a.eval o).run P w = .ok .skip w') (h : wpList P ops Q rest (a.put o.dst undef) w') : wpList P ops Q (o :: rest) a w := by
  unfold wpList
  rw [if_pos hw]
  refine .inl ?_
  unfold Oper.wp
  rw [hr]
  exact h
theorem wpList_loadv {ty : TypeId} {x : Operand} {p v : Value} (hop : o.op = .load ty x) (hw : Region.wanted o (yielded ops a.tmps) = true) (hx : a.eval x = p) (hl : (Instr.loadAt ty p).run P w = .ok v w) (h : wpList P ops Q rest (a.put o.dst v) w) : wpList P ops Q (o :: rest) a w := by
  refine wpList_val hw ?_ h
  simp only [execOp, hop]
  rw [hx]
  exact run_val hl
theorem wpList_call {f : FuncId} {args : Array Value} {R : Value → World → Prop} (hw : Region.wanted o (yielded ops a.tmps) = true) (hr : (execOp a.eval o).run P w = .ok (.enter f args) w')
    (hc : Calls P f args w' fun e w'' => ∃ v, e = .returned v ∧ R v w'') (h : ∀ v w'', R v w'' → wpList P ops Q rest (a.put o.dst v) w'') : wpList P ops Q (o :: rest) a w := by
  unfold wpList
  rw [if_pos hw]
  refine .inl ?_
  unfold Oper.wp
  rw [hr]
  refine hc.mono ?_
  rintro e w'' ⟨v, rfl, hv⟩
  exact h v w'' hv
end
end Go.Proofs.Ytdinmdjdkhlgcaa
