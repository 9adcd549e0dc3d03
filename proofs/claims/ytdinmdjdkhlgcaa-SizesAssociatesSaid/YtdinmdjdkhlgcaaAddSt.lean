/- The state that the closure add of closed works on. -/
import Derived.Test.YtdinmdjdkhlgcaaSeen
import Derived.Test.YtdinmdjdkhlgcaaComm
import Derived.Great.BuildSlice
namespace Go.Proofs.Ytdinmdjdkhlgcaa
open Go.RowKit
set_option linter.unusedVariables false
set_option linter.unusedSimpArgs false

structure CS (B : Nat) (w : World) (p q r mb cb cap : Nat) (all queue : List (Gr × Value)) (av : Value) (s rr : Nat) : Prop where
  hp : w.heap[p]? = some (.cells #[.map (some mb)] 112 (0, 0))
  hq : w.heap[q]? = some (.cells #[av] 72 (0, 0))
  hr : w.heap[r]? = some (.cells #[.chan (some cb)] 113 (0, 0))
  hm : w.heap[mb]? = some (.map (seenE (all.map (·.1))) all.length)
  hc : w.heap[cb]? = some (.chan cap (queue.map fun x => mV x.1 x.2).toArray false s rr false)
  own : w.ownsRow B 80 39 av all.length (all.flatMap fun x => mC x.1 x.2)
  bp : B ≤ p
  bq : B ≤ q
  br : B ≤ r
  bm : B ≤ mb
  bc : B ≤ cb
  ok : ∀ x ∈ all, x.1.Ok
  one : ∀ x ∈ all, x.2.oneCell' = true
/-- What the closure may have turned. -/
structure Added (w w' : World) (q mb cb : Nat) (av av' : Value) : Prop where
  os : w'.os = w.os
  tape : w'.tape = w.tape
  output : w'.output = w.output
  size : w.heap.size ≤ w'.heap.size
  block : ∀ k, k < w.heap.size → k ≠ q → k ≠ mb → k ≠ cb → some k ≠ av.ownBlock → w'.heap[k]? = w.heap[k]?
  own : av'.ownBlock = av.ownBlock ∨ ∃ g, av'.ownBlock = some g ∧ w.heap.size ≤ g
theorem Added.of_below {w w' : World} {q mb cb : Nat} {av : Value} (h : Below w.heap.size w w') : Added w w' q mb cb av av := ⟨h.os, h.tape, h.output, h.size, fun k hk _ _ _ _ => h.block k hk, .inl rfl⟩
theorem CS.below {B : Nat} {w w' : World} {p q r mb cb cap : Nat} {all queue : List (Gr × Value)} {av : Value} {s rr : Nat} (h : CS B w p q r mb cb cap all queue av s rr) (hb : Below w.heap.size w w') : CS B w' p q r mb cb cap all queue av s rr :=
  ⟨row_below h.hp hb, row_below h.hq hb, row_below h.hr hb, row_below h.hm hb, row_below h.hc hb, h.own.kept (row := none) ⟨hb.os, hb.tape, hb.output, hb.size, fun k hk _ => hb.block k hk⟩ (by
    cases e : av.ownBlock with
    | none => exact .inl rfl
    | some g => exact .inr (by simp)), h.bp, h.bq, h.br, h.bm, h.bc, h.ok, h.one⟩
theorem lt_of_heap {w : World} {k : Nat} {o : Obj} (h : w.heap[k]? = some o) : k < w.heap.size := (Array.getElem?_eq_some_iff.1 h).1
theorem ne_of_heap {w : World} {k j : Nat} {o o' : Obj} (h : w.heap[k]? = some o) (h' : w.heap[j]? = some o') (hne : o ≠ o') : k ≠ j := fun e => hne (by
  subst e
  rw [h] at h'
  exact Option.some.inj h')
theorem Added.below {w w' : World} {p q r mb cb cap : Nat} {all queue : List (Gr × Value)} {av av' : Value} {s rr B : Nat} {w0 : World} (h : Added w w' q mb cb av av') (hs : CS B w p q r mb cb cap all queue av s rr) (hb : Below B w0 w) : Below B w0 w' := by
  have hB : B ≤ w.heap.size := Nat.le_trans hs.bp (Nat.le_of_lt (lt_of_heap hs.hp))
  refine hb.trans ⟨h.os, h.tape, h.output, h.size, fun k hk => h.block k (by omega) ?_ ?_ ?_ ?_⟩
  · have := hs.bq; omega
  · have := hs.bm; omega
  · have := hs.bc; omega
  · intro e
    have := (hs.own.lt k e.symm).1
    omega
/-- The row of all, in memory. -/
theorem ownsRow_block {w : World} {B : Nat} {e : TypeId} {size : Nat} {v : Value} {n : Nat} {xs : List Value} (h : w.ownsRow B e size v n xs) {g : Nat} (hg : v.ownBlock = some g) : ∃ cur, w.heap[g]? = some (.cells cur e (0, 0)) := by
  rcases h.2 with ⟨rfl, _⟩ | ⟨g', cap, cur, rfl, _, hc, _⟩
  · cases hg
  · simp only [Value.ownBlock, Option.some.injEq] at hg
    subst hg
    exact ⟨cur, hc⟩
/-! ### Laws -/
theorem info80z : (Try.prog.info? 80).map (fun i => (i.zero, i.size, i.bytes)) = some (some (.agg m0.toArray), 39, 96) := by kernel_rfl
theorem info36z : (Try.prog.info? 36).map (fun i => (i.zero, i.size, i.bytes)) = some (some (.slice none 0 0), 1, 24) := by kernel_rfl
theorem info3z : (Try.prog.info? 3).map (fun i => (i.zero, i.size, i.bytes)) = some (some (.int .i64 0), 1, 8) := by kernel_rfl
theorem info78z : (Try.prog.info? 78).map (fun i => (i.zero, i.size, i.bytes)) = some (some (gV g0), 38, 72) := by kernel_rfl
/-- A slice of one value. -/
theorem run_slice1 {t e size bytes : Nat} {z : Value} (hu : Try.prog.underlying t = some (.slice e)) (hi : (Try.prog.info? e).map (fun i => (i.zero, i.size, i.bytes)) = some (some z, size, bytes)) (h0 : 0 < size) (h1 : size ≤ 1000) (v : Value) (cs : List Value) (hv : v.cells = cs.toArray) (hl : cs.length = size) (w : World) :
    (Instr.buildSlice t 1 #[(0, v)]).run Try.prog w = .ok (.slice (some ⟨w.heap.size, 0, none⟩) 1 1) (w.alloc (.cells cs.toArray e)) := by
  obtain ⟨i, hi', hz, hsz, hb⟩ := info_parts hi
  refine run_buildSlice w t e 1 _ cs.toArray i z hu hi' hz (by rw [hsz]; omega) (by rw [hsz]; omega) ?_
  rw [hsz]
  have := Great.fill_whole (s := size) h0 [v] ((Array.range (1 * size)).map fun x => z.cells[x % z.cells.size]!) (by
    intro u hu
    rw [List.mem_singleton.1 hu, hv]
    simpa using hl) (by simp)
  simpa [hv] using this
/-- A graph and its way, built. -/
theorem run_made {g : Gr} (ok : g.Ok) {s : Value} (hs : s.cells = #[s]) (w : World) : (Instr.build 80 #[(0, gV g), (1, s)]).run Try.prog w = .ok (mV g s) w := by
  refine run_build w 80 _ _ ?_
  have hb : ∀ parts, Try.prog.built 80 parts = Instr.fill (#[(0, 38), (38, 1)][·]?) m0.toArray parts := fun parts => by kernel_rfl
  rw [hb]
  have hgc : (gV g).cells = (gC g).toArray := rfl
  have hlen := gC_len ok
  have h0 : m0.toArray.size = 39 := rfl
  obtain ⟨z1, z2⟩ := Great.foldl_set 0 (gC g) 0 m0.toArray
  generalize hA : ((gC g).zipIdx 0).foldl (fun cs (x : Value × Nat) => cs.setIfInBounds (0 + x.2) x.1) m0.toArray = A at z1 z2
  have hA' : (gV g).cells.zipIdx.foldl (fun cs (c, j) => cs.setIfInBounds (0 + j) c) m0.toArray = A := by
    rw [← hA, hgc, ← Array.foldl_toList, Array.toList_zipIdx]
  have e1 : Instr.fill (#[(0, 38), (38, 1)][·]?) m0.toArray [(0, gV g), (1, s)] = some (A.setIfInBounds 38 s) := by
    simp only [Instr.fill, List.getElem?_toArray, List.getElem?_cons_zero, List.getElem?_cons_succ]
    rw [if_neg (by rw [hgc, h0]; simp [hlen]), hA', if_neg (by rw [hs, z1, h0]; simp), hs]
    rfl
  show Instr.fill (#[(0, 38), (38, 1)][·]?) m0.toArray [(0, gV g), (1, s)] = _
  rw [e1]
  congr 1
  apply Array.ext_getElem?
  intro k
  rw [Array.getElem?_setIfInBounds, z1, h0]
  have hm : (mC g s).toArray[k]? = (mC g s)[k]? := by simp
  rw [hm]
  by_cases hk : 38 = k
  · subst hk
    rw [if_pos rfl, if_pos (by omega), mC_last ok]
  · rw [if_neg hk, z2 k, h0, hlen]
    by_cases hk2 : k < 38
    · rw [if_pos (by omega)]
      unfold mC
      rw [List.getElem?_append_left (by omega)]
      simp
    · rw [if_neg (by omega)]
      have : (mC g s)[k]? = none := List.getElem?_eq_none (by rw [mC_len ok]; omega)
      rw [this]
      exact Array.getElem?_eq_none (by rw [h0]; omega)
section
variable {B : Nat} {w : World} {p q r mb cb cap : Nat} {all queue : List (Gr × Value)} {av : Value} {n rr : Nat}
theorem CS.okm (h : CS B w p q r mb cb cap all queue av n rr) : ∀ g ∈ all.map (·.1), g.Ok := by
  intro g hg
  obtain ⟨x, hx, rfl⟩ := List.mem_map.1 hg
  exact h.ok x hx
theorem CS.look (h : CS B w p q r mb cb cap all queue av n rr) {g : Gr} (okg : g.Ok) : (Instr.lookup 112 (.map (some mb)) (gV g) false).run Try.prog w = .ok (.bool (decide (g ∈ all.map (·.1)))) w :=
  run_look112 (by rw [h.hm, List.length_map]) h.okm okg
theorem CS.put (h : CS B w p q r mb cb cap all queue av n rr) {g : Gr} (okg : g.Ok) (hn : g ∉ all.map (·.1)) : (Instr.mapUpdate 112 (.map (some mb)) (gV g) (.bool true)).run Try.prog w = .ok () (putSeen w mb (all.map (·.1) ++ [g])) :=
  run_add112 (by rw [h.hm, List.length_map]) h.okm okg hn
end
/-- The operation append, by the law of its run. -/
theorem exec_append {o : Oper} {a : Act} {s x : Operand} {t : TypeId} {v u v' : Value} {w w' : World} (ho : o.op = .call { callee := .builtin .append, args := #[s, x], argTypes := #[t, t] }) (hs : a.eval s = v) (hx : a.eval x = u)
    (hr : (Builtin.append_ #[t, t] o.type #[v, u]).run Try.prog w = .ok v' w') : (execOp a.eval o).run Try.prog w = .ok (.value v') w' := by
  unfold execOp
  simp only [ho, resolve, invoke, builtin, Sem.run_bind, Sem.run_pure, Result.andThen_ok, List.map_toArray, List.map_cons, List.map_nil, hs, hx, hr]
theorem run_storeAt_one {w : World} {g t ty : Nat} {old v : Value} (hg : w.heap[g]? = some (.cells #[old] t (0, 0))) (hi : (Try.prog.info? ty).map (·.size) = some 1) (h1 : v.oneCell' = true) :
    (Instr.storeAt ty (.pointer (some ⟨g, 0, none⟩)) v).run Try.prog w = .ok () (w.setRow g #[v]) := by
  simp [Instr.storeAt, Instr.sureAddr, Sem.run_bind, run_storeVar_one w g t ty old v hg hi h1]
theorem info72 : (Try.prog.info? 72).map (·.size) = some 1 := by kernel_rfl
/-- Where an append lays its row: where it lay, or in a block that is new. -/
theorem append_place {P : Program} {w w' : World} {base t e ty size bytes n m c : Nat} {v v' : Value} {xs news : List Value} {i : TypeInfo} {z : Value} (ht : P.underlying t = some (.slice e)) (hi : P.info? e = some i) (hz : i.zero = some z) (hsize : i.size = size) (hby : i.bytes = bytes)
    (hown : w.ownsRow base e size v n xs) {a : Addr} (hl : news.length = m * size) (hnews : ∀ j u, news[j]? = some u → w.cell? (a.add j) = some u) (h1 : ∀ u ∈ news, u.oneCell' = true) (hm : 0 < m)
    (h63 : n + m ≤ maxLen) (hbytes : (n + m) * bytes ≤ 140737488355328) (hr : (Builtin.append_ #[t, t] ty #[v, .slice (some a) m c]).run P w = .ok v' w') :
    v'.ownBlock = v.ownBlock ∨ ∃ g, v'.ownBlock = some g ∧ w.heap.size ≤ g := by
  subst hsize
  subst hby
  have hmx : maxLen ≤ 9223372036854775807 := by decide
  rcases hown.2 with ⟨rfl, rfl⟩ | ⟨g, cap, cur, rfl, hbg, hg, hnc, hcm, hcs, htake⟩
  · have h2 := run_append_nil (P := P) w t ty e i z ht hi hz a m c news hl hnews hm (by omega) (by rw [Nat.zero_add] at hbytes; omega)
    rw [hr] at h2
    injection h2 with h2 _
    subst h2
    exact .inr ⟨_, rfl, Nat.le_refl _⟩
  · by_cases hroom : n + m ≤ cap
    · have h2 := run_append_room (P := P) w t ty e i ht hi g n cap cur hg a m c news hl hnews h1 hroom (by rw [hl, hcs, ← Nat.add_mul]; exact Nat.mul_le_mul_right _ hroom)
      rw [hr] at h2
      injection h2 with h2 _
      subst h2
      exact .inl rfl
    · have h2 := run_append_grow (P := P) w t ty e i z ht hi hz ⟨g, 0, none⟩ n cap xs hown.1 (hown.cells rfl) a m c news hl hnews (by omega) (by omega) (growslice_fits (by omega) hbytes)
      rw [hr] at h2
      injection h2 with h2 _
      subst h2
      exact .inr ⟨_, rfl, Nat.le_refl _⟩
open Go.Conc in
/-- The worlds through which a new graph goes. -/
theorem CS.adds {B : Nat} {W1 : World} {p q r mb cb cap : Nat} {all queue : List (Gr × Value)} {av : Value} {n rr b : Nat} (h : CS B W1 p q r mb cb cap all queue av n rr) {g : Gr} (okg : g.Ok) {s : Value} (hs1 : s.oneCell' = true) (hnew : g ∉ all.map (·.1))
    (hrow : W1.heap[b]? = some (.cells (mC g s).toArray 80 (0, 0))) (hB : B ≤ W1.heap.size) (hbo : some b ≠ av.ownBlock) (hlen : all.length ≤ 2000) (ty : TypeId) :
    ∃ W2 W4 W5 gA cA, (Instr.mapUpdate 112 (.map (some mb)) (gV g) (.bool true)).run Try.prog W1 = .ok () W2 ∧ W2.cell? ⟨q, 0, none⟩ = some av ∧ W2.rangeAt b 0 (mC g s) ∧
      (Builtin.append_ #[72, 72] ty #[av, .slice (some ⟨W2.heap.size, 0, none⟩) 1 1]).run Try.prog (W2.alloc (.cells (mC g s).toArray 80)) = .ok (.slice (some ⟨gA, 0, none⟩) (all.length + 1) cA) W4 ∧
      (Instr.storeAt 72 (.pointer (some ⟨q, 0, none⟩)) (.slice (some ⟨gA, 0, none⟩) (all.length + 1) cA)).run Try.prog W4 = .ok () W5 ∧
      W5.cell? ⟨q, 0, none⟩ = some (.slice (some ⟨gA, 0, none⟩) (all.length + 1) cA) ∧ W5.cell? ⟨r, 0, none⟩ = some (.chan (some cb)) ∧ W5.rangeAt b 0 (mC g s) ∧
      W5.heap[cb]? = some (.chan cap (queue.map fun x => mV x.1 x.2).toArray false n rr false) ∧
      Added W1 W5 q mb cb av (.slice (some ⟨gA, 0, none⟩) (all.length + 1) cA) ∧
      (CS B (W5.setChan cb cap ((queue.map fun x => mV x.1 x.2).toArray.push (mV g s)) false (n + 1) rr false) p q r mb cb cap (all ++ [(g, s)]) (queue ++ [(g, s)]) (.slice (some ⟨gA, 0, none⟩) (all.length + 1) cA) (n + 1) rr ∧
        Added W1 (W5.setChan cb cap ((queue.map fun x => mV x.1 x.2).toArray.push (mV g s)) false (n + 1) rr false) q mb cb av (.slice (some ⟨gA, 0, none⟩) (all.length + 1) cA)) := by
  have hup := h.put okg hnew
  have hm1 := h.hm
  generalize hW2 : putSeen W1 mb (all.map (·.1) ++ [g]) = W2 at hup
  have hsz2 : W2.heap.size = W1.heap.size := by rw [← hW2]; simp [putSeen]
  have o2 : ∀ k, k ≠ mb → W2.heap[k]? = W1.heap[k]? := fun k hk => by rw [← hW2]; exact putSeen_other W1 _ hk
  have m2 : W2.heap[mb]? = some (.map (seenE ((all ++ [(g, s)]).map (·.1))) (all ++ [(g, s)]).length) := by
    rw [← hW2, putSeen_at hm1]
    simp
  have nqm : q ≠ mb := ne_of_heap h.hq hm1 (by simp)
  have nrm : r ≠ mb := ne_of_heap h.hr hm1 (by simp)
  have npm : p ≠ mb := ne_of_heap h.hp hm1 (by simp)
  have ncm : cb ≠ mb := ne_of_heap h.hc hm1 (by simp)
  have nbm : b ≠ mb := ne_of_heap hrow hm1 (by simp)
  have npq : p ≠ q := ne_of_heap h.hp h.hq (by simp)
  have nrq : r ≠ q := ne_of_heap h.hr h.hq (by simp)
  have ncq : cb ≠ q := ne_of_heap h.hc h.hq (by simp)
  have nbq : b ≠ q := ne_of_heap hrow h.hq (by simp)
  have npc : p ≠ cb := ne_of_heap h.hp h.hc (by simp)
  have nrc : r ≠ cb := ne_of_heap h.hr h.hc (by simp)
  have nbc : b ≠ cb := ne_of_heap hrow h.hc (by simp)
  have q2 := (o2 q nqm).trans h.hq
  have r2 := (o2 r nrm).trans h.hr
  have p2 := (o2 p npm).trans h.hp
  have c2 := (o2 cb ncm).trans h.hc
  have b2 := (o2 b nbm).trans hrow
  have own2 : W2.ownsRow B 80 39 av all.length (all.flatMap fun x => mC x.1 x.2) := h.own.kept (row := some mb) (by rw [← hW2]; exact ⟨rfl, rfl, rfl, by simp [putSeen], fun k _ hk => putSeen_other W1 _ (fun e => hk (by rw [e]))⟩) (by
    cases e : av.ownBlock with
    | none => exact .inl rfl
    | some g' =>
      obtain ⟨cur, hcur⟩ := ownsRow_block h.own e
      exact .inr (fun e2 => ne_of_heap hcur hm1 (by simp) (Option.some.inj e2)))
  have hB3 : Below W2.heap.size W2 (W2.alloc (.cells (mC g s).toArray 80)) := (Below.refl _ _).alloc (Nat.le_refl _) _
  have own3 : (W2.alloc (.cells (mC g s).toArray 80)).ownsRow B 80 39 av all.length (all.flatMap fun x => mC x.1 x.2) := own2.alloc _
  have r3 := row_below r2 hB3
  have q3 := row_below q2 hB3
  have p3 := row_below p2 hB3
  have c3 := row_below c2 hB3
  have b3 := row_below b2 hB3
  have m3 := row_below m2 hB3
  have n3 := heap_alloc_new W2 (.cells (mC g s).toArray 80)
  have s3 : (W2.alloc (.cells (mC g s).toArray 80)).heap.size = W2.heap.size + 1 := by simp
  obtain ⟨i0, hi, hz0, hz1, hz2⟩ := info_parts info80z
  obtain ⟨av', W4, hap, own4, hgr, hnil⟩ := run_append_own (P := Try.prog) (W2.alloc (.cells (mC g s).toArray 80)) B 72 ty 80 i0 (.agg m0.toArray) 39 96 Try.underlying72 hi hz0 hz1 hz2 (by rfl) (by omega) av all.length _ own3
    ⟨W2.heap.size, 0, none⟩ 1 1 (mC g s) (by rw [mC_len okg]) (fun j u hj => by
      have := range_row n3 j u hj
      rw [Addr.add_mid]
      exact this) (mC_one g s hs1) (by unfold maxLen; omega) (by omega) (by rw [s3, hsz2]; omega)
  obtain ⟨gA, cA, cur, rfl, hBg, hcur, hl1, hl2, hl3, hl4⟩ := own4.2.resolve_left (fun h => absurd h.2 (by omega))
  have o4 : ∀ k, k < W2.heap.size + 1 → some k ≠ av.ownBlock → W4.heap[k]? = (W2.alloc (.cells (mC g s).toArray 80)).heap[k]? := fun k hk hne => hgr.block k (by rw [s3]; exact hk) hne
  have hnown : ∀ {k : Nat} {o : Obj}, W1.heap[k]? = some o → (∀ cur, o ≠ .cells cur 80 (0, 0)) → some k ≠ av.ownBlock := fun {k o} hk ho e => by
    obtain ⟨cur', hcur'⟩ := ownsRow_block h.own e.symm
    rw [hk] at hcur'
    exact ho cur' (Option.some.inj hcur')
  have lq := lt_of_heap q2
  have lr := lt_of_heap r2
  have lp := lt_of_heap p2
  have lc := lt_of_heap c2
  have lb := lt_of_heap b2
  have lm := lt_of_heap m2
  have q4 := (o4 q (by omega) (hnown h.hq (by simp))).trans q3
  have r4 := (o4 r (by omega) (hnown h.hr (by simp))).trans r3
  have p4 := (o4 p (by omega) (hnown h.hp (by simp))).trans p3
  have c4 := (o4 cb (by omega) (hnown h.hc (by simp))).trans c3
  have m4 := (o4 mb (by omega) (hnown hm1 (by simp))).trans m3
  have b4 := (o4 b (by omega) hbo).trans b3
  have hst := run_storeAt_one q4 info72 (v := .slice (some ⟨gA, 0, none⟩) (all.length + 1) cA) rfl
  have q5 := setRow_heap W4 q #[av] #[.slice (some ⟨gA, 0, none⟩) (all.length + 1) cA] 72 (0, 0) q4
  have o5 : ∀ k, k ≠ q → (W4.setRow q #[.slice (some ⟨gA, 0, none⟩) (all.length + 1) cA]).heap[k]? = W4.heap[k]? := fun k hk => Go.setRow_other W4 q k _ hk
  have s5 : (W4.setRow q #[.slice (some ⟨gA, 0, none⟩) (all.length + 1) cA]).heap.size = W4.heap.size := by simp
  have os5 : (W4.setRow q #[.slice (some ⟨gA, 0, none⟩) (all.length + 1) cA]).os = W1.os ∧ (W4.setRow q #[.slice (some ⟨gA, 0, none⟩) (all.length + 1) cA]).tape = W1.tape ∧ (W4.setRow q #[.slice (some ⟨gA, 0, none⟩) (all.length + 1) cA]).output = W1.output := by
    refine ⟨?_, ?_, ?_⟩
    · rw [setRow_os, hgr.os]
      show W2.os = _
      rw [← hW2]
      rfl
    · rw [setRow_tape, hgr.tape]
      show W2.tape = _
      rw [← hW2]
      rfl
    · rw [setRow_output, hgr.output]
      show W2.output = _
      rw [← hW2]
      rfl
  generalize hW5 : W4.setRow q #[.slice (some ⟨gA, 0, none⟩) (all.length + 1) cA] = W5 at *
  have r5 := (o5 r nrq).trans r4
  have p5 := (o5 p npq).trans p4
  have c5 := (o5 cb ncq).trans c4
  have m5 := (o5 mb nqm.symm).trans m4
  have b5 := (o5 b nbq).trans b4
  have hsz : W1.heap.size ≤ W5.heap.size := by
    have := hgr.size
    omega
  have add5 : Added W1 W5 q mb cb av (.slice (some ⟨gA, 0, none⟩) (all.length + 1) cA) := ⟨os5.1, os5.2.1, os5.2.2, hsz, fun k hk h1 h2 h3 h4 => by
    rw [o5 k h1, o4 k (by omega) h4, Below.heap_alloc _ _ _ (by omega), o2 k h2], by
    rcases append_place (P := Try.prog) Try.underlying72 hi hz0 hz1 hz2 own3 (by rw [mC_len okg]) (fun j u hj => by
      have := range_row n3 j u hj
      rw [Addr.add_mid]
      exact this) (mC_one g s hs1) (by omega) (by unfold maxLen; omega) (by omega) hap with e | ⟨g', e1, e2⟩
    · exact .inl e
    · exact .inr ⟨g', e1, by rw [s3, hsz2] at e2; omega⟩⟩
  have own5 : W5.ownsRow B 80 39 (.slice (some ⟨gA, 0, none⟩) (all.length + 1) cA) (all.length + 1) ((all.flatMap fun x => mC x.1 x.2) ++ mC g s) := by
    refine own4.kept (row := some q) ?_ (.inr ?_)
    · rw [← hW5]
      exact ⟨by simp, by simp, by simp, by simp, fun k _ hk => Go.setRow_other W4 q k _ (fun e => hk (by rw [e]))⟩
    · intro e
      have : gA = q := Option.some.inj e
      subst this
      rw [hcur] at q4
      simp at q4
  refine ⟨W2, W4, W5, gA, cA, hup, cell_of_row _ _ 0 _ _ _ q2, range_row b2, hap, hst, cell_of_row _ _ 0 _ _ _ q5, cell_of_row _ _ 0 _ _ _ r5, range_row b5, c5, add5, ?_, ?_⟩
  · have oc : ∀ k, k ≠ cb → (W5.setChan cb cap ((queue.map fun x => mV x.1 x.2).toArray.push (mV g s)) false (n + 1) rr false).heap[k]? = W5.heap[k]? := fun k hk => by
      simp [World.setChan, Array.getElem?_setIfInBounds_ne (Ne.symm hk)]
    refine ⟨(oc p npc).trans p5, (oc q ncq.symm).trans q5, (oc r nrc).trans r5, (oc mb ncm.symm).trans m5, ?_, ?_, h.bp, h.bq, h.br, h.bm, h.bc, ?_, ?_⟩
    · have := lt_of_heap c5
      simp [World.setChan, this]
    · rw [List.length_append, List.flatMap_append]
      simp only [List.flatMap_cons, List.flatMap_nil, List.append_nil, List.length_cons, List.length_nil]
      refine own5.kept (row := some cb) ⟨rfl, rfl, rfl, by simp [World.setChan], fun k _ hk => oc k (fun e => hk (by rw [e]))⟩ (.inr ?_)
      intro e
      have e2 : gA = cb := Option.some.inj e
      obtain ⟨cur', hc'⟩ := ownsRow_block own5 (g := gA) rfl
      rw [e2, c5] at hc'
      simp at hc'
    · intro x hx
      rcases List.mem_append.1 hx with hx | hx
      · exact h.ok x hx
      · rw [List.mem_singleton.1 hx]
        exact okg
    · intro x hx
      rcases List.mem_append.1 hx with hx | hx
      · exact h.one x hx
      · rw [List.mem_singleton.1 hx]
        exact hs1
  · exact ⟨add5.os, add5.tape, add5.output, by simpa [World.setChan] using add5.size, fun k hk h1 h2 h3 h4 => by
      rw [← add5.block k hk h1 h2 h3 h4]
      simp [World.setChan, Array.getElem?_setIfInBounds_ne (Ne.symm h3)], add5.own⟩
theorem Added.below_of {B : Nat} {w0 w w' : World} {p q r mb cb cap : Nat} {all queue : List (Gr × Value)} {av av' : Value} {n rr : Nat} (h : Added w w' q mb cb av av') (hs : CS B w p q r mb cb cap all queue av n rr) (hb : Below w0.heap.size w0 w) (hB : B ≤ w0.heap.size) : Below B w0 w' :=
  h.below hs (hb.mono hB)
theorem exec_slice1 {o : Oper} {a : Act} {x : Operand} {t e size bytes : Nat} {z v : Value} {cs : List Value} {w : World} (ho : o.op = .buildSlice t 1 #[(0, x)]) (hx : a.eval x = v) (hu : Try.prog.underlying t = some (.slice e)) (hi : (Try.prog.info? e).map (fun i => (i.zero, i.size, i.bytes)) = some (some z, size, bytes)) (h0 : 0 < size) (h1 : size ≤ 1000) (hv : v.cells = cs.toArray) (hl : cs.length = size) :
    (execOp a.eval o).run Try.prog w = .ok (.value (.slice (some ⟨w.heap.size, 0, none⟩) 1 1)) (w.alloc (.cells cs.toArray e)) := by
  unfold execOp
  simp only [ho, List.map_toArray, List.map_cons, List.map_nil, hx]
  exact run_val (run_slice1 hu hi h0 h1 v cs hv hl w)
theorem exec_made {o : Oper} {a : Act} {x y : Operand} {g : Gr} {s : Value} {w : World} (ho : o.op = .build 80 #[(0, x), (1, y)]) (hx : a.eval x = gV g) (hy : a.eval y = s) (ok : g.Ok) (hs : s.cells = #[s]) :
    (execOp a.eval o).run Try.prog w = .ok (.value (mV g s)) w := by
  unfold execOp
  simp only [ho, List.map_toArray, List.map_cons, List.map_nil, hx, hy]
  exact run_val (run_made ok hs w)
theorem Added.trans' {w w1 w2 : World} {q mb cb : Nat} {av av2 : Value} (h : Added w w1 q mb cb av av) (k : Added w1 w2 q mb cb av av2) : Added w w2 q mb cb av av2 :=
  ⟨k.os.trans h.os, k.tape.trans h.tape, k.output.trans h.output, Nat.le_trans h.size k.size, fun i hi h1 h2 h3 h4 => (k.block i (Nat.lt_of_lt_of_le hi h.size) h1 h2 h3 h4).trans (h.block i hi h1 h2 h3 h4), by
    rcases k.own with e | ⟨g, e, hg⟩
    · exact .inl e
    · exact .inr ⟨g, e, Nat.le_trans h.size hg⟩⟩
end Go.Proofs.Ytdinmdjdkhlgcaa
