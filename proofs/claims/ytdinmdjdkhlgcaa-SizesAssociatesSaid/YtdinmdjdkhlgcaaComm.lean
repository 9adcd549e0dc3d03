/- Communication in one goroutine, as operations of a region: a send with room, a select of one receive with a default. -/
import Derived.Test.YtdinmdjdkhlgcaaEach
import Derived.Conc.LoneSelectN
import Derived.Conc.LoneCalls
namespace Go.Proofs.Ytdinmdjdkhlgcaa
open Go.RowKit Go.Conc
set_option linter.unusedVariables false
set_option linter.unusedSimpArgs false

/-- The operations that are left are carried out, and Q holds behind them. -/
def wpSem (P : Program) (ops : Array Oper) (Q : Exit → Act → World → Prop) (l : List Nat) (a : Act) (w : World) : Prop :=
  ∀ (b : Frame) (k : List Item) (cs : List Frame), ∃ e a' w', Q e a' w' ∧ Arrives P (lone (b.at a (.inRegion ops l :: k)) cs w) b k cs e a' w'
section
variable {P : Program} {ops : Array Oper} {Q : Exit → Act → World → Prop} {a : Act} {w w' : World} {i : Nat} {rest : List Nat} {o : Oper}
theorem wp_region_sem {id : Nat} (h : wpSem P ops Q (List.range ops.size) a w) : (Code.region id ops false).wp P Q a w :=
  fun b k cs => let ⟨e, a', w', q, r⟩ := h b k cs; ⟨e, a', w', q, .of_steps (.one step_region) r⟩
theorem sem_of_ops {l : List Nat} (h : wpOps P ops Q l a w) : wpSem P ops Q l a w := fun b k cs => wp_ops l a w h b k cs
theorem sem_step {a₁ : Act} {w₁ : World} (h : ∀ (b : Frame) (k : List Item) (cs : List Frame), step P (lone (b.at a (.inRegion ops (i :: rest) :: k)) cs w) = .next (lone (b.at a₁ (.inRegion ops rest :: k)) cs w₁)) (h' : wpSem P ops Q rest a₁ w₁) : wpSem P ops Q (i :: rest) a w :=
  fun b k cs => let ⟨e, a', w', q, r⟩ := h' b k cs; ⟨e, a', w', q, .of_steps (.one (h b k cs)) r⟩
theorem sem_value {v : Value} (ho : ops[i]? = some o) (hw : Region.wanted o (yielded ops a.tmps) = true) (hr : (execOp a.eval o).run P w = .ok (.value v) w') (h : wpSem P ops Q rest (a.put o.dst v) w') : wpSem P ops Q (i :: rest) a w := by
  refine sem_step (fun b k cs => step_lone_go ?_) h
  have hfin : (b.at a (.inRegion ops (i :: rest) :: k)).finish v = b.at (a.put o.dst v) (.inRegion ops rest :: k) := by
    rw [Frame.finish_at, ho]
    rfl
  rw [stepG_op ho hw, ← hfin]
  simp [stepG.apply, hr]
theorem stepG_comm_any {b : Frame} {k : List Item} {cs : List Frame} {cases : Array CommCase} {blocking : Bool} {shape : CommShape} (ho : ops[i]? = some o) (hw : Region.wanted o (yielded ops a.tmps) = true) (hr : (execOp a.eval o).run P w = .ok (.comm cases blocking shape) w') :
    ∃ es, stepG P true (G (b.at a (.inRegion ops (i :: rest) :: k)) cs) w = .comm (G (b.at a (.inRegion ops (i :: rest) :: k)) cs) cases blocking shape w' es := by
  have hg := stepG_op (P := P) (b := b) (k := k) (cs := cs) (w := w) (rest := rest) ho hw
  unfold G
  rw [hg]
  simp only [stepG.apply, Sem.runT_eq, hr, if_true, GStep.after]
  exact ⟨_, rfl⟩
theorem sem_send {c cap s r : Nat} {buf : Array Value} {z' v : Value} {tm : Bool} (ho : ops[i]? = some o) (hw : Region.wanted o (yielded ops a.tmps) = true) (hr : (execOp a.eval o).run P w = .ok (.comm #[scase c v z'] true .send) w') (hc : w'.heap[c]? = some (.chan cap buf false s r tm)) (hroom : buf.size < cap)
    (h : wpSem P ops Q rest (a.put o.dst undef) (w'.setChan c cap (buf.push v) false (s + 1) r tm)) : wpSem P ops Q (i :: rest) a w := by
  refine sem_step (fun b k cs => ?_) h
  obtain ⟨es, hg⟩ := stepG_comm_any (P := P) (b := b) (k := k) (cs := cs) (rest := rest) ho hw hr
  have hst := step_lone_send_room hg hc hroom
  rw [lone_eq_solo, hst]
  have hfin : (b.at a (.inRegion ops (i :: rest) :: k)).finish undef = b.at (a.put o.dst undef) (.inRegion ops rest :: k) := by
    rw [Frame.finish_at, ho]
    rfl
  rw [hfin]
  rfl
theorem sem_recv {c cap s r : Nat} {buf : Array Value} {z : Value} {tm closed : Bool} (ho : ops[i]? = some o) (hw : Region.wanted o (yielded ops a.tmps) = true) (hr : (execOp a.eval o).run P w = .ok (.comm #[rcase c z] false .select) w') (hc : w'.heap[c]? = some (.chan cap buf closed s r tm)) (hsome : 0 < buf.size)
    (h : wpSem P ops Q rest (a.put o.dst (.tuple #[goInt 0, .bool true, buf.getD 0 undef])) (w'.setChan c cap (buf.extract 1 buf.size) closed s (r + 1) tm)) : wpSem P ops Q (i :: rest) a w := by
  refine sem_step (fun b k cs => ?_) h
  obtain ⟨es, hg⟩ := stepG_comm_any (P := P) (b := b) (k := k) (cs := cs) (rest := rest) ho hw hr
  have hst := step_lone_sel_recv_buf (k := 0) hg rfl (fun m c' hm hc' => by
    rcases m with _ | m
    · exact absurd rfl hm
    · simp at hc') hc hsome
  rw [lone_eq_solo, hst]
  have hres : commResult #[rcase c z] .select ((0 : Nat) : Int) (buf.getD 0 undef) true = .tuple #[goInt 0, .bool true, buf.getD 0 undef] := by
    simp [commResult, rcase, List.zipIdx_cons]
  rw [hres, Frame.finish_at, ho]
  rfl
theorem sem_default {c cap s r : Nat} {z : Value} {tm : Bool} (ho : ops[i]? = some o) (hw : Region.wanted o (yielded ops a.tmps) = true) (hr : (execOp a.eval o).run P w = .ok (.comm #[rcase c z] false .select) w') (hc : w'.heap[c]? = some (.chan cap #[] false s r tm))
    (h : wpSem P ops Q rest (a.put o.dst (.tuple #[goInt (-1), .bool false, z])) w') : wpSem P ops Q (i :: rest) a w := by
  refine sem_step (fun b k cs => ?_) h
  obtain ⟨es, hg⟩ := stepG_comm_any (P := P) (b := b) (k := k) (cs := cs) (rest := rest) ho hw hr
  have hst := step_lone_sel_default hg (fun cc hcc => by
    simp only [List.mem_toArray, List.mem_cons, List.not_mem_nil, or_false] at hcc
    subst hcc
    exact noWay_recv hc)
  rw [lone_eq_solo, hst]
  have hres : commResult #[rcase c z] .select (-1) undef false = .tuple #[goInt (-1), .bool false, z] := by
    simp [commResult, rcase, List.zipIdx_cons]
  rw [hres, Frame.finish_at, ho]
  rfl
end
end Go.Proofs.Ytdinmdjdkhlgcaa
