/-
  NARROWER THAN 'FOR EVERY INPUT', by the rows' own cells (each row's printed sentence says how): RingEquals: loops · RingKeeps: loops · RingEvals: loops.
  DERIVED. THE GIVEN ROWS OF THIS SEAT. 3 by the template 'for every input the law returns true; each argument reads behind the call as it read before'; 0 by the template 'total and deterministic' (their statements: YtjnplfbggklkfaaTotals.lean).
  GIVEN WITH THE SEED: the statements are not yours to turn. If you find one false, say at which input.
  Laid BY PROGRAM, IN A SANDBOX (cutbox-rows.mjs): the forced cells as the released guide's own fill.sh prints them over the translation 9792c08554c34c24… (all of the seat's roots in one cut). By AI agents, Wed Nov 11 2026. No macro, syntax, notation, axiom, sorry.
-/
import Derived.Test.YtjnplfbggklkfaaChecked
import GoSem.Claim
import GoSem.ClaimJoined
import GoSem.ClaimMapViews
import Derived.JoinedTies
import Derived.KernelRfl
namespace Go.Proofs.Ytjnplfbggklkfaa
/- THE CELL 'sum', in the pinned program and in every row, IS THE sha256 OF THE DUMP (.gsa) THAT YtjnplfbggklkfaaProg.lean LOADS. Nothing in Lean hashes anything: it is a label: what it is worth is what the hold of that sum in a sandbox is worth. -/
noncomputable def Try.pinned : Pinned := { name := "ytjnplfbggklkfaa", sum := "9792c08554c34c2498764b2692a58cf1de08c3df8fb34b4a8df6aa0ab838f60d", checked := Try.checked }
namespace Rows
def none {H : Type} : Left H := { results := [], args := [] }

/-- 'tenetlaw24.RingEquals': WHATEVER THE INPUT: true; the input reads as it did. -/
def ringEqualsSpec : ChangeSpec := { name := "ringEquals", fn := fun _ => fun
  | [d1, d2] => { results := [.lit (.bool true)], args := [d1, d2] }
  | _ => none }
def ringEqualsRow : OpenClaim := { program := "ytjnplfbggklkfaa", sum := "9792c08554c34c2498764b2692a58cf1de08c3df8fb34b4a8df6aa0ab838f60d", func := "tenet/tenetlaw24.RingEquals", spec := "ringEquals", unfollowed := true, recurses := true, loops := true, plainKeys := false, apart := false }
def RingEqualsSaid : Prop := ringEqualsRow.holds Try.pinned (OpenSpec.ofChange ringEqualsSpec)

/-- ITS FALSE NEIGHBOUR: 'it returns false'. Refute it at one input. -/
def ringEqualsWrong : ChangeSpec := { name := "ringEquals", fn := fun _ => fun
  | [d1, d2] => { results := [.lit (.bool false)], args := [d1, d2] }
  | _ => none }
def RingEqualsWrongFalsely : Prop := ringEqualsRow.holds Try.pinned (OpenSpec.ofChange ringEqualsWrong)

/-- 'tenetlaw24.RingKeeps': WHATEVER THE INPUT: true; the input reads as it did. -/
def ringKeepsSpec : ChangeSpec := { name := "ringKeeps", fn := fun _ => fun
  | [d1, d2, d3] => { results := [.lit (.bool true)], args := [d1, d2, d3] }
  | _ => none }
def ringKeepsRow : OpenClaim := { program := "ytjnplfbggklkfaa", sum := "9792c08554c34c2498764b2692a58cf1de08c3df8fb34b4a8df6aa0ab838f60d", func := "tenet/tenetlaw24.RingKeeps", spec := "ringKeeps", unfollowed := true, recurses := true, loops := true, plainKeys := false, apart := false }
def RingKeepsSaid : Prop := ringKeepsRow.holds Try.pinned (OpenSpec.ofChange ringKeepsSpec)

/-- ITS FALSE NEIGHBOUR: 'it returns false'. Refute it at one input. -/
def ringKeepsWrong : ChangeSpec := { name := "ringKeeps", fn := fun _ => fun
  | [d1, d2, d3] => { results := [.lit (.bool false)], args := [d1, d2, d3] }
  | _ => none }
def RingKeepsWrongFalsely : Prop := ringKeepsRow.holds Try.pinned (OpenSpec.ofChange ringKeepsWrong)

/-- 'tenetlaw24.RingEvals': WHATEVER THE INPUT: true; the input reads as it did. -/
def ringEvalsSpec : ChangeSpec := { name := "ringEvals", fn := fun _ => fun
  | [d1, d2] => { results := [.lit (.bool true)], args := [d1, d2] }
  | _ => none }
def ringEvalsRow : OpenClaim := { program := "ytjnplfbggklkfaa", sum := "9792c08554c34c2498764b2692a58cf1de08c3df8fb34b4a8df6aa0ab838f60d", func := "tenet/tenetlaw24.RingEvals", spec := "ringEvals", unfollowed := true, recurses := true, loops := true, plainKeys := false, apart := false }
def RingEvalsSaid : Prop := ringEvalsRow.holds Try.pinned (OpenSpec.ofChange ringEvalsSpec)

/-- ITS FALSE NEIGHBOUR: 'it returns false'. Refute it at one input. -/
def ringEvalsWrong : ChangeSpec := { name := "ringEvals", fn := fun _ => fun
  | [d1, d2] => { results := [.lit (.bool false)], args := [d1, d2] }
  | _ => none }
def RingEvalsWrongFalsely : Prop := ringEvalsRow.holds Try.pinned (OpenSpec.ofChange ringEvalsWrong)

/- THE SECOND FORM. 'bulk': how many values and letters a reading holds, each counted each time it is reached (what is shared counts as often as it is met; a slice's spare places count too). A statement '..UptoSaid' is the law's where the arguments, and the package variables that the reading takes, are together of bulk at most 1048576: NARROWER than '..Said'. Prove '..Said' where nothing that the law and all that it calls make is longer than what came in: it says more and counts as full. Else prove '..UptoSaid'. A law counts once. -/
mutual
def uptoBulk {H : Type} : DataW H → Nat
  | .lit (.string bytes) => bytes.length + 1
  | .lit _ => 1
  | .nil => 1
  | .ptr d => uptoBulk d + 1
  | .slice elems spare => uptoBulkAll elems + uptoBulkAll spare + 1
  | .agg parts => uptoBulkAll parts + 1
  | .iface _ d => uptoBulk d + 1
  | .map entries => uptoBulkEntries entries + 1
  | .held _ => 1
def uptoBulkAll {H : Type} : List (DataW H) → Nat
  | [] => 0
  | d :: r => uptoBulk d + uptoBulkAll r
def uptoBulkEntries {H : Type} : List (Lit × DataW H) → Nat
  | [] => 0
  | x :: r => uptoBulkEntry x + uptoBulkEntries r
def uptoBulkEntry {H : Type} : Lit × DataW H → Nat
  | (.string bytes, d) => bytes.length + uptoBulk d + 1
  | (_, d) => uptoBulk d + 1
 end
def uptoSmall : (H : Type) → List (DataW H) → Bool := fun _ ds => decide (uptoBulkAll ds ≤ 1048576)
def OpenSpec.upto (s : _root_.Go.ChangeSpec) : _root_.Go.OpenSpec := { _root_.Go.OpenSpec.ofChange s with cond := some uptoSmall }

/-- 'tenetlaw24.RingEquals', WHERE WHAT IT READS IS OF BULK AT MOST 1048576: true; the input reads as it did. -/
def ringEqualsUptoRow : OpenClaim := { program := "ytjnplfbggklkfaa", sum := "9792c08554c34c2498764b2692a58cf1de08c3df8fb34b4a8df6aa0ab838f60d", func := "tenet/tenetlaw24.RingEquals", spec := "ringEquals", unfollowed := true, recurses := true, loops := true, plainKeys := false, apart := false, narrowed := true }
def RingEqualsUptoSaid : Prop := ringEqualsUptoRow.holds Try.pinned (OpenSpec.upto ringEqualsSpec)

/-- 'tenetlaw24.RingKeeps', WHERE WHAT IT READS IS OF BULK AT MOST 1048576: true; the input reads as it did. -/
def ringKeepsUptoRow : OpenClaim := { program := "ytjnplfbggklkfaa", sum := "9792c08554c34c2498764b2692a58cf1de08c3df8fb34b4a8df6aa0ab838f60d", func := "tenet/tenetlaw24.RingKeeps", spec := "ringKeeps", unfollowed := true, recurses := true, loops := true, plainKeys := false, apart := false, narrowed := true }
def RingKeepsUptoSaid : Prop := ringKeepsUptoRow.holds Try.pinned (OpenSpec.upto ringKeepsSpec)

/-- 'tenetlaw24.RingEvals', WHERE WHAT IT READS IS OF BULK AT MOST 1048576: true; the input reads as it did. -/
def ringEvalsUptoRow : OpenClaim := { program := "ytjnplfbggklkfaa", sum := "9792c08554c34c2498764b2692a58cf1de08c3df8fb34b4a8df6aa0ab838f60d", func := "tenet/tenetlaw24.RingEvals", spec := "ringEvals", unfollowed := true, recurses := true, loops := true, plainKeys := false, apart := false, narrowed := true }
def RingEvalsUptoSaid : Prop := ringEvalsUptoRow.holds Try.pinned (OpenSpec.upto ringEvalsSpec)

end Rows
end Go.Proofs.Ytjnplfbggklkfaa
