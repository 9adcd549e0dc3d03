/- slices.Clip, and the ways: lists of the numbers of calls. -/
import Derived.Test.YtdinmdjdkhlgcaaAdd
namespace Go.Proofs.Ytdinmdjdkhlgcaa
open Go.RowKit
set_option linter.unusedVariables false
set_option linter.unusedSimpArgs false

set_option maxHeartbeats 1000000 in
theorem clip_calls (b n c : Nat) (w : World) (h0 : 0 < n) (hc : n ≤ c) (hm : c ≤ maxLen) : Calls Try.prog 52 #[.slice (some ⟨b, 0, none⟩) n c] w fun e w' => e = .returned (.slice (some ⟨b, 0, none⟩) n n) ∧ w = w' := by
  have hu := Try.underlying36
  unfold maxLen at hm
  have h1 : (0 : Int) ≤ (n : Int) := by omega
  have h2 : (n : Int) ≤ (c : Int) := by omega
  have h3 : (0 : Int) < (n : Int) := by omega
  go_enter Try.func52, Try.ntmps52
  go_wp2
  go_ret
  exact ⟨rfl, rfl⟩
end Go.Proofs.Ytdinmdjdkhlgcaa
