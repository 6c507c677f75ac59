/- kithlaw12.short. -/
import Derived.Test.YtlfhjlkhhaoicaaL12
namespace Go.Proofs.Ytlfhjlkhhaoicaa
set_option linter.unusedVariables false
set_option linter.unusedSimpArgs false
open Go.RowKit
set_option maxRecDepth 100000 in
set_option maxHeartbeats 400000 in
theorem short12_any (A : Option Addr) (n ca : Nat) (w : World) (hc : n ≤ ca) (hm : ca ≤ maxLen) :
    Calls Try.prog 24 #[.slice A n ca] w fun e w' => e = .returned (.slice A (min n 40) ca) ∧ w = w' := by
  unfold maxLen at hm
  by_cases h : n ≤ 40
  · go_enter Try.func24, Try.ntmps24
    go_wp2
    go_ret
    exact ⟨ret_slice (Nat.min_eq_left h).symm, rfl⟩
  · go_enter Try.func24, Try.ntmps24
    go_wp2
    go_ret
    exact ⟨ret_slice (Nat.min_eq_right (by omega)).symm, rfl⟩
end Go.Proofs.Ytlfhjlkhhaoicaa
