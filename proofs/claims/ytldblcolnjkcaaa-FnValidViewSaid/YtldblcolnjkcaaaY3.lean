/- Contracts: the end of a slice. No conditions. -/
import Derived.Test.YtldblcolnjkcaaaY2
import Derived.WalkLawsBesides
namespace Go.Proofs.Ytldblcolnjkcaaa
open Go.RowKit

set_option maxRecDepth 100000 in
set_option maxHeartbeats 800000 in
theorem endOf_any (n x b : Int) (w : World) (hn : -1000 ≤ n ∧ n ≤ 1000) (hx : -1000 ≤ x ∧ x ≤ 1000) :
    Calls Try.prog 152 #[.int .i64 n, .int .i64 x, .int .i64 b] w fun e w' => e = .returned (.int .i64 (endL n x b)) ∧ w = w' := by
  by_cases h1 : x < 0 <;> by_cases h2 : b < 0
  all_goals
    go_enter Try.func152, Try.ntmps152
    go_wp2
    all_goals
      go_ret
      exact ⟨ret_int (by unfold endL; (repeat' split) <;> omega), rfl⟩

set_option maxRecDepth 100000 in
set_option maxHeartbeats 800000 in
theorem bound_any (n x b : Int) (w : World) (hn : -1000 ≤ n ∧ n ≤ 1000) (hx : -1000 ≤ x ∧ x ≤ 1000) :
    Calls Try.prog 153 #[.int .i64 n, .int .i64 x, .int .i64 b] w fun e w' => e = .returned (.int .i64 (endL n x b)) ∧ w = w' := by
  by_cases h1 : x < 0 <;> by_cases h2 : b < 0
  all_goals
    go_enter Try.func153, Try.ntmps153
    go_wp2
    all_goals
      go_ret
      exact ⟨ret_int (by unfold endL; (repeat' split) <;> omega), rfl⟩

end Go.Proofs.Ytldblcolnjkcaaa
