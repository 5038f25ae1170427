/- Contracts: the end of a slice. No conditions. -/
import Derived.Test.YtbcmhjhiofpnlaaY2
import Derived.WalkLawsBesides
namespace Go.Proofs.Ytbcmhjhiofpnlaa
open Go.RowKit

set_option maxRecDepth 100000 in
set_option maxHeartbeats 800000 in
theorem endOf_any (n x b : Int) (w : World) (hn : -1000 ≤ n ∧ n ≤ 1000) (hx : -1000 ≤ x ∧ x ≤ 1000) :
    Calls Try.prog 141 #[.int .i64 n, .int .i64 x, .int .i64 b] w fun e w' => e = .returned (.int .i64 (endL n x b)) ∧ w = w' := by
  by_cases h1 : x < 0 <;> by_cases h2 : b < 0
  all_goals
    go_enter Try.func141, Try.ntmps141
    go_wp2
    all_goals
      go_ret
      exact ⟨ret_int (by unfold endL; (repeat' split) <;> omega), rfl⟩

set_option maxRecDepth 100000 in
set_option maxHeartbeats 800000 in
theorem bound_any (n x b : Int) (w : World) (hn : -1000 ≤ n ∧ n ≤ 1000) (hx : -1000 ≤ x ∧ x ≤ 1000) :
    Calls Try.prog 142 #[.int .i64 n, .int .i64 x, .int .i64 b] w fun e w' => e = .returned (.int .i64 (endL n x b)) ∧ w = w' := by
  by_cases h1 : x < 0 <;> by_cases h2 : b < 0
  all_goals
    go_enter Try.func142, Try.ntmps142
    go_wp2
    all_goals
      go_ret
      exact ⟨ret_int (by unfold endL; (repeat' split) <;> omega), rfl⟩

end Go.Proofs.Ytbcmhjhiofpnlaa
