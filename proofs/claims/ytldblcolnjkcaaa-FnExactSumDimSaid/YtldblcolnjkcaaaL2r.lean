/- Contracts of the laws' own helpers over views: copies, marks. No conditions. -/
import Derived.Test.YtldblcolnjkcaaaL1
namespace Go.Proofs.Ytldblcolnjkcaaa
open Go.RowKit
/-- What marking a view leaves. -/
def RetMarkV (w : World) (B1 B2 lo hi : Nat) (sv tv : Value) (n m k : Nat) (e : Ending) (w' : World) : Prop :=
  e = .returned (.int .i64 ((k + n + m : Nat) : Int)) ∧ Own w' B1 sv (marks k n) ∧ Own w' B2 tv (marks (k + n) m) ∧ Chg lo hi w w'

end Go.Proofs.Ytldblcolnjkcaaa
