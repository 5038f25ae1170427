/- A number put into a list. No conditions. -/
import Derived.Test.YtldblcolnjkcaaaBase
namespace Go.Proofs.Ytldblcolnjkcaaa
open Go.RowKit

def insAt (xs : List Int) (i : Nat) (x : Int) : List Int := xs.take i ++ x :: xs.drop i
theorem insAt_length (xs : List Int) (i : Nat) (x : Int) (h : i ≤ xs.length) : (insAt xs i x).length = xs.length + 1 := by simp [insAt]; omega
theorem insAt_end (xs : List Int) (x : Int) : insAt xs xs.length x = xs ++ [x] := by simp [insAt]

end Go.Proofs.Ytldblcolnjkcaaa
