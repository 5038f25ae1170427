/- Contracts: copies of views, cleared views. No conditions. -/
import Derived.Test.YtfiphjifnjnmbaaC1
import Derived.Test.YtfiphjifnjnmbaaV3
import Derived.Outline
import Derived.Deep.RegionHeld3
namespace Go.Proofs.Ytfiphjifnjnmbaa
open Go.RowKit

/-- A view without indices has the base 0 and no strides. -/
def tidyL (V : VL) : VL := if prodW V.shape = 0 then ⟨0, V.shape, zerosL V.shape.length⟩ else V
/-- What a function leaves that hands on a view of the call's own. -/
def RetViewO (w : World) (B : Nat) (V : VL) (e : Ending) (w' : World) : Prop := ∃ sv tv, e = .returned (.agg #[.int .i64 V.base, sv, tv]) ∧
  Own w' B sv V.shape ∧ Own w' B tv V.strides ∧ Sep sv tv ∧ Below w.heap.size w w'

end Go.Proofs.Ytfiphjifnjnmbaa
