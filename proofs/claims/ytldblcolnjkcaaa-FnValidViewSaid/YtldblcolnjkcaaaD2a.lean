/- Contracts: views that are made if they are valid; dimensions. No conditions. -/
import Derived.Test.YtldblcolnjkcaaaD1
import Derived.Test.YtldblcolnjkcaaaC4
import Derived.Test.YtldblcolnjkcaaaS2
import Derived.Outline
import Derived.Deep.RegionHeld3
namespace Go.Proofs.Ytldblcolnjkcaaa
open Go.RowKit
theorem isViewL_lens {V : VL} (h : isViewL V = true) : V.shape.length ≤ 4 ∧ V.strides.length ≤ 4 := by
  have h1 := isViewL_and h
  have h2 := (shape_ext h1.1).1
  have h3 := h1.2.1
  omega

end Go.Proofs.Ytldblcolnjkcaaa
