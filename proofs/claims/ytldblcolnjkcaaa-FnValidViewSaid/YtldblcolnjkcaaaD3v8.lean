/- Contracts: DropOnes, both. No conditions. -/
import Derived.Test.YtldblcolnjkcaaaD3m
import Derived.Test.YtldblcolnjkcaaaV7
import Derived.Test.YtldblcolnjkcaaaD2v8
import Derived.Deep.RegionLaw
import Derived.Deep.LoopGhost
import Derived.Deep.CutRange
import Derived.Outline
namespace Go.Proofs.Ytldblcolnjkcaaa
open Go.RowKit


end Go.Proofs.Ytldblcolnjkcaaa
