/- Contracts: copies of views. No conditions. (printed by mkv2.py) -/
import Derived.Test.YtldblcolnjkcaaaT0
import Derived.Outline
import Derived.Deep.RegionHeld3
namespace Go.Proofs.Ytldblcolnjkcaaa
open Go.RowKit

end Go.Proofs.Ytldblcolnjkcaaa
