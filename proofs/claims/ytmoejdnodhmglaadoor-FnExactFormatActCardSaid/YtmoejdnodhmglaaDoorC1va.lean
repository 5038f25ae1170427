/- Contracts of small functions. No conditions. -/
import Derived.Test.YtmoejdnodhmglaaDoorBase
import Derived.Outline
namespace Go.Proofs.YtmoejdnodhmglaaDoor
open Go.RowKit

end Go.Proofs.YtmoejdnodhmglaaDoor
