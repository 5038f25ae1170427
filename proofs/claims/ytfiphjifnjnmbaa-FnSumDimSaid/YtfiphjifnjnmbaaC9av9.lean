/- Contracts: strides by rows and columns. No conditions. -/
import Derived.Test.YtfiphjifnjnmbaaC3
import Derived.Outline
namespace Go.Proofs.Ytfiphjifnjnmbaa
open Go.RowKit
end Go.Proofs.Ytfiphjifnjnmbaa
