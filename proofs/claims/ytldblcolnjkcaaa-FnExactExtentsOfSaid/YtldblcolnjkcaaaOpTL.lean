/- Arguments that are lists of tensors and lists of lists of ints, read. No conditions. -/
import Derived.Test.YtldblcolnjkcaaaOpT
import Derived.Test.YtldblcolnjkcaaaOpLL
namespace Go.Proofs.Ytldblcolnjkcaaa
end Go.Proofs.Ytldblcolnjkcaaa
