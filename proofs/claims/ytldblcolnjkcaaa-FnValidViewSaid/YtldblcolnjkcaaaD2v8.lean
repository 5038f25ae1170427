/- Contracts: views that are made if they are valid; dimensions. No conditions. -/
import Derived.Test.YtldblcolnjkcaaaD2a
import Derived.Test.YtldblcolnjkcaaaDM
import Derived.Test.YtldblcolnjkcaaaD1
import Derived.Test.YtldblcolnjkcaaaC4
import Derived.Test.YtldblcolnjkcaaaS2
import Derived.Outline
import Derived.Deep.RegionHeld3
namespace Go.Proofs.Ytldblcolnjkcaaa
open Go.RowKit
set_option maxRecDepth 100000 in
set_option maxHeartbeats 800000 in
theorem isDim_any (v : Value) (V : VL) (d : Int) (w : World) (hv : ViewV w v V) :
    Calls Try.prog 181 #[v, .int .i64 d] w fun e w' => e = .returned (.bool (inR d 0 ((V.shape.length : Int) - 1))) ∧ Below w.heap.size w w' := by
  obtain ⟨sv, tv, rfl, hsv, htv⟩ := hv
  obtain ⟨As, cs, es, hk, hcs, -⟩ := id hsv
  subst es
  unfold maxLen at hcs
  go_enter Try.func181, Try.ntmps181
  go_wp2_with fail
  refine (inRange_any _ _ _ _).mono ?_; rintro e w' ⟨rfl, rfl⟩
  go_wp2
  go_ret
  exact ⟨rfl, below_alloc _ _⟩

end Go.Proofs.Ytldblcolnjkcaaa
