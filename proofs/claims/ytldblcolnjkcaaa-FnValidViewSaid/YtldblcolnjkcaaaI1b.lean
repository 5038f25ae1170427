/- Bounds of a valid view's parts. No conditions. -/
import Derived.Test.YtldblcolnjkcaaaC4
namespace Go.Proofs.Ytldblcolnjkcaaa
open Go.RowKit

theorem shape_le' {V : VL} (h : isViewL V = true) {k : Nat} (hk : k < V.shape.length) : 0 ≤ V.shape[k] ∧ V.shape[k] ≤ 60 := (shape_ext (isViewL_and h).1).2.1 _ (List.getElem_mem hk)
theorem stride_le {V : VL} (h : isViewL V = true) {k : Nat} (hk : k < V.strides.length) : -60 ≤ V.strides[k] ∧ V.strides[k] ≤ 60 := by
  have := (isViewL_and h).2.2.2.1
  rw [List.all_eq_true] at this
  exact inR_iff.1 (this _ (List.getElem_mem hk))
theorem base_le {V : VL} (h : isViewL V = true) : 0 ≤ V.base ∧ V.base ≤ 60 := inR_iff.1 (isViewL_and h).2.2.1

end Go.Proofs.Ytldblcolnjkcaaa
