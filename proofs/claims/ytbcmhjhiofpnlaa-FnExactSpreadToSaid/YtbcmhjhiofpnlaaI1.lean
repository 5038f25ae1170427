/- Contract: PickDim. No conditions. -/
import Derived.Test.YtbcmhjhiofpnlaaV9
import Derived.Test.YtbcmhjhiofpnlaaV1
import Derived.Test.YtbcmhjhiofpnlaaD2
import Derived.Test.YtbcmhjhiofpnlaaG3
import Derived.StillTailTactics
namespace Go.Proofs.Ytbcmhjhiofpnlaa
open Go.RowKit

def pickN0 (e i : Int) : Int := if i < 0 then i + e else i
def okPick (V : VL) (d i : Int) : Bool := hasDimL V d && inR i (-(V.shape.getD d.toNat 0)) (V.shape.getD d.toNat 0 - 1)
def pickL (V : VL) (d i : Int) : VL := if okPick V d i then tidyL (pickV V d.toNat (pickN0 (V.shape.getD d.toNat 0) i)) else VL.zero
theorem pick_no {V : VL} {d i : Int} (h : okPick V d i = false) : pickL V d i = VL.zero := by simp [pickL, h]
theorem pick_yes {V : VL} {d i : Int} (h : okPick V d i = true) : pickL V d i = tidyL (pickV V d.toNat (pickN0 (V.shape.getD d.toNat 0) i)) := by simp [pickL, h]
theorem shape_le' {V : VL} (h : isViewL V = true) {k : Nat} (hk : k < V.shape.length) : 0 ≤ V.shape[k] ∧ V.shape[k] ≤ 60 := (shape_ext (isViewL_and h).1).2.1 _ (List.getElem_mem hk)
theorem stride_le {V : VL} (h : isViewL V = true) {k : Nat} (hk : k < V.strides.length) : -60 ≤ V.strides[k] ∧ V.strides[k] ≤ 60 := by
  have := (isViewL_and h).2.2.2.1
  rw [List.all_eq_true] at this
  exact inR_iff.1 (this _ (List.getElem_mem hk))
theorem base_le {V : VL} (h : isViewL V = true) : 0 ≤ V.base ∧ V.base ≤ 60 := inR_iff.1 (isViewL_and h).2.2.1
theorem pickL_len (V : VL) (d i : Int) : (pickL V d i).shape.length ≤ 60 ∧ (pickL V d i).strides.length ≤ 60 := by
  cases h : okPick V d i
  · rw [pick_no h]; simp [VL.zero]
  · rw [pick_yes h]
    have hv : isViewL V = true := by simp only [okPick, hasDimL, Bool.and_eq_true] at h; exact h.1.1.1
    have hl := isViewL_lens hv
    unfold tidyL
    split
    · simp only [pickV, zerosL_length, List.length_eraseIdx]; split <;> omega
    · simp only [pickV, List.length_eraseIdx]; constructor <;> split <;> omega

end Go.Proofs.Ytbcmhjhiofpnlaa
