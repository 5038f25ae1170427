/- The view of a field, plain. No conditions. -/
import Derived.Test.YtmiamnaholnnoaaQA
import Derived.Test.YtmiamnaholnnoaaC4
import Derived.Test.YtmiamnaholnnoaaC3
namespace Go.Proofs.Ytmiamnaholnnoaa
open Go.RowKit

def rawFV (F : FL) (k : Int) (m : Int) : VL :=
  ⟨if F.big then (psF F).getD k.toNat 0 + F.sizes.getD k.toNat 0 - 1 else (psF F).getD k.toNat 0, [m, F.sizes.getD k.toNat 0], [sizeF F, if F.big then -1 else 1]⟩
def okFV (F : FL) (k : Int) (m : Int) : Bool := isFormatL F && inR k 0 (F.sizes.length - 1) && inR m 1 60 && isViewL (rawFV F k m)
def fvL (F : FL) (k : Int) (m : Int) : VL := if okFV F k m then rawFV F k m else VL.zero
theorem fvL_len (F : FL) (k m : Int) : (fvL F k m).shape.length ≤ 60 ∧ (fvL F k m).strides.length ≤ 60 := by
  unfold fvL
  split
  · simp [rawFV]
  · simp [VL.zero]
theorem fv_no {F : FL} {k m : Int} (h : okFV F k m = false) : fvL F k m = VL.zero ∧ okFV F k m = false := ⟨by simp [fvL, h], h⟩
theorem okFV_many {F : FL} {k m : Int} (h : isViewL (rawFV F k m) = true) : m ≤ 60 := by
  have hx : isShapeL (rawFV F k m).shape = true := by
    unfold isViewL at h
    simp only [Bool.and_eq_true] at h
    exact h.1.1.1.1
  have h2 := (shape_ext hx).2.1 m (by simp [rawFV])
  omega
theorem okFV_impl {F : FL} {k m : Int} (h1 : isFormatL F = true) (h2 : inR k 0 (F.sizes.length - 1) = true) (h3 : 1 ≤ m) : okFV F k m = isViewL (rawFV F k m) := by
  cases h : isViewL (rawFV F k m)
  · simp [okFV, h]
  · have := okFV_many h
    simp [okFV, h1, h2, h, inR_yes h3 this]
theorem fvL_made {F : FL} {k m : Int} (h1 : isFormatL F = true) (h2 : inR k 0 (F.sizes.length - 1) = true) (h3 : inR m 1 60 = true) : fvL F k m = madeL (rawFV F k m) ∧ okFV F k m = isViewL (rawFV F k m) := by
  have e : okFV F k m = isViewL (rawFV F k m) := by simp [okFV, h1, h2, h3]
  exact ⟨by simp [fvL, madeL, e], e⟩
end Go.Proofs.Ytmiamnaholnnoaa
