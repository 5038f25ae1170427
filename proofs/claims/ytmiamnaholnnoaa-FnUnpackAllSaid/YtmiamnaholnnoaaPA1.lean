/- PackAll, plain. No conditions. -/
import Derived.Test.YtmiamnaholnnoaaQB
import Derived.Test.YtmiamnaholnnoaaLL
namespace Go.Proofs.Ytmiamnaholnnoaa
open Go.RowKit

def outTo (F : FL) (xss : List (List Int)) (k : Nat) : List Int := (xss.take k).flatMap (packL F)
theorem outTo_succ (F : FL) (xss : List (List Int)) (k : Nat) (hk : k < xss.length) : outTo F xss (k + 1) = outTo F xss k ++ packL F xss[k] := by
  unfold outTo
  rw [List.take_succ_eq_append_getElem hk, List.flatMap_append]
  simp
def okPk (F : FL) (xss : List (List Int)) (k : Nat) : Bool := (List.range k).all fun i => okItem F (xss.getD i []) && decide ((outTo F xss (i + 1)).length ≤ 60)
theorem okPk_succ (F : FL) (xss : List (List Int)) (k : Nat) (hk : k < xss.length) : okPk F xss (k + 1) = (okPk F xss k && (okItem F xss[k] && decide ((outTo F xss (k + 1)).length ≤ 60))) := by
  simp [okPk, List.range_succ, hk]
theorem okPk_bad {F : FL} {xss : List (List Int)} {k : Nat} (hk : k < xss.length) (h : (okItem F xss[k] && decide ((outTo F xss (k + 1)).length ≤ 60)) = false) : okPk F xss xss.length = false := by
  unfold okPk
  rw [List.all_eq_false]
  refine ⟨k, List.mem_range.2 hk, ?_⟩
  have e : xss.getD k [] = xss[k] := by simp [hk]
  rw [e, h]; simp
theorem okPk_len {F : FL} {xss : List (List Int)} {k : Nat} (h : okPk F xss k = true) : (outTo F xss k).length ≤ 60 := by
  cases k with
  | zero => simp [outTo]
  | succ k =>
    unfold okPk at h
    rw [List.all_eq_true] at h
    have := h k (List.mem_range.2 (Nat.lt_succ_self k))
    simp only [Bool.and_eq_true, decide_eq_true_eq] at this
    exact this.2
def packAllL (F : FL) (xss : List (List Int)) : List Int := if isFormatL F && okPk F xss xss.length then outTo F xss xss.length else []
theorem packAllL_len (F : FL) (xss : List (List Int)) : (packAllL F xss).length ≤ 60 := by
  unfold packAllL
  split
  · rename_i h
    simp only [Bool.and_eq_true] at h
    exact okPk_len h.2
  · simp
theorem packL_length {F : FL} (h : isFormatL F = true) (vs : List Int) : (packL F vs).length ≤ 38 := by
  have := size_bd h
  unfold packL
  rw [packTo_length h vs _ (Nat.le_refl _)]
  omega
end Go.Proofs.Ytmiamnaholnnoaa
