/- Padding, plain: what the law on padding asks. No conditions. -/
import Derived.Test.YtmiamnaholnnoaaQA
namespace Go.Proofs.Ytmiamnaholnnoaa
open Go.RowKit

theorem padL_field {F : FL} (h : isFormatL F = true) (i : Nat) (hi : i < F.sizes.length) (k : Int) (hk0 : 0 ≤ k) (hk : k < F.sizes[i]) : decide ((psF F).getD i 0 + k ∈ padL F) = false := by
  have e : F.sizes.getD i 0 = F.sizes[i] := by rw [List.getD_eq_getElem?_getD, List.getElem?_eq_getElem hi]; rfl
  have hI : inFieldB (psF F) F.sizes ((psF F).getD i 0 + k) F.sizes.length = true := by
    rw [inFieldB, List.any_eq_true]
    refine ⟨i, List.mem_range.2 hi, ?_⟩
    rw [e]
    exact inR_yes (by omega) (by omega)
  simp only [decide_eq_false_iff_not, padL, h, if_true, padTo, List.mem_filter, not_and]
  intro _
  rw [hI]
  simp
theorem padL_up (F : FL) : (padL F).Pairwise (· < ·) := by
  unfold padL
  split
  · refine List.Pairwise.filter _ ?_
    rw [List.pairwise_map]
    exact List.pairwise_lt_range.imp fun h => Int.ofNat_lt.2 h
  · exact List.Pairwise.nil
theorem dense_in {xs : List Int} (h : ∀ s ∈ xs, s = 1 ∨ s = 2 ∨ s = 4) (k : Nat) (hk : k ≤ xs.length) (x : Int) (h0 : 0 ≤ x) (hx : x < (placesF false (xs.take k)).2) : inFieldB (placesF false xs).1 xs x k = true := by
  induction k with
  | zero => simp [placesF] at hx; omega
  | succ k ih =>
    rw [inFieldB_succ]
    have ha := placesF_at false xs k (by omega) h
    have hp : (placesF false xs).1.getD k 0 = (placesF false (xs.take k)).2 := by
      have hs := placesF_snoc false xs k (by omega)
      have h2 : (placesF false (xs.take (k + 1))).2 = (placesF false (xs.take k)).2 + xs[k] := by rw [hs]; rfl
      omega
    have e : xs.getD k 0 = xs[k] := by rw [List.getD_eq_getElem?_getD, List.getElem?_eq_getElem (by omega)]; rfl
    by_cases hl : x < (placesF false (xs.take k)).2
    · rw [ih (by omega) hl]; rfl
    · rw [e, inR_yes (by omega) (by omega), Bool.or_true]
theorem padL_dense (F : FL) (ha : F.aligned = false) : padL F = [] := by
  unfold padL
  split
  · rename_i h
    have hs := (isFormat_iff.1 h).2.2
    rw [padTo, List.filter_eq_nil_iff]
    intro x hx
    obtain ⟨n, hn, rfl⟩ := List.mem_map.1 hx
    rw [List.mem_range] at hn
    have hz : sizeF F = (placesF false F.sizes).2 := by simp [sizeF, ha]
    have := dense_in hs F.sizes.length (Nat.le_refl _) (Int.ofNat n) (by simp) (by rw [List.take_length, ← hz]; simp only [Int.ofNat_eq_natCast]; omega)
    rw [show psF F = (placesF false F.sizes).1 by simp [psF, ha], this]
    simp
  · rfl

end Go.Proofs.Ytmiamnaholnnoaa
