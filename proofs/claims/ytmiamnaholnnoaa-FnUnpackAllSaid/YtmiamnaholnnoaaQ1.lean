/- Formats, plain. Conditions: none. -/
import Derived.Test.YtmiamnaholnnoaaT0
namespace Go.Proofs.Ytmiamnaholnnoaa
open Go.RowKit

def okSize (s : Int) : Bool := s == 1 || s == 2 || s == 4
def isFormatL (F : FL) : Bool := decide (1 ≤ F.sizes.length) && decide (F.sizes.length ≤ 5) && F.sizes.all okSize
theorem okSize_iff {s : Int} : okSize s = true ↔ s = 1 ∨ s = 2 ∨ s = 4 := by
  simp [okSize, or_assoc]
theorem isFormat_iff {F : FL} : isFormatL F = true ↔ 1 ≤ F.sizes.length ∧ F.sizes.length ≤ 5 ∧ ∀ s ∈ F.sizes, s = 1 ∨ s = 2 ∨ s = 4 := by
  simp [isFormatL, List.all_eq_true, okSize_iff, and_assoc]
/-- The first multiple of b from n on. -/
def up (n b : Int) : Int := (n + b - 1) / b * b
theorem up_one (n : Int) : up n 1 = n := by simp [up]
theorem up_range (n : Int) {b : Int} (hb : b = 1 ∨ b = 2 ∨ b = 4) : n ≤ up n b ∧ up n b ≤ n + 3 := by
  unfold up
  rcases hb with rfl | rfl | rfl
  all_goals omega
/-- One field more: the places so far, and the end. -/
def placeStep (al : Bool) (p : List Int × Int) (s : Int) : List Int × Int :=
  let a := if al then up p.2 s else p.2
  (p.1 ++ [a], a + s)
def placesF (al : Bool) (xs : List Int) : List Int × Int := xs.foldl (placeStep al) ([], 0)
theorem placesF_snoc (al : Bool) (xs : List Int) (k : Nat) (h : k < xs.length) :
    placesF al (xs.take (k + 1)) = placeStep al (placesF al (xs.take k)) xs[k] := by
  rw [List.take_succ_eq_append_getElem h]
  simp only [placesF, List.foldl_append, List.foldl_cons, List.foldl_nil]
/-- The largest size, and 1 at least. -/
def mostF (xs : List Int) : Int := xs.foldl max 1
theorem mostF_snoc (xs : List Int) (k : Nat) (h : k < xs.length) : mostF (xs.take (k + 1)) = max (mostF (xs.take k)) xs[k] := by
  rw [List.take_succ_eq_append_getElem h]
  simp only [mostF, List.foldl_append, List.foldl_cons, List.foldl_nil]
def sizeF (F : FL) : Int := if F.aligned then up (placesF F.aligned F.sizes).2 (mostF F.sizes) else (placesF F.aligned F.sizes).2
theorem placesF_bd {al : Bool} {xs : List Int} (h : ∀ s ∈ xs, s = 1 ∨ s = 2 ∨ s = 4) (k : Nat) (hk : k ≤ xs.length) :
    (placesF al (xs.take k)).1.length = k ∧ 0 ≤ (placesF al (xs.take k)).2 ∧ (placesF al (xs.take k)).2 ≤ 7 * k := by
  induction k with
  | zero => simp [placesF]
  | succ k ih =>
    obtain ⟨a, b, c⟩ := ih (by omega)
    rw [placesF_snoc al xs k (by omega)]
    have hs := h xs[k] (List.getElem_mem (by omega))
    have hu := up_range (placesF al (xs.take k)).2 hs
    generalize xs[k] = s at hs hu
    simp only [placeStep, List.length_append, List.length_cons, List.length_nil]
    cases al
    · simp only [Bool.false_eq_true, if_false]
      refine ⟨by omega, ?_, ?_⟩ <;> rcases hs with rfl | rfl | rfl <;> push_cast <;> omega
    · simp only [if_true]
      refine ⟨by omega, ?_, ?_⟩ <;> rcases hs with rfl | rfl | rfl <;> push_cast <;> omega
theorem mostF_bd {xs : List Int} (h : ∀ s ∈ xs, s = 1 ∨ s = 2 ∨ s = 4) (k : Nat) (hk : k ≤ xs.length) :
    mostF (xs.take k) = 1 ∨ mostF (xs.take k) = 2 ∨ mostF (xs.take k) = 4 := by
  induction k with
  | zero => simp [mostF]
  | succ k ih =>
    rw [mostF_snoc xs k (by omega)]
    have hs := h xs[k] (List.getElem_mem (by omega))
    have := ih (by omega)
    omega
end Go.Proofs.Ytmiamnaholnnoaa
