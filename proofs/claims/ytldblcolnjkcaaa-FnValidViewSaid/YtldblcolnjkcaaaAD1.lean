/- AddDim, plain. No conditions. -/
import Derived.Test.YtldblcolnjkcaaaG1
import Derived.Test.YtldblcolnjkcaaaInA
namespace Go.Proofs.Ytldblcolnjkcaaa
open Go.RowKit

theorem insAt_zero (xs : List Int) (x : Int) : insAt xs 0 x = x :: xs := by simp [insAt]
theorem insAt_succ (a : Int) (xs : List Int) (p : Nat) (x : Int) : insAt (a :: xs) (p + 1) x = a :: insAt xs p x := by simp [insAt]
theorem prodI_ins (xs : List Int) (p : Nat) : prodI (insAt xs p 1) = prodI xs := by
  induction xs generalizing p with
  | nil => simp [insAt, prodI]
  | cons a t ih =>
    cases p with
    | zero => rw [insAt_zero]; simp [prodI]
    | succ p => rw [insAt_succ]; simp [prodI, ih]
theorem loS_ins (xs ys : List Int) (p : Nat) (h : xs.length = ys.length) : loS (insAt xs p 1) (insAt ys p 0) = loS xs ys := by
  induction xs generalizing ys p with
  | nil =>
    obtain rfl : ys = [] := List.length_eq_zero_iff.1 h.symm
    simp [insAt, loS]
  | cons a t ih =>
    cases ys with
    | nil => simp at h
    | cons b s =>
      cases p with
      | zero => rw [insAt_zero, insAt_zero]; simp [loS]
      | succ p => rw [insAt_succ, insAt_succ]; simp only [loS]; rw [ih s p (by simpa using h)]
theorem hiS_ins (xs ys : List Int) (p : Nat) (h : xs.length = ys.length) : hiS (insAt xs p 1) (insAt ys p 0) = hiS xs ys := by
  induction xs generalizing ys p with
  | nil =>
    obtain rfl : ys = [] := List.length_eq_zero_iff.1 h.symm
    simp [insAt, hiS]
  | cons a t ih =>
    cases ys with
    | nil => simp at h
    | cons b s =>
      cases p with
      | zero => rw [insAt_zero, insAt_zero]; simp [hiS]
      | succ p => rw [insAt_succ, insAt_succ]; simp only [hiS]; rw [ih s p (by simpa using h)]
theorem mem_insAt {xs : List Int} {p : Nat} {x y : Int} (h : y ∈ insAt xs p x) : y = x ∨ y ∈ xs := by
  simp only [insAt, List.mem_append, List.mem_cons] at h
  rcases h with h | h | h
  · exact .inr (List.mem_of_mem_take h)
  · exact .inl h
  · exact .inr (List.mem_of_mem_drop h)
def insV (V : VL) (p : Nat) : VL := ⟨V.base, insAt V.shape p 1, insAt V.strides p 0⟩
theorem insV_valid {V : VL} (h : isViewL V = true) {p : Nat} (hp : p ≤ V.shape.length) (h4 : V.shape.length ≤ 3) : isViewL (insV V p) = true := by
  rw [valid_iff] at h ⊢
  obtain ⟨h1, h2, h3, h5, h6⟩ := h
  obtain ⟨s1, s2, s3⟩ := shape_ext h1
  have a := shape_prod h1
  have q1 : (insV V p).shape.length ≤ 4 := by simp only [insV]; rw [insAt_length _ _ _ hp]; omega
  have q2 : ∀ x ∈ (insV V p).shape, 0 ≤ x ∧ x ≤ 60 := fun x hx => by
    rcases mem_insAt hx with rfl | hx
    · omega
    · exact s2 x hx
  have q3 : prodI (insV V p).shape = prodI V.shape := prodI_ins _ _
  refine ⟨?_, ?_, h3, fun x hx => ?_, ?_⟩
  · have b := prodW_eq q1 q2
    simp only [isShapeL, Bool.and_eq_true, decide_eq_true_eq, List.all_eq_true, okExt, inR_iff]
    exact ⟨⟨q1, q2⟩, by rw [b.1, q3]; exact a.2.2⟩
  · simp only [insV]; rw [insAt_length _ _ _ hp, insAt_length _ _ _ (by omega), h2]
  · rcases mem_insAt hx with rfl | hx
    · omega
    · exact h5 x hx
  · rw [q3]
    simp only [insV]
    rw [loS_ins _ _ _ h2.symm, hiS_ins _ _ _ h2.symm]
    exact h6
def okAdd (V : VL) (p : Int) : Bool := isViewL V && inR p 0 V.shape.length && decide (V.shape.length ≠ 4)
def addL (V : VL) (p : Int) : VL := if okAdd V p then insV V p.toNat else VL.zero
theorem add_no {V : VL} {p : Int} (h : okAdd V p = false) : addL V p = VL.zero ∧ okAdd V p = false := ⟨by simp [addL, h], h⟩
theorem lens4 {V : VL} (h : isViewL V = true) : V.shape.length ≤ 4 ∧ V.strides.length = V.shape.length := by
  have h1 := isViewL_and h
  exact ⟨(shape_ext h1.1).1, h1.2.1.symm⟩
theorem add_yes {V : VL} {p : Nat} (h : okAdd V p = true) : addL V p = insV V p ∧ isViewL (insV V p) = true := by
  simp only [okAdd, Bool.and_eq_true, decide_eq_true_eq, inR_iff] at h
  have h4 := (lens4 h.1.1).1
  refine ⟨?_, insV_valid h.1.1 (by omega) (by omega)⟩
  simp [addL, okAdd, h.1.1, inR_yes h.1.2.1 h.1.2.2, h.2]
theorem addL_len (V : VL) (p : Int) : (addL V p).shape.length ≤ 60 ∧ (addL V p).strides.length ≤ 60 := by
  unfold addL
  split
  · rename_i h
    simp only [okAdd, Bool.and_eq_true, decide_eq_true_eq, inR_iff] at h
    have h4 := lens4 h.1.1
    simp only [insV]
    rw [insAt_length _ _ _ (by omega), insAt_length _ _ _ (by omega)]
    omega
  · simp [VL.zero]
end Go.Proofs.Ytldblcolnjkcaaa
