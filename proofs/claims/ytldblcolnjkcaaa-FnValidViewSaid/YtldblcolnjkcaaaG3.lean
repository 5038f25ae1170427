/- Views with one dimension less, or another one in its place: plain. No conditions. -/
import Derived.Test.YtldblcolnjkcaaaG1
import Derived.Test.YtldblcolnjkcaaaV1
namespace Go.Proofs.Ytldblcolnjkcaaa
open Go.RowKit

theorem loS_le : ∀ (xs ys : List Int), loS xs ys ≤ 0 ∧ 0 ≤ hiS xs ys
  | [], _ => by simp [loS, hiS]
  | _ :: _, [] => by simp [loS, hiS]
  | x :: xs, y :: ys => by
    have := loS_le xs ys
    simp only [loS, hiS]; omega
theorem loS_erase : ∀ (xs ys : List Int) (k : Nat) (h1 : k < xs.length) (h2 : k < ys.length),
    loS xs ys = loS (xs.eraseIdx k) (ys.eraseIdx k) + min 0 ((xs[k] - 1) * ys[k]) ∧ hiS xs ys = hiS (xs.eraseIdx k) (ys.eraseIdx k) + max 0 ((xs[k] - 1) * ys[k])
  | [], _, _, h, _ => by simp at h
  | _ :: _, [], _, _, h => by simp at h
  | x :: xs, y :: ys, 0, _, _ => by simp only [List.eraseIdx_cons_zero, List.getElem_cons_zero, loS, hiS]; omega
  | x :: xs, y :: ys, k + 1, h1, h2 => by
    have := loS_erase xs ys k (by simpa using h1) (by simpa using h2)
    simp only [List.eraseIdx_cons_succ, List.getElem_cons_succ, loS, hiS]; omega
theorem prodI_erase : ∀ (xs : List Int) (k : Nat) (h : k < xs.length), prodI xs = prodI (xs.eraseIdx k) * xs[k]
  | [], _, h => by simp at h
  | x :: xs, 0, _ => by simp only [List.eraseIdx_cons_zero, List.getElem_cons_zero, prodI]; exact Int.mul_comm _ _
  | x :: xs, k + 1, h => by
    simp only [List.eraseIdx_cons_succ, List.getElem_cons_succ, prodI]
    rw [prodI_erase xs k (by simpa using h), Int.mul_assoc]
/-- A shape by its facts. -/
theorem isShapeL_of {xs : List Int} (h1 : xs.length ≤ 4) (h2 : ∀ x ∈ xs, 0 ≤ x ∧ x ≤ 60) (h3 : prodI xs ≤ 60) : isShapeL xs = true := by
  have b := prodW_eq h1 h2
  simp only [isShapeL, Bool.and_eq_true, decide_eq_true_eq, List.all_eq_true, okExt, inR_iff]
  exact ⟨⟨h1, h2⟩, by rw [b.1]; exact h3⟩
/-- A view without cells is valid. -/
theorem tidy_valid {V : VL} (h1 : isShapeL V.shape = true) (h2 : V.strides.length = V.shape.length)
    (h3 : prodI V.shape ≠ 0 → (0 ≤ V.base ∧ V.base ≤ 60) ∧ (∀ x ∈ V.strides, -60 ≤ x ∧ x ≤ 60) ∧ 0 ≤ V.base + loS V.shape V.strides ∧ V.base + hiS V.shape V.strides ≤ 59) : isViewL (tidyL V) = true := by
  obtain ⟨e1, e2, e3⟩ := shape_prod h1
  unfold tidyL
  split
  · rename_i hz
    rw [valid_iff]
    refine ⟨h1, by simp [zerosL], by simp, ?_, .inl (by rw [← e1]; exact hz)⟩
    intro x hx
    simp only [zerosL, List.mem_replicate] at hx
    omega
  · rename_i hz
    rw [valid_iff]
    obtain ⟨a, b, c⟩ := h3 (by rw [← e1]; exact hz)
    exact ⟨h1, h2, a, b, .inr c⟩
def pickV (V : VL) (k : Nat) (i : Int) : VL := ⟨V.base + i * V.strides.getD k 0, V.shape.eraseIdx k, V.strides.eraseIdx k⟩
theorem pick_valid {V : VL} (h : isViewL V = true) {k : Nat} (hk : k < V.shape.length) {i : Int} (h0 : 0 ≤ i) (h1 : i < V.shape[k]) : isViewL (tidyL (pickV V k i)) = true := by
  rw [valid_iff] at h
  obtain ⟨a1, a2, a3, a4, a5⟩ := h
  have hkt : k < V.strides.length := by omega
  obtain ⟨s1, s2, s3⟩ := shape_ext a1
  have sp := shape_prod a1
  have hp := prodI_erase V.shape k hk
  have q1 : (V.shape.eraseIdx k).length ≤ 4 := by rw [List.length_eraseIdx]; simp [hk]; omega
  have q2 : ∀ x ∈ V.shape.eraseIdx k, 0 ≤ x ∧ x ≤ 60 := fun x hx => s2 x (List.mem_of_mem_eraseIdx hx)
  have q3 := (prodW_eq q1 q2).2.1
  have q4 : prodI (V.shape.eraseIdx k) ≤ prodI V.shape := by
    have := Int.mul_le_mul_of_nonneg_left (show 1 ≤ V.shape[k] by omega) q3
    omega
  apply tidy_valid
  · show isShapeL (V.shape.eraseIdx k) = true
    exact isShapeL_of q1 q2 (by omega)
  · simp only [pickV, List.length_eraseIdx, hk, hkt, if_true]; omega
  · intro hz
    have hz' : prodI (V.shape.eraseIdx k) ≠ 0 := hz
    have hne : prodI V.shape ≠ 0 := by
      rw [hp]; exact Int.mul_ne_zero hz' (by omega)
    obtain ⟨b1, b2⟩ := a5.resolve_left hne
    obtain ⟨l1, l2⟩ := loS_erase V.shape V.strides k hk hkt
    obtain ⟨m1, m2⟩ := one_bound (s := V.strides[k]) h0 h1
    have z := loS_le (V.shape.eraseIdx k) (V.strides.eraseIdx k)
    have hg : V.strides.getD k 0 = V.strides[k] := by simp [hkt]
    simp only [pickV, hg]
    refine ⟨by omega, fun x hx => a4 x (List.mem_of_mem_eraseIdx hx), by omega, by omega⟩
theorem isViewL_lens {V : VL} (h : isViewL V = true) : V.shape.length ≤ 4 ∧ V.strides.length ≤ 4 := by
  have h1 := isViewL_and h
  have h2 := (shape_ext h1.1).1
  have h3 := h1.2.1
  omega


end Go.Proofs.Ytldblcolnjkcaaa
