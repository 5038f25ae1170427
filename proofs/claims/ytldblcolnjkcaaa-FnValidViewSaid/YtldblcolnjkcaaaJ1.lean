/- DiagonalOf: plain. No conditions. -/
import Derived.Test.YtldblcolnjkcaaaG3
namespace Go.Proofs.Ytldblcolnjkcaaa
open Go.RowKit

theorem loS_set : ∀ (xs ys : List Int) (k : Nat) (t : Int) (h1 : k < xs.length) (h2 : k < ys.length),
    loS xs (ys.set k t) = loS xs ys - min 0 ((xs[k] - 1) * ys[k]) + min 0 ((xs[k] - 1) * t) ∧ hiS xs (ys.set k t) = hiS xs ys - max 0 ((xs[k] - 1) * ys[k]) + max 0 ((xs[k] - 1) * t)
  | [], _, _, _, h, _ => by simp at h
  | _ :: _, [], _, _, _, h => by simp at h
  | x :: xs, y :: ys, 0, t, _, _ => by simp only [List.set_cons_zero, List.getElem_cons_zero, loS, hiS]; omega
  | x :: xs, y :: ys, k + 1, t, h1, h2 => by
    have := loS_set xs ys k t (by simpa using h1) (by simpa using h2)
    simp only [List.set_cons_succ, List.getElem_cons_succ, loS, hiS]; omega
theorem prodI_zero : ∀ {xs : List Int}, (0 : Int) ∈ xs → prodI xs = 0
  | [], h => by cases h
  | x :: xs, h => by
    rcases List.mem_cons.1 h with h | h
    · rw [prodI, ← h]; simp
    · rw [prodI, prodI_zero h]; simp
def diagS (V : VL) (a b : Nat) : Int := if V.shape.getD a 0 ≤ 1 then 0 else V.strides.getD a 0 + V.strides.getD b 0
def diagV (V : VL) (a b : Nat) : VL := ⟨V.base, V.shape.eraseIdx b, (V.strides.set a (diagS V a b)).eraseIdx b⟩
def okDiag (V : VL) (a b : Int) : Bool := hasDimL V a && hasDimL V b && !(a == b) && (V.shape.getD a.toNat 0 == V.shape.getD b.toNat 0)
def diagL (V : VL) (a b : Int) : VL := if okDiag V a b then tidyL (diagV V a.toNat b.toNat) else VL.zero
theorem diag_no {V : VL} {a b : Int} (h : okDiag V a b = false) : diagL V a b = VL.zero := by simp [diagL, h]
theorem diag_valid {V : VL} (h : isViewL V = true) {a b : Nat} (ha : a < V.shape.length) (hb : b < V.shape.length) (hne : a ≠ b) (he : V.shape[a] = V.shape[b]) : isViewL (tidyL (diagV V a b)) = true := by
  rw [valid_iff] at h
  obtain ⟨a1, a2, a3, a4, a5⟩ := h
  have hat : a < V.strides.length := by omega
  have hbt : b < V.strides.length := by omega
  obtain ⟨s1, s2, s3⟩ := shape_ext a1
  have sp := shape_prod a1
  have hp := prodI_erase V.shape b hb
  have q1 : (V.shape.eraseIdx b).length ≤ 4 := by rw [List.length_eraseIdx]; simp [hb]; omega
  have q2 : ∀ x ∈ V.shape.eraseIdx b, 0 ≤ x ∧ x ≤ 60 := fun x hx => s2 x (List.mem_of_mem_eraseIdx hx)
  have q3 := (prodW_eq q1 q2).2.1
  have hmem : V.shape[a] ∈ V.shape.eraseIdx b := List.mem_eraseIdx_iff_getElem.2 ⟨a, ha, hne, rfl⟩
  have hga : V.shape.getD a 0 = V.shape[a] := by simp [ha]
  have e1 := s2 _ (List.getElem_mem ha)
  have q4 : prodI (V.shape.eraseIdx b) ≤ 60 := by
    by_cases h0 : V.shape[a] = 0
    · rw [prodI_zero (h0 ▸ hmem)]; omega
    · have := Int.mul_le_mul_of_nonneg_left (show 1 ≤ V.shape[b] by omega) q3
      omega
  apply tidy_valid
  · exact isShapeL_of q1 q2 q4
  · simp only [diagV, List.length_eraseIdx, List.length_set, hb, hbt, if_true]; omega
  · intro hz
    have hz' : prodI (V.shape.eraseIdx b) ≠ 0 := hz
    have h0 : V.shape[a] ≠ 0 := fun h0 => hz' (prodI_zero (h0 ▸ hmem))
    have hne' : prodI V.shape ≠ 0 := by
      rw [hp]; exact Int.mul_ne_zero hz' (by omega)
    obtain ⟨b1, b2⟩ := a5.resolve_left hne'
    have hgs : V.strides.getD a 0 = V.strides[a] := by simp [hat]
    have hgt : V.strides.getD b 0 = V.strides[b] := by simp [hbt]
    obtain ⟨u, hu⟩ : ∃ u, u = diagS V a b := ⟨_, rfl⟩
    have hlen : b < (V.strides.set a u).length := by simpa using hbt
    obtain ⟨l1, l2⟩ := loS_erase V.shape (V.strides.set a u) b hb hlen
    obtain ⟨m1, m2⟩ := loS_set V.shape V.strides a u ha hat
    have hgb : (V.strides.set a u)[b] = V.strides[b] := by rw [List.getElem_set_ne hne]
    rw [hgb, ← he] at l1 l2
    obtain ⟨p, hp'⟩ : ∃ p, p = (V.shape[a] - 1) * V.strides[a] := ⟨_, rfl⟩
    obtain ⟨q, hq'⟩ : ∃ q, q = (V.shape[a] - 1) * V.strides[b] := ⟨_, rfl⟩
    obtain ⟨r, hr'⟩ : ∃ r, r = (V.shape[a] - 1) * u := ⟨_, rfl⟩
    rw [← hp', ← hr'] at m1 m2
    rw [← hq'] at l1 l2
    have z1 := loS_le (V.shape.eraseIdx b) ((V.strides.set a u).eraseIdx b)
    have z0 := loS_le V.shape V.strides
    have hr2 : min 0 p + min 0 q ≤ r ∧ r ≤ max 0 p + max 0 q ∧ (-60 ≤ u ∧ u ≤ 60) := by
      unfold diagS at hu
      rw [hga, hgs, hgt] at hu
      split at hu
      · subst hu; simp only [Int.mul_zero] at hr'; omega
      · rename_i h2
        have hpq : r = p + q := by rw [hr', hp', hq', hu, Int.mul_add]
        refine ⟨by omega, by omega, ?_⟩
        obtain ⟨l3, l4⟩ := loS_erase V.shape V.strides b hb hbt
        rw [← he, ← hq'] at l3 l4
        have l5 := loS_erase (V.shape.eraseIdx b) (V.strides.eraseIdx b)
        have key : -60 ≤ r ∧ r ≤ 60 := by
          have m3 := (loS_set V.shape V.strides a 0 ha hat)
          rw [← hp'] at m3
          simp only [Int.mul_zero] at m3
          have l6 := loS_erase V.shape (V.strides.set a 0) b hb (by simpa using hbt)
          rw [List.getElem_set_ne hne, ← he, ← hq'] at l6
          have z2 := loS_le (V.shape.eraseIdx b) ((V.strides.set a 0).eraseIdx b)
          omega
        constructor
        · rcases Int.lt_or_le u (-60) with hlt | hlt
          · have := Int.mul_le_mul_of_nonneg_left (show u ≤ -61 by omega) (show 0 ≤ V.shape[a] - 1 by omega)
            rw [← hr'] at this; omega
          · exact hlt
        · rcases Int.lt_or_le 60 u with hlt | hlt
          · have := Int.mul_le_mul_of_nonneg_left (show 61 ≤ u by omega) (show 0 ≤ V.shape[a] - 1 by omega)
            rw [← hr'] at this; omega
          · exact hlt
    simp only [diagV, ← hu]
    refine ⟨a3, fun x hx => ?_, by omega, by omega⟩
    have hx := List.mem_of_mem_eraseIdx hx
    rcases List.mem_or_eq_of_mem_set hx with hx | hx
    · exact a4 x hx
    · subst hx; exact hr2.2.2
theorem diagL_len (V : VL) (a b : Int) : (diagL V a b).shape.length ≤ 60 ∧ (diagL V a b).strides.length ≤ 60 := by
  cases h : okDiag V a b
  · rw [diag_no h]; simp [VL.zero]
  · have hv : isViewL V = true := by simp only [okDiag, hasDimL, Bool.and_eq_true] at h; exact h.1.1.1.1.1
    have hl := isViewL_lens hv
    simp only [diagL, h, if_true]
    unfold tidyL
    split
    · simp only [diagV, zerosL_length, List.length_eraseIdx]; split <;> omega
    · simp only [diagV, List.length_eraseIdx, List.length_set]; constructor <;> split <;> omega

end Go.Proofs.Ytldblcolnjkcaaa
