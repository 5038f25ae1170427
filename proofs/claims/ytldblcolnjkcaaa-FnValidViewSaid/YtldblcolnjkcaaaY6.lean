/- What a slice takes of a dimension: plain. No conditions. -/
import Derived.Test.YtldblcolnjkcaaaY1
import Derived.Test.YtldblcolnjkcaaaJ1
namespace Go.Proofs.Ytldblcolnjkcaaa
open Go.RowKit

def cutS (st : Int) (xs : List Int) : Int := if xs.length ≤ 1 then 0 else st * (xs.getD 1 0 - xs.getD 0 0)
def cutB (st : Int) (xs : List Int) : Int := if xs.length = 0 then 0 else st * xs.getD 0 0
def cutV (V : VL) (k : Nat) (xs : List Int) : VL := ⟨V.base + cutB (V.strides.getD k 0) xs, V.shape.set k xs.length, V.strides.set k (cutS (V.strides.getD k 0) xs)⟩
def okCut (V : VL) (d : Int) (s : SL) : Bool := hasDimL V d && okSl s
def cutL (V : VL) (d : Nat) (s : SL) : VL := tidyL (cutV V d (idxL (V.shape.getD d 0) s))
def sliceL (V : VL) (d : Int) (s : SL) : VL := if okCut V d s then cutL V d.toNat s else VL.zero
theorem slice_no {V : VL} {d : Int} {s : SL} (h : okCut V d s = false) : sliceL V d s = VL.zero := by simp [sliceL, h]
theorem cut_valid {V : VL} (h : isViewL V = true) {k : Nat} (hk : k < V.shape.length) {s : SL} (hs : s.by_ ≠ 0) : isViewL (tidyL (cutV V k (idxL V.shape[k] s))) = true := by
  rw [valid_iff] at h
  obtain ⟨a1, a2, a3, a4, a5⟩ := h
  have hkt : k < V.strides.length := by omega
  obtain ⟨s1, s2, s3⟩ := shape_ext a1
  have sp := shape_prod a1
  have hn := s2 _ (List.getElem_mem hk)
  have hin := idx_in hn hs
  have hlen := idx_len hn hs
  obtain ⟨m, hm⟩ : ∃ m, m = (idxL V.shape[k] s).length := ⟨_, rfl⟩
  have hp := prodI_erase V.shape k hk
  have hks : k < (V.shape.set k (m : Int)).length := by simpa using hk
  have hp2 := prodI_erase (V.shape.set k (m : Int)) k hks
  rw [List.getElem_set_self, List.eraseIdx_set_eq] at hp2
  have q1 : (V.shape.eraseIdx k).length ≤ 4 := by rw [List.length_eraseIdx]; simp [hk]; omega
  have q2 : ∀ x ∈ V.shape.eraseIdx k, 0 ≤ x ∧ x ≤ 60 := fun x hx => s2 x (List.mem_of_mem_eraseIdx hx)
  have q3 := (prodW_eq q1 q2).2.1
  have q4 := Int.mul_le_mul_of_nonneg_left (show (m : Int) ≤ V.shape[k] by omega) q3
  rw [cutV, ← hm]
  apply tidy_valid
  · refine isShapeL_of (by simpa using s1) (fun x hx => ?_) (by show prodI (V.shape.set k (m : Int)) ≤ 60; omega)
    rcases List.mem_or_eq_of_mem_set hx with hx | rfl
    · exact s2 x hx
    · omega
  · simp; omega
  · intro hz
    have hz' : prodI (V.shape.set k (m : Int)) ≠ 0 := hz
    rw [hp2] at hz'
    have hpe : prodI (V.shape.eraseIdx k) ≠ 0 := fun e => hz' (by rw [e]; simp)
    have hm0 : m ≠ 0 := fun e => hz' (by rw [e]; simp)
    have hne : prodI V.shape ≠ 0 := by rw [hp]; exact Int.mul_ne_zero hpe (by omega)
    obtain ⟨b1, b2⟩ := a5.resolve_left hne
    have hg : V.strides.getD k 0 = V.strides[k] := by simp [hkt]
    obtain ⟨l1, l2⟩ := loS_erase V.shape V.strides k hk hkt
    have z := loS_le (V.shape.eraseIdx k) (V.strides.eraseIdx k)
    obtain ⟨st, hst⟩ : ∃ st, st = V.strides[k] := ⟨_, rfl⟩
    have hst2 := a4 _ (List.getElem_mem hkt)
    rw [← hst] at l1 l2 hst2
    have hks2 : k < (V.strides.set k (cutS st (idxL V.shape[k] s))).length := by simpa using hkt
    obtain ⟨l3, l4⟩ := loS_erase (V.shape.set k (m : Int)) (V.strides.set k (cutS st (idxL V.shape[k] s))) k hks hks2
    rw [List.getElem_set_self, List.getElem_set_self, List.eraseIdx_set_eq, List.eraseIdx_set_eq] at l3 l4
    obtain ⟨a, ha⟩ : ∃ a, a = fromL V.shape[k] s := ⟨_, rfl⟩
    have hmc : m = cnt a (toL V.shape[k] s) s.by_ := by rw [hm, idxL, numsL_length, ha]
    have hget : ∀ i : Nat, i < m → (idxL V.shape[k] s).getD i 0 = a + i * s.by_ := fun i hi => by rw [idxL, ← ha, nums_getD (by omega)]
    have hbd : ∀ i : Nat, i < m → min 0 ((V.shape[k] - 1) * st) ≤ (a + i * s.by_) * st ∧ (a + i * s.by_) * st ≤ max 0 ((V.shape[k] - 1) * st) := fun i hi => by
      have hmem : a + i * s.by_ ∈ idxL V.shape[k] s := by
        rw [← hget i hi]
        have hil : i < (idxL V.shape[k] s).length := by omega
        simp [hil]
      have := hin _ hmem
      exact one_bound this.1 this.2
    have h0 := hbd 0 (by omega)
    have e0 : (idxL V.shape[k] s).getD 0 0 = a := by rw [hget 0 (by omega)]; simp
    have eB : cutB st (idxL V.shape[k] s) = a * st := by
      unfold cutB
      rw [← hm, if_neg hm0, e0, Int.mul_comm]
    simp only [Int.natCast_zero, Int.zero_mul, Int.add_zero] at h0
    simp only [hg, ← hst, eB]
    obtain ⟨A, hA⟩ : ∃ A, A = a * st := ⟨_, rfl⟩
    rw [← hA] at h0 ⊢
    by_cases h1 : m ≤ 1
    · have eS : cutS st (idxL V.shape[k] s) = 0 := by unfold cutS; rw [← hm, if_pos h1]
      rw [eS] at l3 l4 ⊢
      simp only [Int.mul_zero] at l3 l4
      refine ⟨by omega, fun x hx => ?_, by omega, by omega⟩
      rcases List.mem_or_eq_of_mem_set hx with hx | rfl
      · exact a4 x hx
      · omega
    · have e1 : (idxL V.shape[k] s).getD 1 0 = a + s.by_ := by rw [hget 1 (by omega)]; simp
      have eS : cutS st (idxL V.shape[k] s) = s.by_ * st := by
        unfold cutS
        rw [← hm, if_neg h1, e1, e0, show a + s.by_ - a = s.by_ by omega, Int.mul_comm]
      rw [eS] at l3 l4 ⊢
      have h2 := hbd 1 (by omega)
      have h3 := hbd (m - 1) (by omega)
      simp only [Int.natCast_one, Int.one_mul, Int.add_mul] at h2
      rw [← hA] at h2
      have e3 : (a + ((m - 1 : Nat) : Int) * s.by_) * st = A + ((m : Int) - 1) * (s.by_ * st) := by
        rw [Int.add_mul, ← hA, Int.mul_assoc, show ((m - 1 : Nat) : Int) = (m : Int) - 1 by omega]
      rw [e3] at h3
      obtain ⟨T, hT⟩ : ∃ T, T = s.by_ * st := ⟨_, rfl⟩
      rw [← hT] at l3 l4 h2 h3 ⊢
      obtain ⟨U, hU⟩ : ∃ U, U = ((m : Int) - 1) * T := ⟨_, rfl⟩
      rw [← hU] at l3 l4 h3
      refine ⟨by omega, fun x hx => ?_, by omega, by omega⟩
      rcases List.mem_or_eq_of_mem_set hx with hx | rfl
      · exact a4 x hx
      · omega
theorem sliceL_len (V : VL) (d : Int) (s : SL) : (sliceL V d s).shape.length ≤ 60 ∧ (sliceL V d s).strides.length ≤ 60 := by
  cases h : okCut V d s
  · rw [slice_no h]; simp [VL.zero]
  · have hv : isViewL V = true := by simp only [okCut, hasDimL, Bool.and_eq_true] at h; exact h.1.1.1
    have hl := isViewL_lens hv
    simp only [sliceL, h, if_true, cutL]
    unfold tidyL
    split
    · simp only [cutV, zerosL_length, List.length_set]; omega
    · simp only [cutV, List.length_set]; omega

end Go.Proofs.Ytldblcolnjkcaaa
