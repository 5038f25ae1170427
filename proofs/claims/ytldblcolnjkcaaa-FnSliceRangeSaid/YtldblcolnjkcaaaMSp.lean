/- Slices of slices, plain. Conditions: none. -/
import Derived.Test.YtldblcolnjkcaaaY1
namespace Go.Proofs.Ytldblcolnjkcaaa
open Go.RowKit

/-- A progression. -/
def progL (A S : Int) (c : Nat) : List Int := (List.range c).map fun (i : Nat) => A + i * S
theorem progL_length (A S : Int) (c : Nat) : (progL A S c).length = c := by simp [progL]
theorem progL_getD {A S : Int} {c k : Nat} (h : k < c) : (progL A S c).getD k 0 = A + k * S := by
  rw [List.getD_eq_getElem?_getD, List.getElem?_eq_getElem (by rw [progL_length]; exact h)]
  simp [progL]
theorem nums_prog (a b s : Int) : numsL a b s = progL a s (cnt a b s) := rfl
theorem prog_nums {A S : Int} {c : Nat} (hS : S ≠ 0) : numsL A (A + c * S) S = progL A S c := by
  have e : cnt A (A + c * S) S = c := cnt_eq hS fun k => by
    split
    · rename_i hp
      constructor
      · intro h
        have := Int.mul_lt_mul_of_pos_right (show (k : Int) < (c : Int) by omega) hp
        omega
      · intro h
        have : (k : Int) * S < (c : Int) * S := by omega
        have := Int.lt_of_mul_lt_mul_right this (by omega)
        omega
    · have hp : 0 < -S := by omega
      constructor
      · intro h
        have := Int.mul_lt_mul_of_pos_right (show (k : Int) < (c : Int) by omega) hp
        rw [Int.mul_neg, Int.mul_neg] at this
        omega
      · intro h
        have : (k : Int) * (-S) < (c : Int) * (-S) := by rw [Int.mul_neg, Int.mul_neg]; omega
        have := Int.lt_of_mul_lt_mul_right this (by omega)
        omega
  rw [nums_prog, e]
theorem norm_prog {A S : Int} {c : Nat} (hS : S ≠ 0) : numsR (normL (progL A S c)) = progL A S c := by
  rw [← prog_nums hS]
  exact nums_norm hS
theorem mem_prog {A S : Int} {c : Nat} {x : Int} (h : x ∈ progL A S c) : ∃ k : Nat, k < c ∧ x = A + k * S := by
  obtain ⟨k, hk, rfl⟩ := List.mem_map.1 h
  exact ⟨k, List.mem_range.1 hk, rfl⟩
theorem prog_mem {A S : Int} {c k : Nat} (h : k < c) : A + k * S ∈ progL A S c := List.mem_map.2 ⟨k, List.mem_range.2 h, rfl⟩
/-- The numbers of a progression at a progression. -/
theorem taken_prog {a s a' s' : Int} {c c' : Nat} (h : ∀ x ∈ progL a' s' c', 0 ≤ x ∧ x < c) : takenL (progL a s c) (progL a' s' c') = progL (a + a' * s) (s' * s) c' := by
  unfold takenL
  conv => lhs; arg 2; unfold progL
  rw [List.map_map]
  unfold progL
  refine List.map_congr_left fun i hi => ?_
  have hi' := List.mem_range.1 hi
  have hx := h _ (prog_mem (A := a') (S := s') hi')
  simp only [Function.comp_def]
  have hg := progL_getD (A := a) (S := s) (c := c) (k := (a' + (i : Int) * s').toNat) (by omega)
  unfold progL at hg
  rw [hg, Int.toNat_of_nonneg hx.1, Int.add_mul, Int.mul_assoc]
  omega
/-- The slice that takes the indices of a range in normal form. -/
def sliceForL (r : RL) : SL := if r.b = -1 then ⟨r.a, 0, r.s, true, false⟩ else ⟨r.a, r.b, r.s, true, true⟩
theorem norm_zero (A S : Int) : normL (progL A S 0) = ⟨0, 0, 1⟩ := by simp [normL, progL]
theorem norm_one (A S : Int) : normL (progL A S 1) = ⟨A, A + 1, 1⟩ := by simp [normL, progL, List.range_succ]
theorem norm_more {A S : Int} {c : Nat} (h : 2 ≤ c) : normL (progL A S c) = ⟨A, if S < 0 then A + ((c - 1 : Nat) : Int) * S - 1 else A + ((c - 1 : Nat) : Int) * S + 1, S⟩ := by
  unfold normL lastD
  rw [progL_length, if_neg (by omega), if_neg (by omega), progL_getD (by omega), progL_getD (by omega), progL_getD (by omega)]
  have e : A + ((1 : Nat) : Int) * S - (A + ((0 : Nat) : Int) * S) = S := by simp; omega
  rw [e]
  split <;> simp
theorem endL_up {n e s : Int} (hs : ¬ s < 0) (h : 0 ≤ e ∧ e ≤ n) : endL n e s = e := by
  unfold endL
  rw [if_neg hs, if_neg (by omega)]; omega
theorem endL_dn {n e s : Int} (hs : s < 0) (h : 0 ≤ e ∧ e ≤ n - 1) : endL n e s = e := by
  unfold endL
  rw [if_pos hs, if_neg (by omega)]; omega
theorem slice_norm {n A S : Int} {c : Nat} (hn : 0 ≤ n ∧ n ≤ 60) (hS : S ≠ 0) (hin : ∀ x ∈ progL A S c, 0 ≤ x ∧ x < n) :
    (fromL n (sliceForL (normL (progL A S c))) = (normL (progL A S c)).a ∧ toL n (sliceForL (normL (progL A S c))) = (normL (progL A S c)).b ∧ (sliceForL (normL (progL A S c))).by_ = (normL (progL A S c)).s) ∧
    (0 ≤ (normL (progL A S c)).a ∧ (normL (progL A S c)).a ≤ 60) ∧ (-1 ≤ (normL (progL A S c)).b ∧ (normL (progL A S c)).b ≤ 60) ∧ (-60 ≤ (normL (progL A S c)).s ∧ (normL (progL A S c)).s ≤ 60) ∧ (normL (progL A S c)).s ≠ 0 := by
  have hc : c = 0 ∨ c = 1 ∨ 2 ≤ c := by omega
  rcases hc with rfl | rfl | hc
  · rw [norm_zero]
    simp only [sliceForL, show ¬ (0 : Int) = -1 by omega, if_false, fromL, toL, if_true]
    rw [endL_up (by omega) (by omega)]
    refine ⟨⟨?_, ?_, ?_⟩, ?_⟩ <;> (try dsimp only) <;> omega
  · have h0 := hin _ (prog_mem (A := A) (S := S) (c := 1) (k := 0) (by omega))
    simp only [Int.natCast_zero, Int.zero_mul, Int.add_zero] at h0
    rw [norm_one]
    have hne : ¬ A + 1 = -1 := by omega
    simp only [sliceForL, hne, if_false, fromL, toL, if_true]
    rw [endL_up (by omega) (by omega), endL_up (by omega) (by omega)]
    refine ⟨⟨?_, ?_, ?_⟩, ?_⟩ <;> (try dsimp only) <;> omega
  · have h0 := hin _ (prog_mem (A := A) (S := S) (c := c) (k := 0) (by omega))
    have h1 := hin _ (prog_mem (A := A) (S := S) (c := c) (k := 1) (by omega))
    have h2 := hin _ (prog_mem (A := A) (S := S) (c := c) (k := c - 1) (by omega))
    simp only [Int.natCast_zero, Int.zero_mul, Int.add_zero, Int.natCast_one, Int.one_mul] at h0 h1
    rw [norm_more hc]
    generalize ((c - 1 : Nat) : Int) * S = L at *
    by_cases hs : S < 0
    · simp only [hs, if_true]
      by_cases hb : A + L - 1 = -1
      · simp only [sliceForL, hb, if_true, fromL, toL, hs, Bool.false_eq_true, if_false]
        rw [endL_dn hs (by omega)]
        refine ⟨⟨?_, ?_, ?_⟩, ?_⟩ <;> (try dsimp only) <;> omega
      · simp only [sliceForL, hb, if_false, fromL, toL, if_true]
        rw [endL_dn hs (by omega), endL_dn hs (by omega)]
        refine ⟨⟨?_, ?_, ?_⟩, ?_⟩ <;> (try dsimp only) <;> omega
    · have hb : ¬ A + L + 1 = -1 := by omega
      simp only [hs, sliceForL, hb, if_false, fromL, toL, if_true]
      rw [endL_up hs (by omega), endL_up hs (by omega)]
      refine ⟨⟨?_, ?_, ?_⟩, ?_⟩ <;> (try dsimp only) <;> omega
theorem idx_norm {n A S : Int} {c : Nat} (hn : 0 ≤ n ∧ n ≤ 60) (hS : S ≠ 0) (hin : ∀ x ∈ progL A S c, 0 ≤ x ∧ x < n) :
    idxL n (sliceForL (normL (progL A S c))) = progL A S c ∧ okSl (sliceForL (normL (progL A S c))) = true := by
  obtain ⟨⟨h1, h2, h3⟩, h4, h5, h6, h7⟩ := slice_norm hn hS hin
  refine ⟨?_, ?_⟩
  · unfold idxL
    rw [h1, h2, h3]
    exact norm_prog hS
  · generalize normL (progL A S c) = r at *
    unfold sliceForL
    split
    · simp only [okSl, Bool.and_eq_true, inR_iff, Bool.not_eq_true', beq_eq_false_iff_ne, Bool.true_or]
      simp; omega
    · simp only [okSl, Bool.and_eq_true, inR_iff, Bool.not_eq_true', beq_eq_false_iff_ne, Bool.true_or]
      simp; omega
/-- What the second slice takes of what the first one takes. -/
def twoL (n : Int) (a b : SL) : List Int := takenL (idxL n a) (idxL (idxL n a).length b)
theorem two_prog {n : Int} {a b : SL} (hn : 0 ≤ n ∧ n ≤ 60) (ha : a.by_ ≠ 0) (hb : b.by_ ≠ 0) : ∃ A S c, twoL n a b = progL A S c ∧ S ≠ 0 ∧ ∀ x ∈ progL A S c, 0 ≤ x ∧ x < n := by
  have hl := idx_len hn ha
  have h2 := idx_in (n := ((idxL n a).length : Int)) (by omega) hb
  have h1 := idx_in hn ha
  unfold twoL
  unfold idxL at *
  rw [nums_prog, nums_prog] at *
  rw [progL_length] at *
  have e := taken_prog (a := fromL n a) (s := a.by_) (c := cnt (fromL n a) (toL n a) a.by_) h2
  refine ⟨_, _, _, e, Int.mul_ne_zero hb ha, fun x hx => ?_⟩
  rw [← e] at hx
  obtain ⟨i, hi, rfl⟩ := List.mem_map.1 hx
  have hi2 := h2 i hi
  have hk : i.toNat < cnt (fromL n a) (toL n a) a.by_ := by omega
  rw [progL_getD hk]
  exact h1 _ (prog_mem hk)
/-- The merged slice. -/
def okMg (n : Int) (a b : SL) : Bool := inR n 0 60 && okSl a && okSl b
def SL.zero : SL := ⟨0, 0, 0, false, false⟩
def mergeL (n : Int) (a b : SL) : SL := if okMg n a b then sliceForL (normL (twoL n a b)) else SL.zero
theorem merge_law {n : Int} {a b : SL} (h : okMg n a b = true) : idxL n (mergeL n a b) = twoL n a b ∧ okSl (mergeL n a b) = true := by
  simp only [okMg, Bool.and_eq_true, inR_iff] at h
  have e : mergeL n a b = sliceForL (normL (twoL n a b)) := by simp [mergeL, okMg, h.1.2, h.2, inR_iff.2 h.1.1]
  obtain ⟨A, S, c, e2, hS, hin⟩ := two_prog h.1.1 (okSl_and h.1.2).2.2.2 (okSl_and h.2).2.2.2
  rw [e, e2]
  exact idx_norm h.1.1 hS hin

end Go.Proofs.Ytldblcolnjkcaaa
