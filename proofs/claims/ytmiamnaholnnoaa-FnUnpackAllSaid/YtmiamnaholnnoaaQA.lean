/- Formats, plain: where fields lie; padding. Conditions: none. -/
import Derived.Test.YtmiamnaholnnoaaQ1
namespace Go.Proofs.Ytmiamnaholnnoaa
open Go.RowKit

theorem placesF_prefix (al : Bool) (xs : List Int) (j k : Nat) (hk : k < j) (hj : j ≤ xs.length) (h : ∀ s ∈ xs, s = 1 ∨ s = 2 ∨ s = 4) :
    (placesF al (xs.take j)).1.getD k 0 = (placesF al (xs.take (k + 1))).1.getD k 0 := by
  induction j with
  | zero => omega
  | succ j ih =>
    rcases Nat.lt_or_ge k j with h1 | h1
    · rw [← ih h1 (by omega), placesF_snoc al xs j (by omega)]
      have hl := (placesF_bd (al := al) h j (by omega)).1
      simp only [placeStep, List.getD_eq_getElem?_getD]
      rw [List.getElem?_append_left (by omega)]
    · obtain rfl : k = j := by omega
      rfl
theorem placesF_at (al : Bool) (xs : List Int) (k : Nat) (hk : k < xs.length) (h : ∀ s ∈ xs, s = 1 ∨ s = 2 ∨ s = 4) :
    (placesF al xs).1.getD k 0 + xs[k] = (placesF al (xs.take (k + 1))).2 ∧ (placesF al (xs.take k)).2 ≤ (placesF al xs).1.getD k 0 := by
  have e : placesF al xs = placesF al (xs.take xs.length) := by rw [List.take_length]
  rw [e, placesF_prefix al xs xs.length k hk (Nat.le_refl _) h, placesF_snoc al xs k hk]
  have hl := (placesF_bd (al := al) h k (by omega)).1
  have hu := up_range (placesF al (xs.take k)).2 (h xs[k] (List.getElem_mem hk))
  simp only [placeStep, List.getD_eq_getElem?_getD]
  rw [List.getElem?_append_right (by omega)]
  simp only [hl, Nat.sub_self, List.getElem?_cons_zero, Option.getD_some, true_and]
  cases al <;> simp <;> omega
theorem placesF_mono (al : Bool) (xs : List Int) (i j : Nat) (hij : i ≤ j) (hj : j ≤ xs.length) (h : ∀ s ∈ xs, s = 1 ∨ s = 2 ∨ s = 4) :
    (placesF al (xs.take i)).2 ≤ (placesF al (xs.take j)).2 := by
  induction j with
  | zero => (obtain rfl : i = 0 := (by omega)); exact Int.le_refl _
  | succ j ih =>
    rcases Nat.lt_or_ge i (j + 1) with h1 | h1
    · have h2 := ih (by omega) (by omega)
      have := (placesF_at al xs j (by omega) h)
      have := h xs[j] (List.getElem_mem (by omega))
      omega
    · obtain rfl : i = j + 1 := by omega
      exact Int.le_refl _
theorem sizeF_ge (F : FL) (h : ∀ s ∈ F.sizes, s = 1 ∨ s = 2 ∨ s = 4) : (placesF F.aligned F.sizes).2 ≤ sizeF F ∧ sizeF F ≤ (placesF F.aligned F.sizes).2 + 3 := by
  obtain ⟨xs, bg, al⟩ := F
  simp only at h ⊢
  have hm := mostF_bd h xs.length (Nat.le_refl _)
  rw [List.take_length] at hm
  have hu := up_range (placesF al xs).2 hm
  unfold sizeF
  cases al <;> simp <;> omega
/-- The places of a valid format. -/
def psF (F : FL) : List Int := (placesF F.aligned F.sizes).1
theorem psF_length {F : FL} (h : isFormatL F = true) : (psF F).length = F.sizes.length := by
  have := (placesF_bd (al := F.aligned) (isFormat_iff.1 h).2.2 F.sizes.length (Nat.le_refl _)).1
  rwa [List.take_length] at this
theorem size_bd {F : FL} (h : isFormatL F = true) : 1 ≤ sizeF F ∧ sizeF F ≤ 38 := by
  obtain ⟨h1, h2, h3⟩ := isFormat_iff.1 h
  have hb := placesF_bd (al := F.aligned) h3 F.sizes.length (Nat.le_refl _)
  have hg := sizeF_ge F h3
  have h0 := placesF_mono F.aligned F.sizes 1 F.sizes.length h1 (Nat.le_refl _) h3
  have h4 := (placesF_at F.aligned F.sizes 0 (by omega) h3)
  have h5 := h3 F.sizes[0] (List.getElem_mem (by omega))
  have h6 : (placesF F.aligned (F.sizes.take 0)).2 = 0 := rfl
  rw [List.take_length] at hb h0
  simp only [Nat.zero_add] at h4
  omega
/-- A field lies in the item. -/
theorem psF_in {F : FL} (h : isFormatL F = true) (k : Nat) (hk : k < F.sizes.length) : 0 ≤ (psF F).getD k 0 ∧ (psF F).getD k 0 + F.sizes[k] ≤ sizeF F ∧ (F.sizes[k] = 1 ∨ F.sizes[k] = 2 ∨ F.sizes[k] = 4) := by
  obtain ⟨h1, h2, h3⟩ := isFormat_iff.1 h
  have hb := placesF_bd (al := F.aligned) h3 k (by omega)
  have hg := sizeF_ge F h3
  have h0 := placesF_mono F.aligned F.sizes (k + 1) F.sizes.length (by omega) (Nat.le_refl _) h3
  have h4 := (placesF_at F.aligned F.sizes k hk h3)
  rw [List.take_length] at h0
  refine ⟨?_, ?_, h3 _ (List.getElem_mem hk)⟩
  all_goals
    unfold psF
    omega
theorem last_end {F : FL} (h : isFormatL F = true) (k : Nat) (hk : k + 1 = F.sizes.length) : (psF F).getD k 0 + F.sizes[k] = (placesF F.aligned F.sizes).2 := by
  obtain ⟨h1, h2, h3⟩ := isFormat_iff.1 h
  have h4 := (placesF_at F.aligned F.sizes k (by omega) h3).1
  rw [hk, List.take_length] at h4
  exact h4

def inFieldB (P xs : List Int) (x : Int) (k : Nat) : Bool := (List.range k).any fun i => inR x (P.getD i 0) (P.getD i 0 + xs.getD i 0 - 1)
theorem inFieldB_succ (P xs : List Int) (x : Int) (k : Nat) : inFieldB P xs x (k + 1) = (inFieldB P xs x k || inR x (P.getD k 0) (P.getD k 0 + xs.getD k 0 - 1)) := by
  simp [inFieldB, List.range_succ]
def padTo (P xs : List Int) (n : Nat) : List Int := ((List.range n).map Int.ofNat).filter fun x => !inFieldB P xs x xs.length
theorem padTo_in {P xs : List Int} {n : Nat} (h : inFieldB P xs n xs.length = true) : padTo P xs (n + 1) = padTo P xs n := by
  simp [padTo, List.range_succ, h]
theorem padTo_out {P xs : List Int} {n : Nat} (h : inFieldB P xs n xs.length = false) : padTo P xs (n + 1) = padTo P xs n ++ [(n : Int)] := by
  simp [padTo, List.range_succ, h]
theorem padTo_length (P xs : List Int) (n : Nat) : (padTo P xs n).length ≤ n := by
  have := List.length_filter_le (fun x => !inFieldB P xs x xs.length) ((List.range n).map Int.ofNat)
  simpa [padTo] using this
def padL (F : FL) : List Int := if isFormatL F then padTo (psF F) F.sizes (sizeF F).toNat else []
theorem padL_len (F : FL) : (padL F).length ≤ 60 := by
  unfold padL
  split
  · rename_i h
    have := padTo_length (psF F) F.sizes (sizeF F).toNat
    have := size_bd h
    omega
  · simp
/-- Which bytes are free after k fields and j bytes of the next one. -/
def freeL (P xs : List Int) (n k j : Nat) : List Bool := (List.range n).map fun y : Nat => !(inFieldB P xs y k || inR y (P.getD k 0) (P.getD k 0 + j - 1))
theorem freeL_length (P xs : List Int) (n k j : Nat) : (freeL P xs n k j).length = n := by simp [freeL]
theorem freeL_zero (P xs : List Int) (n : Nat) : freeL P xs n 0 0 = List.replicate n true := by
  apply List.ext_getElem
  · simp [freeL]
  · intro i h1 h2
    simp [freeL, inFieldB]
    rw [inR_no]; omega
theorem freeL_put {P xs : List Int} {n k j p : Nat} (hp : P.getD k 0 + j = p) : (freeL P xs n k j).set p false = freeL P xs n k (j + 1) := by
  apply List.ext_getElem
  · simp [freeL]
  · intro i h1 h2
    rw [List.getElem_set]
    split
    · rename_i e
      subst e
      simp only [freeL, List.getElem_map, List.getElem_range]
      rw [inR_yes (by omega) (by push_cast; omega)]
      simp
    · simp only [freeL, List.getElem_map, List.getElem_range]
      congr 2
      simp only [inR]
      congr 1
      apply decide_eq_decide.2
      push_cast
      omega
theorem freeL_next {P xs : List Int} {n k s : Nat} (hs : xs.getD k 0 = s) : freeL P xs n k s = freeL P xs n (k + 1) 0 := by
  apply List.ext_getElem
  · simp [freeL]
  · intro i h1 h2
    simp only [freeL, List.getElem_map, List.getElem_range, inFieldB_succ, hs]
    congr 1
    have : inR (i : Int) (P.getD (k + 1) 0) (P.getD (k + 1) 0 + ((0 : Nat) : Int) - 1) = false := inR_no (by omega)
    rw [this, Bool.or_false]
theorem freeL_at {P xs : List Int} {n k : Nat} {y : Nat} (hy : y < n) : (freeL P xs n k 0)[y]? = some (!inFieldB P xs y k) := by
  have : inR (y : Int) (P.getD k 0) (P.getD k 0 + ((0 : Nat) : Int) - 1) = false := inR_no (by omega)
  simp only [freeL, List.getElem?_map, List.getElem?_range hy, Option.map_some, this, Bool.or_false]
end Go.Proofs.Ytmiamnaholnnoaa
