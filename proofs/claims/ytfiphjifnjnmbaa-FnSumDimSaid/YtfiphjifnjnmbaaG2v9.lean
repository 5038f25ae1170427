/- Orders of dimensions: plain. No conditions. -/
import Derived.Test.YtfiphjifnjnmbaaE1v9
import Derived.Test.YtfiphjifnjnmbaaG1
namespace Go.Proofs.Ytfiphjifnjnmbaa
open Go.RowKit

def orderL (xs : List Int) (n : Nat) : Bool := decide (xs.length = n) && xs.all (inR · 0 ((n : Int) - 1)) && diffL xs
def permV (V : VL) (O : List Int) : VL := ⟨V.base, pickN V.shape (O.map Int.toNat), pickN V.strides (O.map Int.toNat)⟩
def sumI (xs : List Int) : Int := xs.foldr (· + ·) 0
theorem sumI_perm {xs ys : List Int} (h : xs.Perm ys) : sumI xs = sumI ys := by
  induction h with
  | nil => rfl
  | cons x _ ih => simp only [sumI, List.foldr_cons] at ih ⊢; rw [ih]
  | swap x y l => simp only [sumI, List.foldr_cons]; omega
  | trans _ _ h1 h2 => exact h1.trans h2
theorem prodI_perm {xs ys : List Int} (h : xs.Perm ys) : prodI xs = prodI ys := by
  induction h with
  | nil => rfl
  | cons x _ ih => simp only [prodI, ih]
  | swap x y l => simp only [prodI]; rw [← Int.mul_assoc, ← Int.mul_assoc, Int.mul_comm y x]
  | trans _ _ h1 h2 => exact h1.trans h2
theorem loS_sum (f : Nat → Int) (g : Nat → Int) (P : List Nat) : loS (P.map f) (P.map g) = sumI (P.map fun i => min 0 ((f i - 1) * g i)) := by
  induction P with
  | nil => rfl
  | cons p ps ih => simp only [List.map_cons, loS, ih, sumI, List.foldr_cons]
theorem hiS_sum (f : Nat → Int) (g : Nat → Int) (P : List Nat) : hiS (P.map f) (P.map g) = sumI (P.map fun i => max 0 ((f i - 1) * g i)) := by
  induction P with
  | nil => rfl
  | cons p ps ih => simp only [List.map_cons, hiS, ih, sumI, List.foldr_cons]
theorem few : ∀ (n : Nat) (l : List Nat), l.Nodup → (∀ x ∈ l, x < n) → l.length ≤ n
  | 0, l, _, h => by cases l with | nil => simp | cons x xs => have := h x List.mem_cons_self; omega
  | n + 1, l, hn, h => by
    by_cases hm : n ∈ l
    · have := few n (l.erase n) (hn.erase n) fun x hx => by
        have h1 := (hn.mem_erase_iff.1 hx)
        have := h x h1.2
        have := h1.1
        omega
      rw [List.length_erase_of_mem hm] at this
      omega
    · have := few n l hn fun x hx => by
        have := h x hx
        have : x ≠ n := fun e => hm (e ▸ hx)
        omega
      omega
theorem perm_range : ∀ (n : Nat) (l : List Nat), l.Nodup → (∀ x ∈ l, x < n) → l.length = n → l.Perm (List.range n)
  | 0, l, _, _, hl => by have : l = [] := List.length_eq_zero_iff.1 hl; subst this; exact List.Perm.refl _
  | n + 1, l, hn, h, hl => by
    have hm : n ∈ l := Classical.byContradiction fun hm => by
      have := few n l hn fun x hx => by
        have := h x hx
        have : x ≠ n := fun e => hm (e ▸ hx)
        omega
      omega
    have h1 := perm_range n (l.erase n) (hn.erase n) (fun x hx => by
        have h1 := (hn.mem_erase_iff.1 hx)
        have := h x h1.2
        have := h1.1
        omega) (by rw [List.length_erase_of_mem hm]; omega)
    rw [List.range_succ]
    exact ((List.perm_cons_erase hm).trans (h1.cons n)).trans (List.perm_append_singleton n _).symm
theorem diff_nodup {xs : List Int} (h : diffL xs = true) : ∀ i j (hi : i < xs.length) (hj : j < xs.length), i < j → xs[i] ≠ xs[j] := by
  intro i j hi hj hij e
  simp only [diffL, diffTo, List.all_eq_true, List.mem_range] at h
  have h1 := h j hj
  simp only [freshAt, Bool.not_eq_true', List.getD_eq_getElem?_getD, List.getElem?_eq_getElem hj, Option.getD_some] at h1
  rw [List.contains_eq_mem, decide_eq_false_iff_not] at h1
  apply h1
  rw [← e, List.mem_take_iff_getElem]
  exact ⟨i, by omega, rfl⟩
theorem order_perm {O : List Int} {n : Nat} (h : orderL O n = true) : (O.map Int.toNat).Perm (List.range n) := by
  simp only [orderL, Bool.and_eq_true, decide_eq_true_eq, List.all_eq_true, inR_iff] at h
  obtain ⟨⟨h1, h2⟩, h3⟩ := h
  have hd := diff_nodup h3
  apply perm_range
  · rw [List.nodup_iff_pairwise_ne, List.pairwise_iff_getElem]
    intro i j hi hj hij
    simp only [List.length_map] at hi hj
    simp only [List.getElem_map]
    have := hd i j hi hj hij
    have := h2 _ (List.getElem_mem hi)
    have := h2 _ (List.getElem_mem hj)
    omega
  · intro x hx
    obtain ⟨y, hy, rfl⟩ := List.mem_map.1 hx
    have := h2 y hy
    omega
  · simpa using h1
theorem map_range_getD (xs : List Int) (n : Nat) (h : xs.length = n) : (List.range n).map (fun i => xs.getD i 0) = xs := by
  subst h
  apply List.ext_getElem
  · simp
  · intro i h1 h2
    simp [h2]
theorem permV_valid {V : VL} {O : List Int} (h : isViewL V = true) (ho : orderL O V.shape.length = true) : isViewL (permV V O) = true := by
  have hp := order_perm ho
  rw [valid_iff] at h ⊢
  obtain ⟨h1, h2, h3, h4, h5⟩ := h
  have ps : (permV V O).shape.Perm V.shape := by
    have := hp.map fun i => V.shape.getD i 0
    rwa [map_range_getD V.shape _ rfl] at this
  have pt : (permV V O).strides.Perm V.strides := by
    have := hp.map fun i => V.strides.getD i 0
    rwa [map_range_getD V.strides _ h2] at this
  obtain ⟨s1, s2, s3⟩ := shape_ext h1
  have q1 : (permV V O).shape.length ≤ 4 := by rw [ps.length_eq]; exact s1
  have q2 : ∀ x ∈ (permV V O).shape, 0 ≤ x ∧ x ≤ 60 := fun x hx => s2 x (ps.mem_iff.1 hx)
  have q3 := prodI_perm ps
  refine ⟨?_, ?_, h3, fun x hx => h4 x (pt.mem_iff.1 hx), ?_⟩
  · have a := (shape_prod h1)
    have b := prodW_eq q1 q2
    simp only [isShapeL, Bool.and_eq_true, decide_eq_true_eq, List.all_eq_true, okExt, inR_iff]
    exact ⟨⟨q1, q2⟩, by rw [b.1, q3]; exact a.2.2⟩
  · rw [ps.length_eq, pt.length_eq, h2]
  · rw [q3]
    rcases h5 with h5 | h5
    · exact .inl h5
    · refine .inr ?_
      have e1 : loS (permV V O).shape (permV V O).strides = loS V.shape V.strides := by
        have a := loS_sum (fun i => V.shape.getD i 0) (fun i => V.strides.getD i 0) (List.range V.shape.length)
        rw [map_range_getD V.shape _ rfl, map_range_getD V.strides _ h2] at a
        rw [a]
        refine (loS_sum (fun i => V.shape.getD i 0) (fun i => V.strides.getD i 0) (O.map Int.toNat)).trans ?_
        exact sumI_perm (hp.map _)
      have e2 : hiS (permV V O).shape (permV V O).strides = hiS V.shape V.strides := by
        have a := hiS_sum (fun i => V.shape.getD i 0) (fun i => V.strides.getD i 0) (List.range V.shape.length)
        rw [map_range_getD V.shape _ rfl, map_range_getD V.strides _ h2] at a
        rw [a]
        refine (hiS_sum (fun i => V.shape.getD i 0) (fun i => V.strides.getD i 0) (O.map Int.toNat)).trans ?_
        exact sumI_perm (hp.map _)
      rw [e1, e2]
      exact h5
def permL (V : VL) (O : List Int) : VL := if isViewL V && orderL O V.shape.length then permV V O else VL.zero
def permB (V : VL) (O : List Int) : Bool := isViewL V && orderL O V.shape.length
theorem pickN_len (xs : List Int) (P : List Nat) : (pickN xs P).length = P.length := by simp [pickN]
theorem permL_len (V : VL) (O : List Int) : (permL V O).shape.length ≤ 60 ∧ (permL V O).strides.length ≤ 60 := by
  unfold permL
  split
  · rename_i h
    simp only [Bool.and_eq_true] at h
    have := isViewL_lens (permV_valid h.1 h.2)
    omega
  · simp [VL.zero]

end Go.Proofs.Ytfiphjifnjnmbaa
