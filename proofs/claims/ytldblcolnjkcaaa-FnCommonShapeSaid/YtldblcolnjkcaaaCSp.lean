/- The common shape, plain. No conditions. -/
import Derived.Test.YtldblcolnjkcaaaZ2
import Derived.Test.YtldblcolnjkcaaaNVp
namespace Go.Proofs.Ytldblcolnjkcaaa
open Go.RowKit

/-- The extent of a dimension from the last one on. -/
def extR (s : List Int) (i : Nat) : Int := if i < s.length then s.getD (s.length - 1 - i) 0 else 1
def joinE (x y : Int) : Int := if x = 1 then y else x
def fitE (x y : Int) : Bool := x == y || x == 1 || y == 1
def cmN (a b : List Int) : Nat := if a.length < b.length then b.length else a.length
def cmAt (a b : List Int) (i : Nat) : Int := joinE (extR a i) (extR b i)
/-- The row after k dimensions, from the last one on. -/
def cmP (a b : List Int) (k : Nat) : List Int := (List.range (cmN a b)).map fun j => if cmN a b - 1 - j < k then cmAt a b (cmN a b - 1 - j) else 0
def fitA (a b : List Int) (i : Nat) : Bool := fitE (extR a i) (extR b i)
def okCommon (a b : List Int) : Bool := isShapeL a && isShapeL b && (List.range (cmN a b)).all (fitA a b) && isShapeL (cmP a b (cmN a b))
def commonL (a b : List Int) : List Int := if okCommon a b then cmP a b (cmN a b) else []

/-- What a function that returns a new list and whether it did it leaves. -/
def RetListB (w : World) (xs : List Int) (b : Bool) (e : Ending) (w' : World) : Prop := ∃ r, e = .returned (.tuple #[r, .bool b]) ∧ Own w' w.heap.size r xs ∧ Below w.heap.size w w'

theorem cmP_length (a b : List Int) (k : Nat) : (cmP a b k).length = cmN a b := by simp [cmP]
theorem cmP_zero (a b : List Int) : cmP a b 0 = List.replicate (cmN a b) 0 := by
  apply List.ext_getElem
  · simp [cmP]
  · intro i h1 h2; simp [cmP]
theorem cmP_put {a b : List Int} {k : Nat} (hk : k < cmN a b) : (cmP a b k).set (cmN a b - 1 - k) (cmAt a b k) = cmP a b (k + 1) := by
  apply List.ext_getElem
  · simp [cmP]
  · intro i h1 h2
    simp only [cmP, List.length_set, List.length_map, List.length_range] at h1
    rw [List.getElem_set]
    simp only [cmP, List.getElem_map, List.getElem_range]
    split
    · rename_i e
      subst e
      rw [if_pos (by omega)]
      congr 1
      omega
    · rename_i e
      by_cases h : cmN a b - 1 - i < k
      · rw [if_pos h, if_pos (by omega)]
      · rw [if_neg h, if_neg (by omega)]
theorem cmN_comm (a b : List Int) : cmN a b = cmN b a := by unfold cmN; split <;> split <;> omega
theorem fitE_comm (x y : Int) : fitE x y = fitE y x := by
  rw [Bool.eq_iff_iff]
  simp only [fitE, Bool.or_eq_true, beq_iff_eq]
  omega
theorem joinE_comm {x y : Int} (h : fitE x y = true) : joinE x y = joinE y x := by
  simp only [fitE, Bool.or_eq_true, beq_iff_eq] at h
  unfold joinE
  split <;> split <;> omega
theorem cm_comm {a b : List Int} (h : (List.range (cmN a b)).all (fitA a b) = true) : cmP a b (cmN a b) = cmP b a (cmN b a) := by
  rw [← cmN_comm a b]
  apply List.ext_getElem
  · simp [cmP, cmN_comm a b]
  · intro i h1 h2
    simp only [cmP, List.length_map, List.length_range] at h1
    simp only [cmP, List.getElem_map, List.getElem_range]
    rw [← cmN_comm a b]
    split
    · rename_i hi
      exact joinE_comm (List.all_eq_true.1 h _ (List.mem_range.2 hi))
    · rfl
theorem okCommon_parts {a b : List Int} (h : okCommon a b = true) : isShapeL a = true ∧ isShapeL b = true ∧ (∀ i, i < cmN a b → fitA a b i = true) ∧ isShapeL (commonL a b) = true ∧ commonL a b = cmP a b (cmN a b) := by
  have e : commonL a b = cmP a b (cmN a b) := by simp [commonL, h]
  rw [e]
  simp only [okCommon, Bool.and_eq_true] at h
  exact ⟨h.1.1.1, h.1.1.2, fun i hi => List.all_eq_true.1 h.1.2 i (List.mem_range.2 hi), h.2, rfl⟩
theorem common_comm {a b : List Int} (h : okCommon a b = true) : okCommon b a = true ∧ commonL b a = commonL a b := by
  obtain ⟨h1, h2, h3, h4, h5⟩ := okCommon_parts h
  have hc := cm_comm (a := a) (b := b) (List.all_eq_true.2 fun i hi => h3 i (List.mem_range.1 hi))
  have hk : okCommon b a = true := by
    simp only [okCommon, Bool.and_eq_true]
    refine ⟨⟨⟨h2, h1⟩, List.all_eq_true.2 fun i hi => ?_⟩, by rw [← hc, ← h5]; exact h4⟩
    have := h3 i (by rw [cmN_comm]; exact List.mem_range.1 hi)
    unfold fitA at this ⊢
    rw [fitE_comm]; exact this
  exact ⟨hk, by rw [(okCommon_parts hk).2.2.2.2, h5, hc]⟩
theorem extR_at {s : List Int} {i : Nat} (hi : i < s.length) : extR s (s.length - 1 - i) = s[i] := by
  unfold extR
  rw [if_pos (by omega)]
  have : s.length - 1 - (s.length - 1 - i) = i := by omega
  rw [this]
  simp [hi]
theorem common_self {s : List Int} (h : isShapeL s = true) : okCommon s s = true ∧ commonL s s = s := by
  have hn : cmN s s = s.length := by simp [cmN]
  have hc : cmP s s (cmN s s) = s := by
    rw [hn]
    apply List.ext_getElem
    · simp [cmP, hn]
    · intro i h1 h2
      simp only [cmP, List.getElem_map, List.getElem_range, hn]
      rw [if_pos (by omega)]
      unfold cmAt joinE
      rw [extR_at h2]
      split <;> rfl
  have hk : okCommon s s = true := by
    simp only [okCommon, Bool.and_eq_true]
    exact ⟨⟨⟨h, h⟩, List.all_eq_true.2 fun i _ => by simp [fitA, fitE]⟩, by rw [hc]; exact h⟩
  exact ⟨hk, by rw [(okCommon_parts hk).2.2.2.2, hc]⟩
theorem common_spread {a b : List Int} (h : okCommon a b = true) : okSpread (newL a) (commonL a b) = true := by
  obtain ⟨h1, h2, h3, h4, h5⟩ := okCommon_parts h
  have hn : a.length ≤ cmN a b := by unfold cmN; split <;> omega
  have hl : (commonL a b).length = cmN a b := by rw [h5, cmP_length]
  simp only [okSpread, Bool.and_eq_true, decide_eq_true_eq, newL_shape h1]
  refine ⟨⟨⟨newL_valid h1, h4⟩, by omega⟩, List.all_eq_true.2 fun i hi => ?_⟩
  have hi := List.mem_range.1 hi
  have hb : cmN a b - a.length + i < (commonL a b).length := by omega
  have e1 : a.getD i 0 = a[i] := by simp [hi]
  have e2 : (commonL a b).getD (cmN a b - a.length + i) 0 = cmAt a b (a.length - 1 - i) := by
    rw [h5]
    have hb' : cmN a b - a.length + i < (cmP a b (cmN a b)).length := by rw [cmP_length]; omega
    rw [List.getD_eq_getElem?_getD, List.getElem?_eq_getElem hb']
    simp only [Option.getD_some, cmP, List.getElem_map, List.getElem_range]
    have hj : cmN a b - 1 - (cmN a b - a.length + i) = a.length - 1 - i := by omega
    rw [hj, if_pos (by omega)]
  simp only [fitAt, ahead, newL_shape h1, hl, e1, e2, cmAt, extR_at hi, joinE, Bool.or_eq_true, beq_iff_eq]
  by_cases h1 : a[i] = 1
  · exact Or.inr h1
  · rw [if_neg h1]; exact Or.inl rfl

end Go.Proofs.Ytldblcolnjkcaaa
