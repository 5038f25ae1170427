/- Contracts: offsets. No conditions. -/
import Derived.Test.YtmoejdnodhmglaaDoorBase
import Derived.Test.YtmoejdnodhmglaaDoorC1va
import Derived.Outline
import Derived.Deep.RegionHeld3
namespace Go.Proofs.YtmoejdnodhmglaaDoor
open Go.RowKit

/-- What the loop of indexAt keeps: from j on the list is the index; what is left of the rank. -/
def IdxRel (shape : List Int) (k : Int) (j : Nat) (q : Int) (xs : List Int) : Prop :=
  xs.length = shape.length ∧ (∀ t, j ≤ t → t < shape.length → xs[t]? = (unr shape k)[t]?) ∧ q = k / prodI (shape.drop j)
theorem IdxRel.start (shape : List Int) (k : Int) : IdxRel shape k shape.length k (List.replicate shape.length 0) :=
  ⟨by simp, fun t h1 h2 => by omega, by simp [prodI]⟩
theorem IdxRel.step {shape : List Int} {k q : Int} {m : Nat} {xs : List Int} (h : IdxRel shape k (m + 1) q xs) (hm : m < shape.length) (hpos : ∀ x ∈ shape, 1 ≤ x ∧ x ≤ 60) :
    IdxRel shape k m (q / shape[m]) (xs.set m (q % shape[m])) := by
  obtain ⟨h1, h2, h3⟩ := h
  refine ⟨by simpa using h1, fun t ht htl => ?_, ?_⟩
  · by_cases e : t = m
    · subst e
      rw [List.getElem?_set_self (by omega), unr_get shape k t hm, h3]
    · rw [List.getElem?_set_ne (by omega)]
      exact h2 t (by omega) htl
  · rw [h3, List.drop_eq_getElem_cons hm, prodI, Int.mul_comm]
    rw [Int.ediv_ediv_of_nonneg]
    have : ∀ l : List Int, (∀ x ∈ l, 1 ≤ x ∧ x ≤ 60) → 0 ≤ prodI l := by
      intro l
      induction l with
      | nil => intro _; simp [prodI]
      | cons x l ih =>
        intro hx
        have := ih (fun y hy => hx y (List.mem_cons_of_mem _ hy))
        have := (hx x List.mem_cons_self).1
        rw [prodI]
        exact Int.mul_nonneg (by omega) (by omega)
    exact this _ (fun x hx => hpos x (List.mem_of_mem_drop hx))
theorem IdxRel.end_ {shape : List Int} {k q : Int} {xs : List Int} (h : IdxRel shape k 0 q xs) : xs = unr shape k := by
  obtain ⟨h1, h2, _⟩ := h
  apply List.ext_getElem?
  intro t
  by_cases ht : t < shape.length
  · exact h2 t (Nat.zero_le _) ht
  · rw [List.getElem?_eq_none (by omega), List.getElem?_eq_none (by rw [unr_length]; omega)]
theorem IdxRel.q_bd {shape : List Int} {k q : Int} {j : Nat} {xs : List Int} (h : IdxRel shape k j q xs) (h0 : 0 ≤ k) (hpos : ∀ x ∈ shape, 1 ≤ x ∧ x ≤ 60) : 0 ≤ q ∧ q ≤ k := by
  obtain ⟨_, _, rfl⟩ := h
  have : ∀ l : List Int, (∀ x ∈ l, 1 ≤ x ∧ x ≤ 60) → 0 ≤ prodI l := by
    intro l
    induction l with
    | nil => intro _; simp [prodI]
    | cons x l ih =>
      intro hx
      have := ih (fun y hy => hx y (List.mem_cons_of_mem _ hy))
      have := (hx x List.mem_cons_self).1
      rw [prodI]
      exact Int.mul_nonneg (by omega) (by omega)
  have hp := this (shape.drop j) (fun x hx => hpos x (List.mem_of_mem_drop hx))
  exact ⟨Int.ediv_nonneg h0 hp, Int.ediv_le_self _ h0⟩

end Go.Proofs.YtmoejdnodhmglaaDoor
