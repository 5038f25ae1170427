/- Orders of dimensions, as far as they have been looked at. No conditions. -/
import Derived.Test.YtldblcolnjkcaaaG2
namespace Go.Proofs.Ytldblcolnjkcaaa
open Go.RowKit

def okTo (O : List Int) (n k : Nat) : Bool := (O.take k).all (inR · 0 ((n : Int) - 1)) && diffTo O k
theorem okTo_snoc {O : List Int} {n k : Nat} (h : k < O.length) (h0 : okTo O n k = true) (h1 : 0 ≤ O[k]) (h2 : O[k] < n) (h3 : (O.take k).contains O[k] = false) : okTo O n (k + 1) = true := by
  simp only [okTo, Bool.and_eq_true] at h0 ⊢
  refine ⟨?_, ?_⟩
  · rw [all_snoc (inR · 0 ((n : Int) - 1)) O k h h0.1]
    exact inR_yes h1 (by omega)
  · rw [diffTo_snoc O k h0.2]
    simp only [freshAt, List.getD_eq_getElem?_getD, List.getElem?_eq_getElem h, Option.getD_some, h3, Bool.not_false]
theorem order_bad {O : List Int} {n k : Nat} (h : k < O.length) (h1 : O[k] < 0 ∨ (n : Int) ≤ O[k]) : orderL O n = false := by
  have := all_false (inR · 0 ((n : Int) - 1)) O k h (inR_no (by omega))
  simp [orderL, this]
theorem order_twice {O : List Int} {n k : Nat} (h : k < O.length) (h1 : (O.take k).contains O[k] = true) : orderL O n = false := by
  have := diffTo_false O k h (by simp only [freshAt, List.getD_eq_getElem?_getD, List.getElem?_eq_getElem h, Option.getD_some, h1, Bool.not_true])
  simp [orderL, this]
theorem order_good {O : List Int} {n : Nat} (hl : O.length = n) (h : okTo O n O.length = true) : orderL O n = true := by
  simp only [okTo, List.take_length, Bool.and_eq_true] at h
  simp only [orderL, hl, diffL, Bool.and_eq_true, decide_eq_true_eq]
  rw [hl] at h
  exact ⟨⟨trivial, h.1⟩, h.2⟩


end Go.Proofs.Ytldblcolnjkcaaa
