/- The extents of labels, plain. No conditions. -/
import Derived.Test.YtldblcolnjkcaaaTN1
namespace Go.Proofs.Ytldblcolnjkcaaa
open Go.RowKit

def isLabel (x : Int) : Bool := inR x 0 4
/-- What d dimensions of a tensor leave of the extents. -/
def extD (o : List Int) (ls shape : List Int) : Nat → Option (List Int)
  | 0 => some o
  | d + 1 => (extD o ls shape d).bind fun o => if 0 ≤ o.getD (ls.getD d 0).toNat 0 ∧ o.getD (ls.getD d 0).toNat 0 ≠ shape.getD d 0 then none else some (o.set (ls.getD d 0).toNat (shape.getD d 0))
def fitT (T : TL) (ls : List Int) : Bool := decide (ls.length = T.shape.length) && ls.all isLabel
def extT (o : List Int) (T : TL) (ls : List Int) : Option (List Int) := if fitT T ls then extD o ls T.shape ls.length else none
def ext0 : List Int := List.replicate 5 (-1)
/-- What k tensors leave. -/
def extTo (xs : List TL) (lss : List (List Int)) : Nat → Option (List Int)
  | 0 => some ext0
  | k + 1 => (extTo xs lss k).bind fun o => extT o (xs.getD k ⟨[], []⟩) (lss.getD k [])
def okTs (xs : List TL) (lss : List (List Int)) : Bool := xs.all isTensorL && (decide (1 ≤ xs.length) && decide (xs.length ≤ 3)) && decide (lss.length = xs.length)
def extentsR (xs : List TL) (lss : List (List Int)) : Option (List Int) := if okTs xs lss then extTo xs lss xs.length else none
def extentsL (xs : List TL) (lss : List (List Int)) : List Int := (extentsR xs lss).getD []
def okExtents (xs : List TL) (lss : List (List Int)) : Bool := (extentsR xs lss).isSome

theorem extD_length {o ls shape : List Int} {d : Nat} {r : List Int} (h : extD o ls shape d = some r) : r.length = o.length := by
  induction d generalizing r with
  | zero => simp [extD] at h; rw [h]
  | succ d ih =>
    simp only [extD, Option.bind_eq_some_iff] at h
    obtain ⟨q, hq, h⟩ := h
    split at h
    · cases h
    · rw [← Option.some.inj h, List.length_set]; exact ih hq
theorem extD_none {o ls shape : List Int} {d e : Nat} (h : extD o ls shape d = none) (hd : d ≤ e) : extD o ls shape e = none := by
  induction e with
  | zero => (obtain rfl : d = 0 := (by omega)); exact h
  | succ e ih =>
    rcases Nat.lt_or_ge e d with h1 | h1
    · (obtain rfl : d = e + 1 := (by omega)); exact h
    · simp [extD, ih h1]
theorem extT_length {o : List Int} {T : TL} {ls r : List Int} (h : extT o T ls = some r) : r.length = o.length := by
  unfold extT at h
  split at h
  · exact extD_length h
  · cases h
theorem extTo_length {xs : List TL} {lss : List (List Int)} {k : Nat} {r : List Int} (h : extTo xs lss k = some r) : r.length = 5 := by
  induction k generalizing r with
  | zero => simp [extTo, ext0] at h; rw [← h]; rfl
  | succ k ih =>
    simp only [extTo, Option.bind_eq_some_iff] at h
    obtain ⟨q, hq, h⟩ := h
    rw [extT_length h]; exact ih hq
theorem extTo_none {xs : List TL} {lss : List (List Int)} {k e : Nat} (h : extTo xs lss k = none) (hd : k ≤ e) : extTo xs lss e = none := by
  induction e with
  | zero => (obtain rfl : k = 0 := (by omega)); exact h
  | succ e ih =>
    rcases Nat.lt_or_ge e k with h1 | h1
    · (obtain rfl : k = e + 1 := (by omega)); exact h
    · simp [extTo, ih h1]
theorem extentsR_no {xs : List TL} {lss : List (List Int)} (h : okTs xs lss = false) : extentsR xs lss = none := by simp [extentsR, h]
theorem extentsR_cut {xs : List TL} {lss : List (List Int)} {k : Nat} (h : extTo xs lss k = none) (hk : k ≤ xs.length) : extentsR xs lss = none := by
  unfold extentsR
  split
  · exact extTo_none h hk
  · rfl
theorem no_extents {xs : List TL} {lss : List (List Int)} (h : extentsR xs lss = none) : extentsL xs lss = [] ∧ okExtents xs lss = false := by simp [extentsL, okExtents, h]
theorem yes_extents {xs : List TL} {lss : List (List Int)} {r : List Int} (h : extentsR xs lss = some r) : extentsL xs lss = r ∧ okExtents xs lss = true := by simp [extentsL, okExtents, h]
theorem extentsL_len (xs : List TL) (lss : List (List Int)) : (extentsL xs lss).length ≤ 5 := by
  unfold extentsL
  cases h : extentsR xs lss with
  | none => simp
  | some r =>
    unfold extentsR at h
    split at h
    · simp [extTo_length h]
    · cases h
/-- A tensor whose labels don't fit. -/
theorem extTo_bad {xs : List TL} {lss : List (List Int)} {k : Nat} {o : List Int} (h : extTo xs lss k = some o) (hx : k < xs.length) (hl : k < lss.length) (hf : fitT xs[k] lss[k] = false) : extTo xs lss (k + 1) = none := by
  simp [extTo, h, hx, hl, extT, hf]
/-- One that fits: its dimensions. -/
theorem extTo_fit {xs : List TL} {lss : List (List Int)} {k : Nat} {o : List Int} (h : extTo xs lss k = some o) (hx : k < xs.length) (hl : k < lss.length) (hf : fitT xs[k] lss[k] = true) : extTo xs lss (k + 1) = extD o lss[k] xs[k].shape lss[k].length := by
  simp [extTo, h, hx, hl, extT, hf]
theorem extD_bad {o ls shape r : List Int} {d l : Nat} (h : extD o ls shape d = some r) (hd : d < ls.length) (hs : d < shape.length) (hl : ls[d] = (l : Int)) (hr : l < r.length) (h0 : 0 ≤ r[l]) (h1 : r[l] ≠ shape[d]) : extD o ls shape (d + 1) = none := by
  simp [extD, h, hd, hs, hl, hr, h0, h1]
theorem extD_next {o ls shape r : List Int} {d l : Nat} (h : extD o ls shape d = some r) (hd : d < ls.length) (hs : d < shape.length) (hl : ls[d] = (l : Int)) (hr : l < r.length) (h1 : ¬ 0 ≤ r[l] ∨ r[l] = shape[d]) : extD o ls shape (d + 1) = some (r.set l shape[d]) := by
  simp only [extD, h, Option.bind_some]
  have e1 : (ls.getD d 0).toNat = l := by simp [hd, hl]
  have e2 : shape.getD d 0 = shape[d] := by simp [hs]
  have e3 : r.getD l 0 = r[l] := by simp [hr]
  rw [e1, e2, e3, if_neg (by omega)]
theorem fitT_and {T : TL} {ls : List Int} (h : fitT T ls = true) : ls.length = T.shape.length ∧ ∀ x ∈ ls, 0 ≤ x ∧ x ≤ 4 := by
  simp only [fitT, Bool.and_eq_true, decide_eq_true_eq, List.all_eq_true, isLabel, inR] at h
  exact h

end Go.Proofs.Ytldblcolnjkcaaa
