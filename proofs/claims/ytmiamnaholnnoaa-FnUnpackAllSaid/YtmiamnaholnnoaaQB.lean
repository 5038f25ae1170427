/- Formats, plain: items as bytes. Conditions: none. -/
import Derived.Test.YtmiamnaholnnoaaQA
namespace Go.Proofs.Ytmiamnaholnnoaa
open Go.RowKit

def byteL (x : Int) (i : Nat) : Int := x / 256 ^ i % 256
def bytesLE (x : Int) (s : Nat) : List Int := (List.range s).map (byteL x)
def bytesF (big : Bool) (x : Int) (s : Nat) : List Int := if big then (bytesLE x s).reverse else bytesLE x s
theorem bytesLE_length (x : Int) (s : Nat) : (bytesLE x s).length = s := by simp [bytesLE]
theorem bytesF_length (b : Bool) (x : Int) (s : Nat) : (bytesF b x s).length = s := by cases b <;> simp [bytesF, bytesLE]
theorem bytesLE_succ (x : Int) (s : Nat) : bytesLE x (s + 1) = bytesLE x s ++ [byteL x s] := by simp [bytesLE, List.range_succ]
theorem bytesLE_at (x : Int) (s i : Nat) (h : i < s) : (bytesLE x s)[i]? = some (byteL x i) := by simp [bytesLE, h]
theorem bytesBE_at (x : Int) (s i : Nat) (h : i < s) : ((bytesLE x s).reverse)[s - 1 - i]? = some (byteL x i) := by
  rw [List.getElem?_reverse (by simp [bytesLE]; omega)]
  simp only [bytesLE_length]
  rw [show s - 1 - (s - 1 - i) = i by omega]
  exact bytesLE_at x s i h
/-- A row with some cells overwritten. -/
def putAt (out : List Int) (p : Nat) (bs : List Int) : List Int := out.take p ++ bs ++ out.drop (p + bs.length)
theorem putAt_nil (out : List Int) (p : Nat) : putAt out p [] = out := by simp [putAt]
theorem putAt_length {out : List Int} {p : Nat} {bs : List Int} (h : p + bs.length ≤ out.length) : (putAt out p bs).length = out.length := by
  simp [putAt]; omega
theorem putAt_getElem? {out : List Int} {p : Nat} {bs : List Int} (h : p + bs.length ≤ out.length) (i : Nat) :
    (putAt out p bs)[i]? = if p ≤ i ∧ i < p + bs.length then bs[i - p]? else out[i]? := by
  unfold putAt
  rcases Nat.lt_or_ge i p with h1 | h1
  · rw [if_neg (by omega), List.getElem?_append_left (by simp; omega), List.getElem?_append_left (by simp; omega), List.getElem?_take, if_pos h1]
  · rcases Nat.lt_or_ge i (p + bs.length) with h2 | h2
    · rw [if_pos ⟨h1, h2⟩, List.getElem?_append_left (by simp; omega), List.getElem?_append_right (by simp; omega)]
      simp [Nat.min_eq_left (show p ≤ out.length by omega)]
    · rw [if_neg (by omega), List.getElem?_append_right (by simp; omega), List.getElem?_drop]
      congr 1
      simp; omega
/-- One byte more, upwards. -/
theorem putAt_up {out : List Int} {p : Nat} {bs : List Int} {j : Nat} {b : Int} (h : p + bs.length ≤ out.length) (hb : bs[j]? = some b) :
    (putAt out p (bs.take j)).set (p + j) b = putAt out p (bs.take (j + 1)) := by
  have hj := (List.getElem?_eq_some_iff.1 hb).1
  apply List.ext_getElem?
  intro i
  rw [List.getElem?_set, putAt_length (by simp; omega), putAt_getElem? (by simp; omega), putAt_getElem? (by simp; omega)]
  simp only [List.length_take, Nat.min_eq_left (show j ≤ bs.length by omega), Nat.min_eq_left (show j + 1 ≤ bs.length by omega), List.getElem?_take]
  by_cases h1 : p + j = i
  · subst h1
    rw [if_pos rfl, if_pos (by omega), if_pos (by omega), if_pos (by omega), Nat.add_sub_cancel_left, hb]
  · rw [if_neg h1]
    by_cases h2 : p ≤ i ∧ i < p + j
    · rw [if_pos h2, if_pos (by omega), if_pos (by omega), if_pos (by omega)]
    · rw [if_neg h2, if_neg (by omega)]
/-- One byte more, downwards. -/
theorem putAt_down {out : List Int} {p : Nat} {bs : List Int} {j : Nat} {b : Int} (h : p + bs.length ≤ out.length) (hj : j < bs.length) (hb : bs[bs.length - 1 - j]? = some b) :
    (putAt out (p + (bs.length - j)) (bs.drop (bs.length - j))).set (p + bs.length - 1 - j) b = putAt out (p + (bs.length - (j + 1))) (bs.drop (bs.length - (j + 1))) := by
  apply List.ext_getElem?
  intro i
  rw [List.getElem?_set, putAt_length (by simp; omega), putAt_getElem? (by simp; omega), putAt_getElem? (by simp; omega)]
  simp only [List.length_drop, List.getElem?_drop]
  by_cases h1 : p + bs.length - 1 - j = i
  · subst h1
    rw [if_pos rfl, if_pos (by omega), if_pos (by omega), ← hb]
    congr 1
    omega
  · rw [if_neg h1]
    by_cases h2 : p + (bs.length - j) ≤ i ∧ i < p + bs.length
    · rw [if_pos (by omega), if_pos (by omega)]
      congr 1
      omega
    · rw [if_neg (by omega), if_neg (by omega)]
/-- Item bytes after k fields. -/
def packTo (P xs vs : List Int) (big : Bool) (n : Nat) : Nat → List Int
  | 0 => List.replicate n 0
  | k + 1 => putAt (packTo P xs vs big n k) (P.getD k 0).toNat (bytesF big (vs.getD k 0) (xs.getD k 0).toNat)
def packL (F : FL) (vs : List Int) : List Int := packTo (psF F) F.sizes vs F.big (sizeF F).toNat F.sizes.length
theorem packTo_length {F : FL} (h : isFormatL F = true) (vs : List Int) (k : Nat) (hk : k ≤ F.sizes.length) : (packTo (psF F) F.sizes vs F.big (sizeF F).toNat k).length = (sizeF F).toNat := by
  induction k with
  | zero => simp [packTo]
  | succ k ih =>
    have h1 := psF_in h k (by omega)
    have e : F.sizes.getD k 0 = F.sizes[k] := by simp [show k < F.sizes.length by omega]
    unfold packTo
    rw [putAt_length (by rw [ih (by omega), bytesF_length, e]; omega), ih (by omega)]
/-- The numbers that a field holds. -/
def okItem (F : FL) (vs : List Int) : Bool := decide (vs.length = F.sizes.length) && (List.range F.sizes.length).all fun k => inR (vs.getD k 0) 0 (256 ^ (F.sizes.getD k 0).toNat - 1)
def packedL (F : FL) (vs : List Int) : List Int := if isFormatL F && okItem F vs then packL F vs else []
theorem packedL_len (F : FL) (vs : List Int) : (packedL F vs).length ≤ 60 := by
  unfold packedL
  split
  · rename_i h
    simp only [Bool.and_eq_true] at h
    have := size_bd h.1
    unfold packL
    rw [packTo_length h.1 vs _ (Nat.le_refl _)]
    omega
  · simp
/-- The number of bytes, lowest first. -/
def numLE (bs : List Int) : Int := bs.foldr (fun b n => b + 256 * n) 0
theorem numLE_snoc (bs : List Int) (b : Int) : numLE (bs ++ [b]) = numLE bs + b * 256 ^ bs.length := by
  induction bs with
  | nil => simp [numLE]
  | cons a t ih =>
    simp only [numLE, List.cons_append, List.foldr_cons, List.length_cons] at *
    rw [ih, Int.pow_succ, Int.mul_add, Int.mul_comm (256 ^ t.length) 256, ← Int.mul_assoc, ← Int.mul_assoc, Int.mul_comm 256 b]
    omega
def numBE (bs : List Int) : Int := bs.foldl (fun n b => 256 * n + b) 0
theorem numBE_snoc (bs : List Int) (b : Int) : numBE (bs ++ [b]) = 256 * numBE bs + b := by simp [numBE]
theorem numBE_rev (bs : List Int) : numBE bs.reverse = numLE bs := by
  unfold numBE numLE
  rw [List.foldl_reverse]
  congr 1
  funext b n
  omega
def numF (big : Bool) (bs : List Int) : Int := if big then numLE bs.reverse else numLE bs
theorem numF_BE (big : Bool) (bs : List Int) : numF big bs = numBE (if big then bs else bs.reverse) := by
  cases big
  · simp [numF, numBE_rev]
  · simp only [numF, if_true]
    rw [← numBE_rev, List.reverse_reverse]
def isByte (x : Int) : Bool := inR x 0 255
theorem numLE_bd (bs : List Int) (h : ∀ b ∈ bs, 0 ≤ b ∧ b ≤ 255) : 0 ≤ numLE bs ∧ numLE bs < 256 ^ bs.length := by
  induction bs with
  | nil => simp [numLE]
  | cons a t ih =>
    have h1 := ih fun b hb => h b (List.mem_cons_of_mem _ hb)
    have h2 := h a (List.mem_cons_self ..)
    simp only [numLE, List.foldr_cons, List.length_cons] at *
    rw [Int.pow_succ]
    omega
def fieldL (bs : List Int) (p s : Nat) : List Int := (bs.drop p).take s
theorem fieldL_length {bs : List Int} {p s : Nat} (h : p + s ≤ bs.length) : (fieldL bs p s).length = s := by simp [fieldL]; omega
def unpackTo (P xs bs : List Int) (big : Bool) (k : Nat) : List Int := (List.range k).map fun i => numF big (fieldL bs (P.getD i 0).toNat (xs.getD i 0).toNat)
theorem unpackTo_succ (P xs bs : List Int) (big : Bool) (k : Nat) : unpackTo P xs bs big (k + 1) = unpackTo P xs bs big k ++ [numF big (fieldL bs (P.getD k 0).toNat (xs.getD k 0).toNat)] := by
  simp [unpackTo, List.range_succ]
def unpackL (F : FL) (bs : List Int) : List Int := unpackTo (psF F) F.sizes bs F.big F.sizes.length
def okBytes (F : FL) (bs : List Int) : Bool := isFormatL F && decide ((bs.length : Int) = sizeF F) && bs.all isByte
def unpackedL (F : FL) (bs : List Int) : List Int := if okBytes F bs then unpackL F bs else []
theorem unpackedL_len (F : FL) (bs : List Int) : (unpackedL F bs).length ≤ 60 := by
  unfold unpackedL
  split
  · rename_i h
    simp only [okBytes, Bool.and_eq_true] at h
    have := isFormat_iff.1 h.1.1
    simp [unpackL, unpackTo]; omega
  · simp
end Go.Proofs.Ytmiamnaholnnoaa
