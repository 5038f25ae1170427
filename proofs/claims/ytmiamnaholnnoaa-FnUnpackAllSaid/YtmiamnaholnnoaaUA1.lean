/- UnpackAll, plain. No conditions. -/
import Derived.Test.YtmiamnaholnnoaaQB
import Derived.Test.YtmiamnaholnnoaaLL
namespace Go.Proofs.Ytmiamnaholnnoaa
open Go.RowKit

def okUA (F : FL) (bs : List Int) : Bool := isFormatL F && isMemL bs && decide (bs.length % (sizeF F).toNat = 0)
def itemsTo (F : FL) (bs : List Int) (n k : Nat) : List (List Int) := (List.range k).map fun i => unpackL F (fieldL bs (i * n) n)
theorem itemsTo_succ (F : FL) (bs : List Int) (n k : Nat) : itemsTo F bs n (k + 1) = itemsTo F bs n k ++ [unpackL F (fieldL bs (k * n) n)] := by simp [itemsTo, List.range_succ]
theorem itemsTo_length (F : FL) (bs : List Int) (n k : Nat) : (itemsTo F bs n k).length = k := by simp [itemsTo]
def unpackAllL (F : FL) (bs : List Int) : List (List Int) := if okUA F bs then itemsTo F bs (sizeF F).toNat (bs.length / (sizeF F).toNat) else []
theorem sum_bd (l : List Nat) (b : Nat) (h : ∀ x ∈ l, x ≤ b) : l.sum ≤ l.length * b := by
  induction l with
  | nil => simp
  | cons a t ih =>
    have h1 := h a (List.mem_cons_self ..)
    have h2 := ih fun x hx => h x (List.mem_cons_of_mem _ hx)
    rw [List.sum_cons, List.length_cons, Nat.succ_mul]
    omega
theorem unpackAllL_len (F : FL) (bs : List Int) : llSize (unpackAllL F bs) ≤ 1000 := by
  unfold unpackAllL
  split
  · rename_i h
    simp only [okUA, Bool.and_eq_true, decide_eq_true_eq] at h
    obtain ⟨⟨h1, h2⟩, h3⟩ := h
    have hs := size_bd h1
    have hf := (isFormat_iff.1 h1).2.1
    have hb : bs.length ≤ 60 := by simp [isMemL] at h2; exact h2.1
    have hd : bs.length / (sizeF F).toNat ≤ 60 := Nat.le_trans (Nat.div_le_self _ _) hb
    generalize bs.length / (sizeF F).toNat = m at *
    unfold llSize sumTo
    rw [List.take_length, itemsTo_length]
    have := sum_bd ((itemsTo F bs (sizeF F).toNat m).map List.length) 5 (fun x hx => by
      obtain ⟨ys, hy, rfl⟩ := List.mem_map.1 hx
      obtain ⟨i, _, rfl⟩ := List.mem_map.1 hy
      simp [unpackL, unpackTo]; exact hf)
    rw [List.length_map, itemsTo_length] at this
    omega
  · simp [llSize, sumTo]
end Go.Proofs.Ytmiamnaholnnoaa
