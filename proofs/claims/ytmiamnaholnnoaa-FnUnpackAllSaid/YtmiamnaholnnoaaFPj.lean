/- Items, plain: PackAll and UnpackAll are each other's inverse. Conditions: none. -/
import Derived.Test.YtmiamnaholnnoaaFPi
import Derived.Test.YtmiamnaholnnoaaPA1
import Derived.Test.YtmiamnaholnnoaaUA1
namespace Go.Proofs.Ytmiamnaholnnoaa
open Go.RowKit

theorem chunk_at (s : Nat) (L : List (List Int)) (h : ∀ x ∈ L, x.length = s) (i : Nat) (hi : i < L.length) : (L.flatten.drop (i * s)).take s = L[i] := by
  induction L generalizing i with
  | nil => simp at hi
  | cons a t ih =>
    have ha := h a (List.mem_cons_self ..)
    cases i with
    | zero =>
      simp only [List.flatten_cons, Nat.zero_mul, List.drop_zero, List.getElem_cons_zero]
      rw [← ha, List.take_left]
    | succ i =>
      simp only [List.flatten_cons, List.getElem_cons_succ]
      rw [Nat.succ_mul, Nat.add_comm, ← ha, List.drop_append, ha]
      have e : List.drop (s + i * s) a = [] := List.drop_eq_nil_of_le (by omega)
      rw [e, List.nil_append, Nat.add_sub_cancel_left]
      exact ih (fun x hx => h x (List.mem_cons_of_mem _ hx)) i (by simpa using hi)
theorem chunk_length (s : Nat) (L : List (List Int)) (h : ∀ x ∈ L, x.length = s) : L.flatten.length = L.length * s := by
  induction L with
  | nil => simp
  | cons a t ih =>
    have ha := h a (List.mem_cons_self ..)
    rw [List.flatten_cons, List.length_append, ih (fun x hx => h x (List.mem_cons_of_mem _ hx)), ha, List.length_cons, Nat.succ_mul]
    omega
theorem outTo_flat (F : FL) (xss : List (List Int)) : outTo F xss xss.length = (xss.map (packL F)).flatten := by
  unfold outTo
  rw [List.take_length, List.flatMap_def]
theorem outTo_len {F : FL} (h : isFormatL F = true) (xss : List (List Int)) : (outTo F xss xss.length).length = xss.length * (sizeF F).toNat := by
  rw [outTo_flat, chunk_length (sizeF F).toNat _ (fun x hx => by obtain ⟨y, _, rfl⟩ := List.mem_map.1 hx; exact packL_len' h y), List.length_map]
theorem outTo_at {F : FL} (h : isFormatL F = true) (xss : List (List Int)) (i : Nat) (hi : i < xss.length) : fieldL (outTo F xss xss.length) (i * (sizeF F).toNat) (sizeF F).toNat = packL F xss[i] := by
  unfold fieldL
  rw [outTo_flat, chunk_at (sizeF F).toNat _ (fun x hx => by obtain ⟨y, _, rfl⟩ := List.mem_map.1 hx; exact packL_len' h y) i (by simpa using hi)]
  simp
theorem okPk_item {F : FL} {xss : List (List Int)} {k : Nat} (h : okPk F xss k = true) (i : Nat) (hi : i < k) (hx : i < xss.length) : okItem F xss[i] = true := by
  unfold okPk at h
  rw [List.all_eq_true] at h
  have := h i (List.mem_range.2 hi)
  simp only [Bool.and_eq_true] at this
  have e : xss.getD i [] = xss[i] := by simp [hx]
  rw [← e]; exact this.1
theorem outTo_bytes (F : FL) (xss : List (List Int)) : ∀ b ∈ outTo F xss xss.length, 0 ≤ b ∧ b ≤ 255 := by
  intro b hb
  rw [outTo_flat] at hb
  obtain ⟨l, hl, hb⟩ := List.mem_flatten.1 hb
  obtain ⟨y, _, rfl⟩ := List.mem_map.1 hl
  exact pack_bytes y _ (Nat.le_refl _) b hb
theorem okUA_out {F : FL} {xss : List (List Int)} (h : isFormatL F = true) (hk : okPk F xss xss.length = true) : okUA F (outTo F xss xss.length) = true := by
  have hl := outTo_len h xss
  have hs := size_bd h
  simp only [okUA, h, Bool.true_and, Bool.and_eq_true, decide_eq_true_eq, isMemL, List.all_eq_true]
  refine ⟨⟨okPk_len hk, fun b hb => inR_yes (outTo_bytes F xss b hb).1 (outTo_bytes F xss b hb).2⟩, ?_⟩
  rw [hl, Nat.mul_mod_left]
theorem unpackAll_out {F : FL} {xss : List (List Int)} (h : isFormatL F = true) (hk : okPk F xss xss.length = true) : unpackAllL F (outTo F xss xss.length) = xss := by
  have hl := outTo_len h xss
  have hs := size_bd h
  unfold unpackAllL
  rw [if_pos (okUA_out h hk), hl, Nat.mul_div_cancel _ (by omega)]
  apply List.ext_getElem
  · simp [itemsTo]
  · intro i h1 h2
    simp only [itemsTo, List.getElem_map, List.getElem_range]
    rw [outTo_at h xss i h2, unpack_pack h _ (okPk_item hk i h2 h2)]
/-- Items whose packing has bytes: packed and unpacked they are as before. -/
theorem packAll_some {F : FL} {xss : List (List Int)} (h : (packAllL F xss).length ≠ 0) : isFormatL F = true ∧ okPk F xss xss.length = true ∧ packAllL F xss = outTo F xss xss.length := by
  unfold packAllL at h ⊢
  split at h
  · rename_i hh
    rw [if_pos hh]
    simp only [Bool.and_eq_true] at hh
    exact ⟨hh.1, hh.2, rfl⟩
  · exact absurd rfl h

end Go.Proofs.Ytmiamnaholnnoaa
