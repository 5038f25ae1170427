/- Contracts: all offsets of a view. No conditions. -/
import Derived.Test.YtmoejdnodhmglaaDoorC2va
import Derived.Outline
import Derived.Deep.RegionHeld3
namespace Go.Proofs.YtmoejdnodhmglaaDoor
open Go.RowKit

/-- Of a valid shape: what the loops ask. -/
theorem shape_ext {xs : List Int} (h : isShapeL xs = true) : xs.length ≤ 4 ∧ (∀ x ∈ xs, 0 ≤ x ∧ x ≤ 60) ∧ prodW xs ≤ 60 := by
  unfold isShapeL at h
  simp only [Bool.and_eq_true, decide_eq_true_eq, List.all_eq_true, okExt, inR] at h
  exact ⟨h.1.1, h.1.2, h.2⟩
theorem wrap_small {n : Int} (h1 : -9223372036854775808 ≤ n) (h2 : n ≤ 9223372036854775807) : wrap64 n = n := IntWalk.wrap64_in n ⟨h1, h2⟩
theorem foldl_prod (xs : List Int) (a : Int) (c : Int) (hc : c * 60 ^ xs.length ≤ 13000000) (h : ∀ x ∈ xs, 0 ≤ x ∧ x ≤ 60) (ha : 0 ≤ a) (hac : a ≤ c) :
    xs.foldl (fun n x => wrap64 (n * x)) a = a * prodI xs ∧ 0 ≤ a * prodI xs ∧ a * prodI xs ≤ c * 60 ^ xs.length := by
  induction xs generalizing a c with
  | nil => simp [prodI]; omega
  | cons x xs ih =>
    have hx := h x List.mem_cons_self
    have hp : 0 ≤ a * x := Int.mul_nonneg ha hx.1
    have hle : a * x ≤ c * 60 := Int.mul_le_mul hac hx.2 hx.1 (by omega)
    have hpow : (0:Int) < 60 ^ xs.length := Int.pow_pos (by omega)
    have h60 : c * 60 * 60 ^ xs.length ≤ 13000000 := by
      rw [List.length_cons, Int.pow_succ, Int.mul_comm (60 ^ xs.length), ← Int.mul_assoc] at hc; exact hc
    have hcc : c * 60 ≤ c * 60 * 60 ^ xs.length := by
      have := Int.mul_le_mul_of_nonneg_left (show (1:Int) ≤ 60 ^ xs.length by omega) (show 0 ≤ c * 60 by omega)
      omega
    have hw : wrap64 (a * x) = a * x := wrap_small (by omega) (by omega)
    have := ih (a * x) (c * 60) h60 (fun y hy => h y (List.mem_cons_of_mem _ hy)) hp hle
    rw [List.foldl_cons, hw, prodI, ← Int.mul_assoc, List.length_cons, Int.pow_succ, Int.mul_comm (60 ^ xs.length), ← Int.mul_assoc]
    exact this
theorem prodW_eq {xs : List Int} (hl : xs.length ≤ 4) (h : ∀ x ∈ xs, 0 ≤ x ∧ x ≤ 60) : prodW xs = prodI xs ∧ 0 ≤ prodI xs ∧ prodI xs ≤ 12960000 := by
  have hp : (60:Int) ^ xs.length ≤ 12960000 := by
    match hn : xs.length, hl with
    | 0, _ => decide
    | 1, _ => decide
    | 2, _ => decide
    | 3, _ => decide
    | 4, _ => decide
  have := foldl_prod xs 1 1 (by omega) h (by omega) (by omega)
  simp only [Int.one_mul] at this
  exact ⟨this.1, this.2.1, by omega⟩
theorem shape_prod {xs : List Int} (h : isShapeL xs = true) : prodW xs = prodI xs ∧ 0 ≤ prodI xs ∧ prodI xs ≤ 60 := by
  obtain ⟨h1, h2, h3⟩ := shape_ext h
  obtain ⟨e1, e2, e3⟩ := prodW_eq h1 h2
  exact ⟨e1, e2, by omega⟩
theorem prodI_pos {xs : List Int} (h : ∀ x ∈ xs, 0 ≤ x) (hp : 0 < prodI xs) : ∀ x ∈ xs, 1 ≤ x := by
  induction xs with
  | nil => intro x hx; cases hx
  | cons y ys ih =>
    have hy := h y List.mem_cons_self
    rw [prodI] at hp
    have hy1 : 1 ≤ y := by
      rcases Int.lt_or_le 0 y with h1 | h1
      · omega
      · have : y = 0 := by omega
        subst this; simp at hp
    have h2 : 0 < prodI ys := by
      rcases Int.lt_or_le 0 (prodI ys) with h1 | h1
      · exact h1
      · have := Int.mul_nonpos_of_nonneg_of_nonpos hy h1; omega
    intro x hx
    rcases List.mem_cons.1 hx with rfl | hx
    · exact hy1
    · exact ih (fun z hz => h z (List.mem_cons_of_mem _ hz)) h2 x hx

theorem offs_take (V : VL) (k : Nat) (h : k < (prodW V.shape).toNat) : (offs V).take (k + 1) = (offs V).take k ++ [offW V.base (unr V.shape k) V.strides] := by
  rw [take_snocI (offs V) k (by simp [offs, h])]
  simp [offs]

end Go.Proofs.YtmoejdnodhmglaaDoor
