/- Ranks, plain: a rank is an index times the strides by rows. Conditions: none. -/
import Derived.Test.YtldblcolnjkcaaaV3
import Derived.Test.YtldblcolnjkcaaaG1
namespace Go.Proofs.Ytldblcolnjkcaaa
open Go.RowKit

theorem rowS_cons (e : Int) (s : List Int) : rowS (e :: s) = prodI s :: rowS s := by
  simp only [rowS, List.length_cons, List.range_succ_eq_map, List.map_cons, List.map_map, Function.comp_def]
  simp
theorem rankF_dot (s i : List Int) (a : Int) (hl : i.length = s.length) : rankF a s i = a * prodI s + dotI i (rowS s) := by
  induction s generalizing i a with
  | nil => cases i with
    | nil => simp [rankF, prodI, dotI]
    | cons x i => simp at hl
  | cons e s ih =>
    cases i with
    | nil => simp at hl
    | cons x i =>
      rw [rowS_cons]
      simp only [rankF, dotI, prodI]
      rw [ih i _ (by simpa using hl), Int.add_mul, Int.mul_assoc]
      omega
theorem dot_row : ∀ {i s : List Int}, InBox i s → 0 ≤ dotI i (rowS s) ∧ dotI i (rowS s) < prodI s ∧ unr s (dotI i (rowS s)) = i
  | [], [], _ => by simp [dotI, prodI, unr]
  | [], _ :: _, h => h.elim
  | _ :: _, [], h => h.elim
  | x :: i, e :: s, h => by
    obtain ⟨h0, h1, hk⟩ := dot_row h.2.2
    have hpos := box_pos h.2.2
    have hp := prodI_gt hpos
    have ha := Int.mul_nonneg h.1 (show 0 ≤ prodI s by omega)
    have hb := Int.mul_le_mul_of_nonneg_right (show x + 1 ≤ e by have := h.2.1; omega) (show 0 ≤ prodI s by omega)
    rw [Int.add_mul, Int.one_mul] at hb
    rw [rowS_cons]
    simp only [dotI, prodI]
    refine ⟨by omega, by omega, ?_⟩
    rw [unr_cons, unr_add hpos, hk, Int.add_comm, Int.add_mul_ediv_right _ _ (by omega), Int.ediv_eq_zero_of_lt h0 h1, Int.zero_add, Int.emod_eq_of_lt h.1 h.2.1]
/-- Box and index are one. -/
theorem box_iff : ∀ {s i : List Int}, InBox i s ↔ i.length = s.length ∧ ∀ k (h1 : k < i.length) (h2 : k < s.length), 0 ≤ i[k] ∧ i[k] < s[k]
  | [], [] => by simp [InBox]
  | [], _ :: _ => by simp [InBox]
  | _ :: _, [] => by simp [InBox]
  | e :: s, x :: i => by
    simp only [InBox, box_iff (s := s) (i := i), List.length_cons]
    constructor
    · rintro ⟨h1, h2, h3, h4⟩
      refine ⟨by omega, fun k k1 k2 => ?_⟩
      cases k with
      | zero => exact ⟨h1, h2⟩
      | succ k => simpa using h4 k (by omega) (by omega)
    · rintro ⟨h1, h2⟩
      refine ⟨(h2 0 (by omega) (by omega)).1, (h2 0 (by omega) (by omega)).2, by omega, fun k k1 k2 => ?_⟩
      have := h2 (k + 1) (by omega) (by omega)
      simp only [List.getElem_cons_succ] at this
      exact this
theorem dot_part : ∀ {i s : List Int}, InBox i s → ∀ k, 0 ≤ dotI (i.take k) (rowS s) ∧ dotI (i.take k) (rowS s) ≤ dotI i (rowS s)
  | [], [], _, k => by simp [dotI]
  | [], _ :: _, h, _ => h.elim
  | _ :: _, [], h, _ => h.elim
  | x :: i, e :: s, h, 0 => by
    have := dot_row h
    simp only [List.take_zero]
    exact ⟨by simp [dotI], by simpa [dotI] using this.1⟩
  | x :: i, e :: s, h, k + 1 => by
    have h1 := dot_part h.2.2 k
    have hp := prodI_gt (box_pos h.2.2)
    have ha := Int.mul_nonneg h.1 (show 0 ≤ prodI s by omega)
    rw [rowS_cons]
    simp only [List.take_succ_cons, dotI]
    omega
theorem dot_snoc : ∀ (i st : List Int) (k : Nat) (h1 : k < i.length) (h2 : k < st.length), dotI (i.take (k + 1)) st = dotI (i.take k) st + i[k] * st[k]
  | [], _, _, h, _ => by simp at h
  | _ :: _, [], _, _, h => by simp at h
  | x :: i, y :: st, 0, _, _ => by simp [dotI]
  | x :: i, y :: st, k + 1, h1, h2 => by
    have := dot_snoc i st k (by simpa using h1) (by simpa using h2)
    simp only [List.take_succ_cons, dotI, List.getElem_cons_succ, this]
    omega

end Go.Proofs.Ytldblcolnjkcaaa
