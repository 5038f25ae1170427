/- Contracts of the reference: strides by rows and columns. No conditions. -/
import Derived.Test.YtldblcolnjkcaaaC9a
import Derived.Outline
namespace Go.Proofs.Ytldblcolnjkcaaa
open Go.RowKit
theorem wrap_step {xs : List Int} (hl : xs.length ≤ 4) (h : ∀ x ∈ xs, 0 ≤ x ∧ x ≤ 60) {k : Nat} (hk : k < xs.length) : wrap64 (prodI (xs.take k) * xs[k]) = prodI (xs.take (k + 1)) := by
  have e : prodI (xs.take (k + 1)) = prodI (xs.take k) * xs[k] := by rw [take_snocI xs k hk, prodI_snoc]
  have := (prodW_eq (xs := xs.take (k + 1)) (by simp; omega) (fun x hx => h x (List.mem_of_mem_take hx))).2
  rw [← e]
  exact wrap_small (by omega) (by omega)
theorem wrap_stepR {xs : List Int} (hl : xs.length ≤ 4) (h : ∀ x ∈ xs, 0 ≤ x ∧ x ≤ 60) {k : Nat} (hk : k < xs.length) : wrap64 (prodI (xs.drop (k + 1)) * xs[k]) = prodI (xs.drop k) := by
  have e : prodI (xs.drop k) = prodI (xs.drop (k + 1)) * xs[k] := by rw [List.drop_eq_getElem_cons hk, prodI, Int.mul_comm]
  have := (prodW_eq (xs := xs.drop k) (by simp; omega) (fun x hx => h x (List.mem_of_mem_drop hx))).2
  rw [← e]
  exact wrap_small (by omega) (by omega)

/-- What the loop of the row strides keeps. -/
def RowRel (shape : List Int) (j : Nat) (ys : List Int) : Prop := ys.length = shape.length ∧ ∀ t, j ≤ t → t < shape.length → ys[t]? = (rowS shape)[t]?
theorem RowRel.start (shape : List Int) : RowRel shape shape.length (List.replicate shape.length 0) := ⟨by simp, fun t h1 h2 => by omega⟩
theorem RowRel.step {shape ys : List Int} {m : Nat} (h : RowRel shape (m + 1) ys) (hm : m < shape.length) : RowRel shape m (ys.set m (prodI (shape.drop (m + 1)))) := by
  obtain ⟨h1, h2⟩ := h
  refine ⟨by simpa using h1, fun t ht htl => ?_⟩
  by_cases e : t = m
  · subst e
    rw [List.getElem?_set_self (by omega), List.getElem?_eq_getElem (by rw [rowS_length]; exact hm), rowS_get shape t hm]
  · rw [List.getElem?_set_ne (by omega)]
    exact h2 t (by omega) htl
theorem RowRel.end_ {shape ys : List Int} (h : RowRel shape 0 ys) : ys = rowS shape := by
  obtain ⟨h1, h2⟩ := h
  apply List.ext_getElem?
  intro t
  by_cases ht : t < shape.length
  · exact h2 t (Nat.zero_le _) ht
  · rw [List.getElem?_eq_none (by omega), List.getElem?_eq_none (by rw [rowS_length]; omega)]

set_option maxHeartbeats 400000 in
theorem srowStrides_any (v : Value) (shape : List Int) (w : World) (h : Ints w v shape) (hok : isShapeL shape = true) :
    Calls Try.prog 112 #[v] w (RetOwn w (rowS shape)) := by
  obtain ⟨hs1, hs2, hs3⟩ := shape_ext hok
  have HX := hid hs2; clear hs2 hok
  have HW := hid (fun k hk => wrap_stepR hs1 HX.out (k := k) hk)
  obtain ⟨A, c, rfl, h1, h2, h3⟩ := h
  unfold maxLen at h2
  go_enter Try.func112, Try.ntmps112
  go_wp2_with (at_make; refine mk0 _ rfl _ _ rfl shape.length rfl rfl (by omega) ?_)
  intro w0 hown0 hb0
  go_wp2
  go_loopw [4, 5] (fun n i wr => ∃ (j : Nat) (ys : List Int), j ≤ shape.length ∧ i = .int .i64 ((j : Int) - 1) ∧ n = .int .i64 (prodI (shape.drop j)) ∧ RowRel shape j ys ∧
      Own wr w.heap.size (.slice (some ⟨w.heap.size, 0, none⟩) shape.length shape.length) ys ∧ Below w.heap.size w wr) (fun _ i _ => (intOf i + 1).toNat)
  case atStart => exact ⟨shape.length, _, Nat.le_refl _, rfl, by simp [prodI], RowRel.start shape, hown0, hb0⟩
  case round =>
    obtain ⟨j, ys, hj, rfl, rfl, hrl, hown, hb⟩ := hrel
    rcases Nat.eq_zero_or_pos j with h0 | h0
    · subst h0
      have HE := hid hrl.end_
      clear hrl
      go_wp2
      go_ret
      exact ⟨_, rfl, by rw [← HE.out]; exact hown, hb⟩
    · obtain ⟨m, rfl⟩ : ∃ m, j = m + 1 := ⟨j - 1, by omega⟩
      have hm : m < shape.length := by omega
      have hyk : m < ys.length := by rw [hrl.1]; exact hm
      have HR := hid (hrl.step hm)
      obtain ⟨b, off, rfl, hltb, hc⟩ := h3 (by omega)
      have hx := (hb.cell (p := ⟨b, off + m, none⟩) hltb).trans (hc m shape[m] (by simp [hm]))
      have hy := hown.cell m hyk
      have hf := hown.free m
      have hne : b ≠ w.heap.size := by omega
      have HS := hid (HW.out m hm)
      have HO := hid (hown.put m (prodI (shape.drop (m + 1))))
      have HB := hid (hb.setCell (p := ⟨w.heap.size, m, none⟩) (Nat.le_refl _) (.int .i64 (prodI (shape.drop (m + 1)))))
      clear hc h3 hown hb hrl
      go_wp2
      go_roundw
      case rel => exact ⟨m, _, by omega, rfl, by rw [HS.out], HR.out, HO.out, HB.out⟩
      case measure => simp [intOf]

end Go.Proofs.Ytldblcolnjkcaaa
