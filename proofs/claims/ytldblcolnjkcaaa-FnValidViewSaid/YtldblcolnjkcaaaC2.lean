/- Contracts: offsets. No conditions. -/
import Derived.Test.YtldblcolnjkcaaaBase
import Derived.Test.YtldblcolnjkcaaaC1
import Derived.Outline
import Derived.Deep.RegionHeld3
namespace Go.Proofs.Ytldblcolnjkcaaa
open Go.RowKit

set_option maxHeartbeats 400000 in
theorem offsetAt_any (v iv : Value) (V : VL) (index : List Int) (w : World) (hv : ViewV w v V) (hi : Ints w iv index) (hlen : index.length = V.strides.length) :
    Calls Try.prog 155 #[v, iv] w fun e w' => e = .returned (.int .i64 (offW V.base index V.strides)) ∧ Below w.heap.size w w' := by
  obtain ⟨sv, tv, rfl, -, htv⟩ := hv
  obtain ⟨A, c, rfl, h1, h2, h3⟩ := hi
  obtain ⟨A', c', rfl, h1', h2', h3'⟩ := htv
  unfold maxLen at h2 h2'
  have HL := hid hlen
  have hle : index.length ≤ V.strides.length := by omega
  clear hlen
  go_enter Try.func155, Try.ntmps155
  go_wp2
  go_loop [5, 12] (fun n i => ∃ k : Nat, k ≤ index.length ∧ i = .int .i64 k ∧ n = .int .i64 (offW V.base (index.take k) V.strides)) (fun _ i => index.length - (intOf i).toNat)
  case atStart => exact ⟨0, Nat.zero_le _, rfl, rfl⟩
  case round =>
    obtain ⟨k, hk, rfl, rfl⟩ := hrel
    by_cases hlt : k < index.length
    · obtain ⟨b, off, rfl, hb, hc⟩ := h3 (by omega)
      obtain ⟨b', off', rfl, hb', hc'⟩ := h3' (by omega)
      have hk2 : k < V.strides.length := by omega
      have hx := hc k index[k] (by simp [hlt])
      have hx' := hc' k V.strides[k] (by simp [hk2])
      have HS := hid (offW_snoc V.base index V.strides k hlt hk2)
      clear hc h3 hc' h3'
      go_wp2
      go_round
      case rel => exact ⟨k + 1, by omega, by go_num, by rw [HS.out]⟩
      case measure => simp [intOf]; omega
    · go_wp2
      go_ret
      obtain rfl : k = index.length := by omega
      exact ⟨by simp, (Below.refl _ _).alloc (Nat.le_refl _) _⟩

/-- What the loop of indexAt keeps: from j on the list is the index; what is left of the rank. -/
def IdxRel (shape : List Int) (k : Int) (j : Nat) (q : Int) (xs : List Int) : Prop :=
  xs.length = shape.length ∧ (∀ t, j ≤ t → t < shape.length → xs[t]? = (unr shape k)[t]?) ∧ q = k / prodI (shape.drop j)
theorem IdxRel.start (shape : List Int) (k : Int) : IdxRel shape k shape.length k (List.replicate shape.length 0) :=
  ⟨by simp, fun t h1 h2 => by omega, by simp [prodI]⟩
theorem IdxRel.step {shape : List Int} {k q : Int} {m : Nat} {xs : List Int} (h : IdxRel shape k (m + 1) q xs) (hm : m < shape.length) (hpos : ∀ x ∈ shape, 1 ≤ x ∧ x ≤ 60) :
    IdxRel shape k m (q / shape[m]) (xs.set m (q % shape[m])) := by
  obtain ⟨h1, h2, h3⟩ := h
  refine ⟨by simpa using h1, fun t ht htl => ?_, ?_⟩
  · by_cases e : t = m
    · subst e
      rw [List.getElem?_set_self (by omega), unr_get shape k t hm, h3]
    · rw [List.getElem?_set_ne (by omega)]
      exact h2 t (by omega) htl
  · rw [h3, List.drop_eq_getElem_cons hm, prodI, Int.mul_comm]
    rw [Int.ediv_ediv_of_nonneg]
    have : ∀ l : List Int, (∀ x ∈ l, 1 ≤ x ∧ x ≤ 60) → 0 ≤ prodI l := by
      intro l
      induction l with
      | nil => intro _; simp [prodI]
      | cons x l ih =>
        intro hx
        have := ih (fun y hy => hx y (List.mem_cons_of_mem _ hy))
        have := (hx x List.mem_cons_self).1
        rw [prodI]
        exact Int.mul_nonneg (by omega) (by omega)
    exact this _ (fun x hx => hpos x (List.mem_of_mem_drop hx))
theorem IdxRel.end_ {shape : List Int} {k q : Int} {xs : List Int} (h : IdxRel shape k 0 q xs) : xs = unr shape k := by
  obtain ⟨h1, h2, _⟩ := h
  apply List.ext_getElem?
  intro t
  by_cases ht : t < shape.length
  · exact h2 t (Nat.zero_le _) ht
  · rw [List.getElem?_eq_none (by omega), List.getElem?_eq_none (by rw [unr_length]; omega)]
theorem IdxRel.q_bd {shape : List Int} {k q : Int} {j : Nat} {xs : List Int} (h : IdxRel shape k j q xs) (h0 : 0 ≤ k) (hpos : ∀ x ∈ shape, 1 ≤ x ∧ x ≤ 60) : 0 ≤ q ∧ q ≤ k := by
  obtain ⟨_, _, rfl⟩ := h
  have : ∀ l : List Int, (∀ x ∈ l, 1 ≤ x ∧ x ≤ 60) → 0 ≤ prodI l := by
    intro l
    induction l with
    | nil => intro _; simp [prodI]
    | cons x l ih =>
      intro hx
      have := ih (fun y hy => hx y (List.mem_cons_of_mem _ hy))
      have := (hx x List.mem_cons_self).1
      rw [prodI]
      exact Int.mul_nonneg (by omega) (by omega)
  have hp := this (shape.drop j) (fun x hx => hpos x (List.mem_of_mem_drop hx))
  exact ⟨Int.ediv_nonneg h0 hp, Int.ediv_le_self _ h0⟩

set_option maxHeartbeats 400000 in
theorem indexAt_any (v : Value) (shape : List Int) (r : Int) (w : World) (h : Ints w v shape) (hpos : ∀ x ∈ shape, 1 ≤ x ∧ x ≤ 60) (hl : shape.length ≤ 4) (hr0 : 0 ≤ r) (hr1 : r ≤ 100) :
    Calls Try.prog 97 #[v, .int .i64 r] w (RetOwn w (unr shape r)) := by
  have HP := hid hpos; clear hpos
  obtain ⟨A, c, rfl, h1, h2, h3⟩ := h
  unfold maxLen at h2
  go_enter Try.func97, Try.ntmps97
  go_wp2_with (at_make; refine mk0 _ rfl _ _ rfl shape.length rfl rfl (by omega) ?_)
  intro w0 hown0 hb0
  go_wp2
  go_loopw [1, 6] (fun q i wr => ∃ (j : Nat) (qi : Int) (xs : List Int), j ≤ shape.length ∧ i = .int .i64 ((j : Int) - 1) ∧ q = .int .i64 qi ∧ IdxRel shape r j qi xs ∧
      Own wr w.heap.size (.slice (some ⟨w.heap.size, 0, none⟩) shape.length shape.length) xs ∧ Below w.heap.size w wr) (fun _ i _ => (intOf i + 1).toNat)
  case atStart => exact ⟨shape.length, r, _, Nat.le_refl _, rfl, rfl, IdxRel.start shape r, hown0, hb0⟩
  case round =>
    obtain ⟨j, qi, xs, hj, rfl, rfl, hrl, hown, hb⟩ := hrel
    have hq := hrl.q_bd hr0 HP.out
    obtain ⟨hq0, hq1⟩ := hq
    have HR := hid hrl; clear hrl
    rcases Nat.eq_zero_or_pos j with h0 | h0
    · subst h0
      go_wp2
      go_ret
      refine ⟨_, rfl, ?_, hb⟩
      rw [← HR.out.end_]
      exact hown
    · obtain ⟨m, rfl⟩ : ∃ m, j = m + 1 := ⟨j - 1, by omega⟩
      have hm : m < shape.length := by omega
      have HS := hid (HR.out.step hm HP.out)
      have hs0 := (HP.out shape[m] (List.getElem_mem hm)).1
      have hs1 := (HP.out shape[m] (List.getElem_mem hm)).2
      obtain ⟨b, off, rfl, hlt, hc⟩ := h3 (by omega)
      have hx := (hb.cell (p := ⟨b, off + m, none⟩) hlt).trans (hc m shape[m] (by simp [hm]))
      have hxl : m < xs.length := by have := HR.out.1; omega
      have hy := hown.cell m hxl
      have hf := hown.free m
      have hne : b ≠ w.heap.size := by omega
      have HO := hid (hown.put m (qi % shape[m]))
      have HB := hid (hb.setCell (p := ⟨w.heap.size, m, none⟩) (Nat.le_refl _) (.int .i64 (qi % shape[m])))
      clear hc h3 hown hb
      go_wp2
      go_roundw
      case rel => exact ⟨m, _, _, by omega, rfl, rfl, HS.out, HO.out, HB.out⟩
      case measure => simp [intOf]

end Go.Proofs.Ytldblcolnjkcaaa
