/- Contracts of the reference: numbers in ranges, counts, indices, offsets. No conditions. -/
import Derived.Test.YtldblcolnjkcaaaC3
import Derived.Outline
import Derived.Deep.RegionHeld3
import Derived.Deep.QuietTactic
import Derived.BigQuiet
import Derived.Test.YtldblcolnjkcaaaSR
namespace Go.Proofs.Ytldblcolnjkcaaa
open Go.RowKit
set_option maxHeartbeats 400000 in
theorem count_any (v : Value) (xs : List Int) (w : World) (h : Ints w v xs) :
    Calls Try.prog 110 #[v] w fun e w' => e = .returned (.int .i64 (prodW xs)) ∧ w = w' := by
  obtain ⟨A, c, rfl, h1, h2, h3⟩ := h
  unfold maxLen at h2
  go_enter Try.func110, Try.ntmps110
  go_wp2
  go_loop [3, 4] (fun n i => ∃ k : Nat, k ≤ xs.length ∧ i = .int .i64 k ∧ n = .int .i64 (prodW (xs.take k))) (fun _ i => xs.length - (intOf i).toNat)
  case atStart => exact ⟨0, Nat.zero_le _, rfl, rfl⟩
  case round =>
    obtain ⟨k, hk, rfl, rfl⟩ := hrel
    by_cases hlt : k < xs.length
    · obtain ⟨b, off, rfl, hb, hc⟩ := h3 (by omega)
      have hx := hc k xs[k] (by simp [hlt])
      have HS := hid (prodW_snoc (xs.take k) xs[k])
      rw [← take_snocI xs k hlt] at HS
      clear hc h3
      go_wp2
      go_round
      case rel => exact ⟨k + 1, by omega, by go_num, by rw [HS.out]⟩
      case measure => simp [intOf]; omega
    · go_wp2
      go_ret
      obtain rfl : k = xs.length := by omega
      exact ⟨by simp, rfl⟩

set_option maxHeartbeats 400000 in
theorem validShape_any (v : Value) (xs : List Int) (w : World) (h : Ints w v xs) :
    Calls Try.prog 92 #[v] w fun e w' => e = .returned (.bool (isShapeL xs)) ∧ w = w' := by
  have h0 := h
  obtain ⟨A, c, rfl, h1, h2, h3⟩ := h
  unfold maxLen at h2
  clear h3
  by_cases hl : xs.length ≤ 4
  · cases ha : xs.all (inR · 0 60)
    · have hq : isShapeL xs = false := by
        have : xs.all okExt = false := ha
        unfold isShapeL; rw [this]; simp
      have HQ := hid hq; clear hq
      go_enter Try.func92, Try.ntmps92
      go_wp2_with (go_at_call 151; refine (allIn_any _ xs _ _ _ h0).mono ?_; rintro e w' ⟨rfl, rfl⟩)
      go_ret
      exact ⟨ret_bool HQ.out.symm, rfl⟩
    · have hq : isShapeL xs = decide (prodW xs ≤ 60) := by
        have : xs.all okExt = true := ha
        unfold isShapeL; rw [this]; simp [hl]
      have HQ := hid hq; clear hq
      go_enter Try.func92, Try.ntmps92
      go_wp2_with (first | (go_at_call 151; refine (allIn_any _ xs _ _ _ h0).mono ?_; rintro e w' ⟨rfl, rfl⟩) | (go_at_call 110; refine (count_any _ xs _ h0).mono ?_; rintro e w' ⟨rfl, rfl⟩))
      go_ret
      exact ⟨ret_bool HQ.out.symm, rfl⟩
  · have hq : isShapeL xs = false := by unfold isShapeL; simp [hl]
    have HQ := hid hq; clear hq
    go_enter Try.func92, Try.ntmps92
    go_wp2
    go_ret
    exact ⟨ret_bool HQ.out.symm, rfl⟩

set_option maxHeartbeats 400000 in
theorem offset_any (v iv : Value) (V : VL) (index : List Int) (w : World) (hv : ViewV w v V) (hi : Ints w iv index) (hlen : index.length = V.strides.length) :
    Calls Try.prog 159 #[v, iv] w fun e w' => e = .returned (.int .i64 (offW V.base index V.strides)) ∧ Below w.heap.size w w' := by
  obtain ⟨sv, tv, rfl, -, htv⟩ := hv
  obtain ⟨A, c, rfl, h1, h2, h3⟩ := hi
  obtain ⟨A', c', rfl, h1', h2', h3'⟩ := htv
  unfold maxLen at h2 h2'
  have HL := hid hlen
  have hle : index.length ≤ V.strides.length := by omega
  clear hlen
  go_enter Try.func159, Try.ntmps159
  go_wp2
  go_loopw [5, 6] (fun n i wr => ∃ k : Nat, k ≤ index.length ∧ i = .int .i64 k ∧ n = .int .i64 (offW V.base (index.take k) V.strides) ∧
      Below (w.heap.size + 1) (w.alloc (.cells #[.int .i64 V.base, sv, .slice A' V.strides.length c'] 43)) wr) (fun _ i _ => index.length - (intOf i).toNat)
  case atStart => exact ⟨0, Nat.zero_le _, rfl, rfl, Below.refl _ _⟩
  case round =>
    obtain ⟨k, hk, rfl, rfl, hb⟩ := hrel
    have hb1 : Below w.heap.size w wr := (below_alloc w _).trans (hb.mono (by omega))
    by_cases hlt : k < index.length
    · obtain ⟨b, off, rfl, hblt, hc⟩ := h3 (by omega)
      obtain ⟨b', off', rfl, hblt', hc'⟩ := h3' (by omega)
      have hk2 : k < V.strides.length := by omega
      have hx := (hb1.cell (p := ⟨b, off + k, none⟩) hblt).trans (hc k index[k] (by simp [hlt]))
      have hx' := (hb1.cell (p := ⟨b', off' + k, none⟩) hblt').trans (hc' k V.strides[k] (by simp [hk2]))
      obtain ⟨⟨q0, q1, q2⟩, -⟩ := ((Blk.new w 43 #[.int .i64 V.base, sv, .slice (some ⟨b', off', none⟩) V.strides.length c']).ext hb (by omega)).all3
      have HS := hid (offW_snoc V.base index V.strides k hlt hk2)
      have hlti : (k : Int) < (index.length : Int) := by omega
      have hlti2 : (k : Int) < (V.strides.length : Int) := by omega
      have hk0 : (0 : Int) ≤ (k : Int) := by omega
      clear hc h3 hc' h3'
      go_wp2
      go_quiet (fail)
      go_wp2
      go_roundw
      case rel => exact ⟨k + 1, by omega, by go_num, by rw [HS.out], hb.trans ((below_drewN wr _).mono (by have := hb.size; simp at this; omega))⟩
      case measure => simp [intOf]; omega
    · go_wp2
      go_ret
      obtain rfl : k = index.length := by omega
      exact ⟨by simp, hb1⟩

set_option maxHeartbeats 400000 in
theorem unrank_any (v : Value) (shape : List Int) (r : Int) (w : World) (h : Ints w v shape) (hpos : ∀ x ∈ shape, 1 ≤ x ∧ x ≤ 60) (hl : shape.length ≤ 4) (hr0 : 0 ≤ r) (hr1 : r ≤ 100) :
    Calls Try.prog 160 #[v, .int .i64 r] w (RetOwn w (unr shape r)) := by
  have HP := hid hpos; clear hpos
  obtain ⟨A, c, rfl, h1, h2, h3⟩ := h
  unfold maxLen at h2
  go_enter Try.func160, Try.ntmps160
  go_wp2_with (at_make; refine mk0 _ rfl _ _ rfl shape.length rfl rfl (by omega) ?_)
  intro w0 hown0 hb0
  go_wp2
  go_loopw [1, 6] (fun q i wr => ∃ (j : Nat) (qi : Int) (xs : List Int), j ≤ shape.length ∧ i = .int .i64 ((j : Int) - 1) ∧ q = .int .i64 qi ∧ IdxRel shape r j qi xs ∧
      Own wr w.heap.size (.slice (some ⟨w.heap.size, 0, none⟩) shape.length shape.length) xs ∧ Below w.heap.size w wr) (fun _ i _ => (intOf i + 1).toNat)
  case atStart => exact ⟨shape.length, r, _, Nat.le_refl _, rfl, rfl, IdxRel.start shape r, hown0, hb0⟩
  case round =>
    obtain ⟨j, qi, xs, hj, rfl, rfl, hrl, hown, hb⟩ := hrel
    have hq := hrl.q_bd hr0 HP.out
    obtain ⟨hq0, hq1⟩ := hq
    have HR := hid hrl; clear hrl
    rcases Nat.eq_zero_or_pos j with h0 | h0
    · subst h0
      go_wp2
      go_ret
      refine ⟨_, rfl, ?_, hb⟩
      rw [← HR.out.end_]
      exact hown
    · obtain ⟨m, rfl⟩ : ∃ m, j = m + 1 := ⟨j - 1, by omega⟩
      have hm : m < shape.length := by omega
      have HS := hid (HR.out.step hm HP.out)
      have hs0 := (HP.out shape[m] (List.getElem_mem hm)).1
      have hs1 := (HP.out shape[m] (List.getElem_mem hm)).2
      obtain ⟨b, off, rfl, hlt, hc⟩ := h3 (by omega)
      have hx := (hb.cell (p := ⟨b, off + m, none⟩) hlt).trans (hc m shape[m] (by simp [hm]))
      have hxl : m < xs.length := by have := HR.out.1; omega
      have hy := hown.cell m hxl
      have hf := hown.free m
      have hne : b ≠ w.heap.size := by omega
      have HO := hid (hown.put m (qi % shape[m]))
      have HB := hid (hb.setCell (p := ⟨w.heap.size, m, none⟩) (Nat.le_refl _) (.int .i64 (qi % shape[m])))
      clear hc h3 hown hb
      go_wp2
      go_roundw
      case rel => exact ⟨m, _, _, by omega, rfl, rfl, HS.out, HO.out, HB.out⟩
      case measure => simp [intOf]

end Go.Proofs.Ytldblcolnjkcaaa
