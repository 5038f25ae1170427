/- Contracts: formats: validity, places. No conditions. -/
import Derived.Test.YtmiamnaholnnoaaQ2
import Derived.Test.YtmiamnaholnnoaaQA
import Derived.StillTailTactics
namespace Go.Proofs.Ytmiamnaholnnoaa
open Go.RowKit

/-- The format's box, and its list behind the box. -/
structure FBox (w W : World) (A : Option Addr) (c : Nat) (F : FL) : Prop where
  below : Below w.heap.size w W
  blk : Blk W w.heap.size 25 #[.slice A F.sizes.length c, .bool F.big, .bool F.aligned]
  ints0 : Ints w (.slice A F.sizes.length c) F.sizes
section
variable {w W W' : World} {A : Option Addr} {c : Nat} {F : FL}
theorem FBox.new (h : Ints w (.slice A F.sizes.length c) F.sizes) : FBox w (w.alloc (.cells #[.slice A F.sizes.length c, .bool F.big, .bool F.aligned] 25)) A c F :=
  ⟨below_alloc w _, Blk.new w _ _, h⟩
theorem FBox.ints (h : FBox w W A c F) : Ints W (.slice A F.sizes.length c) F.sizes := h.ints0.ext h.below
theorem FBox.low (h : FBox w W A c F) {N : Nat} (hb : Below N W W') (hN : w.heap.size < N) : FBox w W' A c F :=
  ⟨h.below.trans (hb.mono (Nat.le_of_lt hN)), h.blk.ext hb hN, h.ints0⟩
theorem FBox.size (h : FBox w W A c F) : w.heap.size < W.heap.size := h.blk.lt
theorem FBox.nx (h : FBox w W A c F) (hb : Below W.heap.size W W') : FBox w W' A c F := h.low hb h.size
theorem FBox.format (h : FBox w W A c F) : FormatV W (.agg #[.slice A F.sizes.length c, .bool F.big, .bool F.aligned]) F := ⟨_, rfl, h.ints⟩
theorem FBox.elem (h : FBox w W A c F) (k : Nat) (hk : k < F.sizes.length) :
    ∃ b off, A = some ⟨b, off, none⟩ ∧ W.cell? ⟨b, off + k, none⟩ = some (.int .i64 F.sizes[k]) := by
  obtain ⟨A', c', e, -, -, h3⟩ := h.ints
  simp only [Value.slice.injEq, true_and] at e
  obtain ⟨rfl, rfl⟩ := e
  obtain ⟨b, off, e, hb, hc⟩ := h3 (by omega)
  exact ⟨b, off, e, hc k _ (by simp [hk])⟩
end
theorem Ints.elem {W : World} {A : Option Addr} {c n : Nat} {xs : List Int} (h : Ints W (.slice A n c) xs) (k : Nat) (hk : k < xs.length) :
    ∃ b off, A = some ⟨b, off, none⟩ ∧ W.cell? ⟨b, off + k, none⟩ = some (.int .i64 xs[k]) := by
  obtain ⟨A', c', e, -, -, h3⟩ := h
  simp only [Value.slice.injEq] at e
  obtain ⟨rfl, rfl, rfl⟩ := e
  obtain ⟨b, off, e, hb, hc⟩ := h3 (by omega)
  exact ⟨b, off, e, hc k _ (by simp [hk])⟩
theorem FormatV.form {w : World} {v : Value} {F : FL} (h : FormatV w v F) : ∃ A c, v = .agg #[.slice A F.sizes.length c, .bool F.big, .bool F.aligned] ∧ F.sizes.length ≤ c ∧ c ≤ 9223372036854775807 ∧ Ints w (.slice A F.sizes.length c) F.sizes := by
  obtain ⟨s, rfl, h0⟩ := h
  obtain ⟨A, c, e, hk, hm, -⟩ := id h0
  subst e
  exact ⟨A, c, rfl, hk, by unfold maxLen at hm; omega, h0⟩

set_option maxRecDepth 100000 in
set_option maxHeartbeats 6400000 in
theorem validFormat_any (v : Value) (F : FL) (w : World) (hv : FormatV w v F) :
    Calls Try.prog 42 #[v] w fun e w' => e = .returned (.bool (isFormatL F)) ∧ Below w.heap.size w w' := by
  obtain ⟨A, c, rfl, hk, hm, h0⟩ := hv.form
  have HB := FBox.new h0
  go_enter Try.func42, Try.ntmps42
  go_wp2_with fail
  generalize w.alloc (.cells #[.slice A F.sizes.length c, .bool F.big, .bool F.aligned] 25) = W1 at *
  obtain ⟨⟨q1, q2, q3⟩, r1, r2, r3⟩ := HB.blk.all3
  go_loop [3] (fun i => ∃ k : Nat, k ≤ F.sizes.length ∧ i = .int .i64 k ∧ (F.sizes.take k).all okSize = true) (fun i => F.sizes.length - (intOf i).toNat)
  case atStart => exact ⟨0, Nat.zero_le _, rfl, rfl⟩
  case round =>
    obtain ⟨k, hk1, rfl, ha⟩ := hrel
    by_cases hlt : k < F.sizes.length
    · obtain ⟨b, off, rfl, hx⟩ := HB.elem k hlt
      have HS := hid (all_snoc okSize F.sizes k hlt ha)
      have HF := hid (all_false okSize F.sizes k hlt)
      clear ha
      by_cases e1 : F.sizes[k] = 1
      · rw [e1] at hx HS
        clear e1 HF
        go_wp2
        go_round
        case rel => exact ⟨k + 1, by omega, by go_num, by rw [HS.out]; rfl⟩
        case measure => simp [intOf]; omega
      by_cases e2 : F.sizes[k] = 2
      · rw [e2] at hx HS
        clear e1 e2 HF
        go_wp2
        go_round
        case rel => exact ⟨k + 1, by omega, by go_num, by rw [HS.out]; rfl⟩
        case measure => simp [intOf]; omega
      by_cases e4 : F.sizes[k] = 4
      · rw [e4] at hx HS
        clear e1 e2 e4 HF
        go_wp2
        go_round
        case rel => exact ⟨k + 1, by omega, by go_num, by rw [HS.out]; rfl⟩
        case measure => simp [intOf]; omega
      have HQ := hid (show isFormatL F = false by simp [isFormatL, HF.out (by simp [okSize, e1, e2, e4])])
      have n1 : (F.sizes[k] != 1) = true := by simpa using e1
      have n2 : (F.sizes[k] != 2) = true := by simpa using e2
      have n4 : (F.sizes[k] != 4) = true := by simpa using e4
      clear e1 e2 e4 HS HF
      go_wp2
      go_ret
      exact ⟨ret_bool HQ.out.symm, HB.below⟩
    · obtain rfl : k = F.sizes.length := by omega
      rw [List.take_of_length_le (Nat.le_refl _)] at ha
      have HQ := hid (show isFormatL F = inR F.sizes.length 1 5 by rw [Bool.eq_iff_iff]; simp [isFormatL, ha, inR]; omega)
      clear ha
      go_wp2_with fail
      refine (inRange_any _ _ _ _).mono ?_; rintro e w' ⟨rfl, rfl⟩
      go_wp2
      go_ret
      exact ⟨ret_bool HQ.out.symm, HB.below⟩

end Go.Proofs.Ytmiamnaholnnoaa
