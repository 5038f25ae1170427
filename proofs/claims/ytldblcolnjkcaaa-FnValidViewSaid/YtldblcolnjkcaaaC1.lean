/- Contracts of small functions. No conditions. -/
import Derived.Test.YtldblcolnjkcaaaBase
import Derived.Outline
namespace Go.Proofs.Ytldblcolnjkcaaa
open Go.RowKit

set_option maxHeartbeats 400000 in
theorem countOf_any (v : Value) (xs : List Int) (w : World) (h : Ints w v xs) :
    Calls Try.prog 96 #[v] w fun e w' => e = .returned (.int .i64 (prodW xs)) ∧ w = w' := by
  obtain ⟨A, c, rfl, h1, h2, h3⟩ := h
  unfold maxLen at h2
  go_enter Try.func96, Try.ntmps96
  go_wp2
  go_loop [3, 8] (fun n i => ∃ k : Nat, k ≤ xs.length ∧ i = .int .i64 k ∧ n = .int .i64 (prodW (xs.take k))) (fun _ i => xs.length - (intOf i).toNat)
  case atStart => exact ⟨0, Nat.zero_le _, rfl, rfl⟩
  case round =>
    obtain ⟨k, hk, rfl, rfl⟩ := hrel
    by_cases hlt : k < xs.length
    · obtain ⟨b, off, rfl, hb, hc⟩ := h3 (by omega)
      have hx := hc k xs[k] (by simp [hlt])
      have HS := hid (prodW_snoc (xs.take k) xs[k])
      rw [← take_snocI xs k hlt] at HS
      clear hc h3
      go_wp2
      go_round
      case rel => exact ⟨k + 1, by omega, by go_num, by rw [HS.out]⟩
      case measure => simp [intOf]; omega
    · go_wp2
      go_ret
      obtain rfl : k = xs.length := by omega
      exact ⟨by simp, rfl⟩

set_option maxHeartbeats 400000 in
theorem isShape_any (v : Value) (xs : List Int) (w : World) (h : Ints w v xs) :
    Calls Try.prog 90 #[v] w fun e w' => e = .returned (.bool (isShapeL xs)) ∧ w = w' := by
  have h0 := h
  obtain ⟨A, c, rfl, h1, h2, h3⟩ := h
  unfold maxLen at h2
  by_cases hl : xs.length ≤ 4
  · go_enter Try.func90, Try.ntmps90
    go_wp2
    go_loop [10] (fun i => ∃ k : Nat, k ≤ xs.length ∧ i = .int .i64 k ∧ (xs.take k).all okExt = true) (fun i => xs.length - (intOf i).toNat)
    case atStart => exact ⟨0, Nat.zero_le _, rfl, rfl⟩
    case round =>
      obtain ⟨k, hk, rfl, ha⟩ := hrel
      by_cases hlt : k < xs.length
      · obtain ⟨b, off, rfl, hb, hc⟩ := h3 (by omega)
        have hx := hc k xs[k] (by simp [hlt])
        have HS := hid (all_snoc okExt xs k hlt ha)
        have HF := hid (all_false okExt xs k hlt)
        clear hc h3
        by_cases hp : 0 ≤ xs[k] ∧ xs[k] ≤ 60
        · obtain ⟨hp1, hp2⟩ := hp
          go_wp2
          go_round
          case rel => exact ⟨k + 1, by omega, by go_num, by rw [HS.out]; exact inR_yes hp1 hp2⟩
          case measure => simp [intOf]; omega
        · have hq : isShapeL xs = false := by
            unfold isShapeL
            rw [HF.out (inR_no (by omega))]; simp
          have HQ := hid hq; clear hq
          by_cases hp0 : 0 ≤ xs[k]
          · have hp1 : 60 < xs[k] := by omega
            clear hp
            go_wp2
            go_ret
            exact ⟨ret_bool HQ.out.symm, rfl⟩
          · clear hp
            go_wp2
            go_ret
            exact ⟨ret_bool HQ.out.symm, rfl⟩
      · obtain rfl : k = xs.length := by omega
        have hq : isShapeL xs = decide (prodW xs ≤ 60) := by
          unfold isShapeL
          rw [List.take_of_length_le (Nat.le_refl _)] at ha
          rw [ha]; simp [hl]
        have HQ := hid hq; clear hq ha
        go_wp2_with (go_at_call 96; refine (countOf_any _ xs _ h0).mono ?_; rintro e w' ⟨rfl, rfl⟩)
        go_ret
        exact ⟨ret_bool HQ.out.symm, rfl⟩
  · have hq : isShapeL xs = false := by unfold isShapeL; simp [hl]
    have HQ := hid hq; clear hq
    go_enter Try.func90, Try.ntmps90
    go_wp2
    go_ret
    exact ⟨ret_bool HQ.out.symm, rfl⟩

end Go.Proofs.Ytldblcolnjkcaaa
