/- Contracts: places of numbers, orders. No conditions. -/
import Derived.Test.YtldblcolnjkcaaaV7
import Derived.Test.YtldblcolnjkcaaaT0
import Derived.Test.YtldblcolnjkcaaaC4
import Derived.Deep.RegionHeld3
import Derived.Deep.QuietTactic
import Derived.BigQuiet
namespace Go.Proofs.Ytldblcolnjkcaaa
open Go.RowKit

set_option maxRecDepth 100000 in
set_option maxHeartbeats 800000 in
theorem placeIn_any (v : Value) (xs : List Int) (n : Int) (w : World) (h : Ints w v xs) :
    Calls Try.prog 129 #[v, .int .i64 n] w fun e w' => e = .returned (.int .i64 (findI (· == n) xs)) ∧ w = w' := by
  obtain ⟨A, c, rfl, h1, h2, h3⟩ := h
  unfold maxLen at h2
  go_enter Try.func129, Try.ntmps129
  go_wp2
  go_loop [5] (fun i => ∃ k : Nat, k ≤ xs.length ∧ i = .int .i64 k ∧ (xs.take k).any (· == n) = false) (fun i => xs.length - (intOf i).toNat)
  case atStart => exact ⟨0, Nat.zero_le _, rfl, rfl⟩
  case round =>
    obtain ⟨k, hk, rfl, ha⟩ := hrel
    by_cases hlt : k < xs.length
    · obtain ⟨b, off, rfl, hb, hc⟩ := h3 (by omega)
      have hx := hc k xs[k] (by simp [hlt])
      have HS := hid (any_snoc (· == n) xs k hlt ha)
      have HF1 := hid (fun hp => findI_at (p := (· == n)) (xs := xs) (k := k) hlt ha hp)
      clear hc h3 ha
      cases hp : xs[k] == n
      · have HP := hid hp
        go_wp2
        go_round
        case rel => exact ⟨k + 1, by omega, by go_num, by rw [HS.out]; exact HP.out⟩
        case measure => simp [intOf]; omega
      · have HP := hid hp
        go_wp2
        go_ret
        exact ⟨ret_int (HF1.out HP.out).symm, rfl⟩
    · obtain rfl : k = xs.length := by omega
      rw [List.take_of_length_le (Nat.le_refl _)] at ha
      have HA := hid (findI_none ha); clear ha
      go_wp2
      go_ret
      exact ⟨ret_int HA.out.symm, rfl⟩

set_option maxRecDepth 100000 in
set_option maxHeartbeats 800000 in
theorem Index_any (v : Value) (xs : List Int) (n : Int) (w : World) (h : Ints w v xs) :
    Calls Try.prog 158 #[v, .int .i64 n] w fun e w' => e = .returned (.int .i64 (findI (n == ·) xs)) ∧ w = w' := by
  obtain ⟨A, c, rfl, h1, h2, h3⟩ := h
  unfold maxLen at h2
  go_enter Try.func158, Try.ntmps158
  go_wp2
  go_loop [8] (fun i => ∃ k : Nat, k ≤ xs.length ∧ i = .int .i64 k ∧ (xs.take k).any (n == ·) = false) (fun i => xs.length - (intOf i).toNat)
  case atStart => exact ⟨0, Nat.zero_le _, rfl, rfl⟩
  case round =>
    obtain ⟨k, hk, rfl, ha⟩ := hrel
    by_cases hlt : k < xs.length
    · obtain ⟨b, off, rfl, hb, hc⟩ := h3 (by omega)
      have hx := hc k xs[k] (by simp [hlt])
      have HS := hid (any_snoc (n == ·) xs k hlt ha)
      have HF1 := hid (fun hp => findI_at (p := (n == ·)) (xs := xs) (k := k) hlt ha hp)
      clear hc h3 ha
      cases hp : n == xs[k]
      · have HP := hid hp
        go_wp2
        go_round
        case rel => exact ⟨k + 1, by omega, by go_num, by rw [HS.out]; exact HP.out⟩
        case measure => simp [intOf]; omega
      · have HP := hid hp
        go_wp2
        go_ret
        exact ⟨ret_int (HF1.out HP.out).symm, rfl⟩
    · obtain rfl : k = xs.length := by omega
      rw [List.take_of_length_le (Nat.le_refl _)] at ha
      have HA := hid (findI_none ha); clear ha
      go_wp2
      go_ret
      exact ⟨ret_int HA.out.symm, rfl⟩

theorem contains_eq (xs : List Int) (n : Int) : xs.any (n == ·) = xs.contains n := by
  rw [List.contains_eq_any_beq]
set_option maxRecDepth 100000 in
set_option maxHeartbeats 800000 in
theorem Contains_any (v : Value) (xs : List Int) (n : Int) (w : World) (h : Ints w v xs) :
    Calls Try.prog 126 #[v, .int .i64 n] w fun e w' => e = .returned (.bool (xs.contains n)) ∧ w = w' := by
  have HA := hid ((findI_any (n == ·) xs).trans (contains_eq xs n))
  go_enter Try.func126, Try.ntmps126
  go_wp2_with fail
  refine (Index_any _ xs n _ h).mono ?_; rintro e w' ⟨rfl, rfl⟩
  go_wp2
  go_ret
  exact ⟨ret_bool HA.out, rfl⟩

theorem placeIn_quiet (v : Value) (xs : List Int) (n : Int) (w : World) (h : Ints w v xs) :
    Calls Try.prog 129 #[v, .int .i64 n] w fun e w' => e = .returned (.int .i64 (findI (· == n) xs)) ∧ w' = w := (placeIn_any v xs n w h).mono fun _ _ h => ⟨h.1, h.2.symm⟩

end Go.Proofs.Ytldblcolnjkcaaa
