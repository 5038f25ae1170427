/- Contracts: numbers in a range. No conditions. -/
import Derived.Test.YtmoejdnodhmglaaDoorC3va
import Derived.Outline
import Derived.Deep.RegionHeld3
import Derived.Deep.QuietTactic
import Derived.BigQuiet
namespace Go.Proofs.YtmoejdnodhmglaaDoor
open Go.RowKit

set_option maxHeartbeats 400000 in
theorem inRange_any (n lo hi : Int) (w : World) :
    Calls Tryd.prog 17 #[.int .i64 n, .int .i64 lo, .int .i64 hi] w fun e w' => e = .returned (.bool (inR n lo hi)) ∧ w = w' := by
  by_cases h1 : lo ≤ n
  · by_cases h2 : n ≤ hi
    · have H := hid (inR_yes h1 h2)
      go_enter Tryd.func17, Tryd.ntmps17
      go_wp2
      go_ret
      exact ⟨ret_bool H.out.symm, rfl⟩
    · have H := hid (inR_no (n := n) (lo := lo) (hi := hi) (by omega))
      go_enter Tryd.func17, Tryd.ntmps17
      go_wp2
      go_ret
      exact ⟨ret_bool H.out.symm, rfl⟩
  · have H := hid (inR_no (n := n) (lo := lo) (hi := hi) (by omega))
    go_enter Tryd.func17, Tryd.ntmps17
    go_wp2
    go_ret
    exact ⟨ret_bool H.out.symm, rfl⟩

set_option maxHeartbeats 400000 in
theorem allIn_any (v : Value) (xs : List Int) (lo hi : Int) (w : World) (h : Ints w v xs) :
    Calls Tryd.prog 19 #[v, .int .i64 lo, .int .i64 hi] w fun e w' => e = .returned (.bool (xs.all (inR · lo hi))) ∧ w = w' := by
  obtain ⟨A, c, rfl, h1, h2, h3⟩ := h
  unfold maxLen at h2
  go_enter Tryd.func19, Tryd.ntmps19
  go_wp2
  go_loop [7] (fun i => ∃ k : Nat, k ≤ xs.length ∧ i = .int .i64 k ∧ (xs.take k).all (inR · lo hi) = true) (fun i => xs.length - (intOf i).toNat)
  case atStart => exact ⟨0, Nat.zero_le _, rfl, rfl⟩
  case round =>
    obtain ⟨k, hk, rfl, ha⟩ := hrel
    by_cases hlt : k < xs.length
    · obtain ⟨b, off, rfl, hb, hc⟩ := h3 (by omega)
      have hx := hc k xs[k] (by simp [hlt])
      have HS := hid (all_snoc (inR · lo hi) xs k hlt ha)
      have HF := hid (all_false (inR · lo hi) xs k hlt)
      clear hc h3 ha
      cases hp : inR xs[k] lo hi
      · have HP := hid hp
        go_wp2_with (go_at_call 17; refine (inRange_any _ _ _ _).mono ?_; rintro e w' ⟨rfl, rfl⟩)
        go_ret
        exact ⟨ret_bool (HF.out HP.out).symm, rfl⟩
      · have HP := hid hp
        go_wp2_with (go_at_call 17; refine (inRange_any _ _ _ _).mono ?_; rintro e w' ⟨rfl, rfl⟩)
        go_round
        case rel => exact ⟨k + 1, by omega, by go_num, by rw [HS.out]; exact HP.out⟩
        case measure => simp [intOf]; omega
    · obtain rfl : k = xs.length := by omega
      rw [List.take_of_length_le (Nat.le_refl _)] at ha
      have HA := hid ha; clear ha
      go_wp2
      go_ret
      exact ⟨ret_bool HA.out.symm, rfl⟩

end Go.Proofs.YtmoejdnodhmglaaDoor
