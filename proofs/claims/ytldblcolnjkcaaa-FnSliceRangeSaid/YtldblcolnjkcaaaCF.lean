/- Contract: ContainsFunc over a closure with a capture. No conditions. (printed by mkcf.py) -/
import Derived.Test.YtldblcolnjkcaaaC4
import Derived.Outline
namespace Go.Proofs.Ytldblcolnjkcaaa
open Go.RowKit

set_option maxRecDepth 100000 in
set_option maxHeartbeats 400000 in
theorem IndexFuncP_anyF (fn g : Nat) (hcf : ∀ (ar : Array Value) (w : World), (callFunc fn ar).run Try.prog w = .ok (.enter fn ar) w) (p : Int → Bool) (v : Value) (xs : List Int) (w : World)
    (hf : ∀ x, Calls Try.prog fn #[.int .i64 x, .pointer (some ⟨g, 0, none⟩)] w fun e w' => e = .returned (.bool (p x)) ∧ w = w') (h : Ints w v xs) :
    Calls Try.prog 157 #[v, .func (Fn.func fn) #[] #[.pointer (some ⟨g, 0, none⟩)]] w fun e w' => e = .returned (.int .i64 (findI p xs)) ∧ w = w' := by
  have HF := hid hf; clear hf
  obtain ⟨A, c, rfl, h1, h2, h3⟩ := h
  unfold maxLen at h2
  go_enter Try.func157, Try.ntmps157
  go_wp2
  go_loop [8] (fun i => ∃ k : Nat, k ≤ xs.length ∧ i = .int .i64 k ∧ (xs.take k).any p = false) (fun i => xs.length - (intOf i).toNat)
  case atStart => exact ⟨0, Nat.zero_le _, rfl, rfl⟩
  case round =>
    obtain ⟨k, hk, rfl, ha⟩ := hrel
    by_cases hlt : k < xs.length
    · obtain ⟨b, off, rfl, hb, hc⟩ := h3 (by omega)
      have hx := hc k xs[k] (by simp [hlt])
      have HS := hid (any_snoc p xs k hlt ha)
      have HF1 := hid (fun hp => findI_at (p := p) (xs := xs) (k := k) hlt ha hp)
      clear hc h3 ha
      cases hp : p xs[k]
      · have HP := hid hp
        go_wp2_with fail
        refine (HF.out _).mono ?_; rintro e w' ⟨rfl, rfl⟩
        go_wp2
        go_round
        case rel => exact ⟨k + 1, by omega, by go_num, by rw [HS.out]; exact HP.out⟩
        case measure => simp [intOf]; omega
      · have HP := hid hp
        go_wp2_with fail
        refine (HF.out _).mono ?_; rintro e w' ⟨rfl, rfl⟩
        go_wp2
        go_ret
        exact ⟨ret_int (HF1.out HP.out).symm, rfl⟩
    · obtain rfl : k = xs.length := by omega
      rw [List.take_of_length_le (Nat.le_refl _)] at ha
      have HA := hid (findI_none ha); clear ha
      go_wp2
      go_ret
      exact ⟨ret_int HA.out.symm, rfl⟩

set_option maxHeartbeats 400000 in
theorem ContainsFuncP_anyF (fn g : Nat) (hcf : ∀ (ar : Array Value) (w : World), (callFunc fn ar).run Try.prog w = .ok (.enter fn ar) w) (p : Int → Bool) (v : Value) (xs : List Int) (w : World)
    (hf : ∀ x, Calls Try.prog fn #[.int .i64 x, .pointer (some ⟨g, 0, none⟩)] w fun e w' => e = .returned (.bool (p x)) ∧ w = w') (h : Ints w v xs) :
    Calls Try.prog 124 #[v, .func (Fn.func fn) #[] #[.pointer (some ⟨g, 0, none⟩)]] w fun e w' => e = .returned (.bool (xs.any p)) ∧ w = w' := by
  have HF := hid hf; clear hf
  have HA := hid (findI_any p xs)
  go_enter Try.func124, Try.ntmps124
  go_wp2_with fail
  refine (IndexFuncP_anyF fn g hcf p _ xs _ HF.out h).mono ?_; rintro e w' ⟨rfl, rfl⟩
  go_wp2
  go_ret
  exact ⟨ret_bool HA.out, rfl⟩

end Go.Proofs.Ytldblcolnjkcaaa
