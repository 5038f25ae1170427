/- Contracts: the laws' own comparison of lists. No conditions. -/
import Derived.Test.YtfiphjifnjnmbaaT0
import Derived.Deep.LoopGhost
import Derived.Deep.Cut
import Derived.Deep.QuietTactic
import Derived.BigQuiet
namespace Go.Proofs.Ytfiphjifnjnmbaa
open Go.RowKit

set_option maxRecDepth 100000 in
set_option maxHeartbeats 6400000 in
theorem equalInts_same (v u : Value) (xs : List Int) (w : World) (h : Ints w v xs) (k : Ints w u xs) :
    Calls Try.prog 13 #[v, u] w fun e w' => e = .returned (.bool true) ∧ Below w.heap.size w w' := by
  obtain ⟨A, c, rfl, h1, h2, h3⟩ := h
  obtain ⟨A', c', rfl, k1, k2, k3⟩ := k
  unfold maxLen at h2 k2
  go_enter Try.func13, Try.ntmps13
  go_wp2_with fail
  go_loopg [5] xs.length (fun m i wr => ∃ k : Nat, k ≤ xs.length ∧ m = xs.length - k ∧ i = .int .i64 k ∧ Below w.heap.size w wr)
  case atStart => exact ⟨0, Nat.zero_le _, rfl, rfl, Below.refl _ _⟩
  case round =>
    obtain ⟨k, hk, hm, rfl, hB⟩ := hrel
    have HM := hid hm
    clear hm
    by_cases hlt : k < xs.length
    · obtain ⟨b, off, rfl, hb, hc⟩ := h3 (by omega)
      obtain ⟨b', off', rfl, hb', hc'⟩ := k3 (by omega)
      obtain ⟨y, hy⟩ : ∃ y, xs[k] = y := ⟨_, rfl⟩
      have hx := (hB.cell (p := ⟨b, off + k, none⟩) hb).trans (hc k y (by simp [hlt, hy]))
      have hx' := (hB.cell (p := ⟨b', off' + k, none⟩) hb').trans (hc' k y (by simp [hlt, hy]))
      have hki : (k : Int) < (xs.length : Int) := by omega
      clear hc hc' h3 k3 hy
      go_upto_region 6 with fail
      go_quiet (fail)
      go_wp2
      go_roundg (xs.length - (k + 1))
      case measure => have := HM.out; omega
      case rel => exact ⟨k + 1, by omega, rfl, by go_num, hB.trans ((below_drewN _ _).mono hB.size)⟩
    · have hki : ¬ (k : Int) < (xs.length : Int) := by omega
      clear h3 k3
      go_wp2
      go_ret
      exact ⟨rfl, hB⟩

end Go.Proofs.Ytfiphjifnjnmbaa
