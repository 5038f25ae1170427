/- Contracts: ranks. No conditions. -/
import Derived.Test.YtldblcolnjkcaaaV3
import Derived.Outline
import Derived.Deep.QuietTactic
import Derived.BigQuiet
namespace Go.Proofs.Ytldblcolnjkcaaa
open Go.RowKit

set_option maxRecDepth 100000 in
set_option maxHeartbeats 800000 in
theorem rank_any (v iv : Value) (shape index : List Int) (w : World) (h : Ints w v shape) (hi : Ints w iv index) (hlen : shape.length = index.length) :
    Calls Try.prog 94 #[v, iv] w fun e w' => e = .returned (.int .i64 (rankW shape index)) ∧ Below w.heap.size w w' := by
  obtain ⟨A, c, rfl, h1, h2, h3⟩ := h
  obtain ⟨A', c', rfl, h1', h2', h3'⟩ := hi
  unfold maxLen at h2 h2'
  have HL := hid hlen
  have hle : shape.length ≤ index.length := by omega
  clear hlen
  go_enter Try.func94, Try.ntmps94
  go_wp2
  go_loopw [5, 6] (fun n i wr => ∃ k : Nat, k ≤ shape.length ∧ i = .int .i64 k ∧ n = .int .i64 (rankW (shape.take k) index) ∧ Below w.heap.size w wr) (fun _ i _ => shape.length - (intOf i).toNat)
  case atStart => exact ⟨0, Nat.zero_le _, rfl, rfl, Below.refl _ _⟩
  case round =>
    obtain ⟨k, hk, rfl, rfl, hb⟩ := hrel
    by_cases hlt : k < shape.length
    · obtain ⟨b, off, rfl, hblt, hc⟩ := h3 (by omega)
      obtain ⟨b', off', rfl, hblt', hc'⟩ := h3' (by omega)
      have hk2 : k < index.length := by omega
      have hx := (hb.cell (p := ⟨b, off + k, none⟩) hblt).trans (hc k shape[k] (by simp [hlt]))
      have hx' := (hb.cell (p := ⟨b', off' + k, none⟩) hblt').trans (hc' k index[k] (by simp [hk2]))
      have HS := hid (rankW_snoc shape index k hlt hk2)
      have hlti : (k : Int) < (shape.length : Int) := by omega
      have hlti2 : (k : Int) < (index.length : Int) := by omega
      have hk0 : (0 : Int) ≤ (k : Int) := by omega
      clear hc h3 hc' h3'
      go_wp2
      go_quiet (fail)
      go_wp2
      go_roundw
      case rel => exact ⟨k + 1, by omega, by go_num, by rw [HS.out], hb.trans ((below_drewN wr _).mono hb.size)⟩
      case measure => simp [intOf]; omega
    · go_wp2
      go_ret
      obtain rfl : k = shape.length := by omega
      exact ⟨by simp, hb⟩

end Go.Proofs.Ytldblcolnjkcaaa
