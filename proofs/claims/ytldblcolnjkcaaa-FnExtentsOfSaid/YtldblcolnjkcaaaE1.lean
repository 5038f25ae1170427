/- Contracts: places of numbers, orders. No conditions. -/
import Derived.Test.YtldblcolnjkcaaaV7
import Derived.Test.YtldblcolnjkcaaaE1a
import Derived.Test.YtldblcolnjkcaaaD2a
import Derived.Deep.RegionHeld3
import Derived.Deep.QuietTactic
import Derived.BigQuiet
namespace Go.Proofs.Ytldblcolnjkcaaa
open Go.RowKit

/-- No number stands twice among the first k. -/
def freshAt (xs : List Int) (k : Nat) : Bool := !(xs.take k).contains (xs.getD k 0)
def diffTo (xs : List Int) (k : Nat) : Bool := (List.range k).all (freshAt xs)
def diffL (xs : List Int) : Bool := diffTo xs xs.length
theorem diffTo_snoc (xs : List Int) (k : Nat) (h : diffTo xs k = true) : diffTo xs (k + 1) = freshAt xs k := by
  simp only [diffTo] at h
  simp [diffTo, List.range_succ, List.all_append, h]
theorem diffTo_false (xs : List Int) (k : Nat) (hk : k < xs.length) (h : freshAt xs k = false) : diffL xs = false := by
  simp only [diffL, diffTo, List.all_eq_false, List.mem_range]
  exact ⟨k, hk, by simp [h]⟩
theorem contains_eq' (xs : List Int) (n : Int) : xs.any (· == n) = xs.contains n := by
  rw [List.contains_eq_any_beq]; congr 1; funext x; exact Bool.beq_comm ..
set_option maxRecDepth 100000 in
set_option maxHeartbeats 800000 in
theorem different_any (v : Value) (xs : List Int) (w : World) (h : Ints w v xs) :
    Calls Try.prog 163 #[v] w fun e w' => e = .returned (.bool (diffL xs)) ∧ Below w.heap.size w w' := by
  have hints := h
  obtain ⟨A, c, rfl, h1, h2, h3⟩ := h
  unfold maxLen at h2
  go_enter Try.func163, Try.ntmps163
  go_wp2
  go_loopw [3] (fun i wr => ∃ k : Nat, k ≤ xs.length ∧ i = .int .i64 k ∧ diffTo xs k = true ∧ Below w.heap.size w wr) (fun i _ => xs.length - (intOf i).toNat)
  case atStart => exact ⟨0, Nat.zero_le _, rfl, rfl, Below.refl _ _⟩
  case round =>
    obtain ⟨k, hk, rfl, ha, hb⟩ := hrel
    by_cases hlt : k < xs.length
    · obtain ⟨b, off, rfl, hb0, hc⟩ := h3 (by omega)
      have hx := (hb.cell (p := ⟨b, off + k, none⟩) hb0).trans (hc k xs[k] (by simp [hlt]))
      have HT := hid ((hints.ext hb).take k hk)
      have HE := hid (show decide (0 ≤ findI (· == xs[k]) (xs.take k)) = !freshAt xs k by
        rw [findI_any, contains_eq']; simp [freshAt, hlt])
      have HS := hid (diffTo_snoc xs k ha)
      have HF := hid (diffTo_false xs k hlt)
      have hki : (k : Int) < (xs.length : Int) := by omega
      clear hc h3 ha hints
      cases hf : freshAt xs k
      · have HQ := hid (HF.out hf)
        have hr : 0 ≤ findI (· == xs[k]) (xs.take k) := of_decide_eq_true (by rw [HE.out, hf]; rfl)
        clear hf
        go_wp2
        go_quiet ((go_at_call 129; exact Calls.quiet_of_same (placeIn_quiet _ _ _ _ (HT.out.ext (below_drewN _ _)))))
        go_wp2
        go_ret
        exact ⟨ret_bool HQ.out.symm, hb.trans ((below_drewN wr _).mono hb.size)⟩
      · have HP := hid (HS.out.trans hf)
        have hr : findI (· == xs[k]) (xs.take k) < 0 := Int.not_le.mp (of_decide_eq_false (by rw [HE.out, hf]; rfl))
        clear hf
        go_wp2
        go_quiet ((go_at_call 129; exact Calls.quiet_of_same (placeIn_quiet _ _ _ _ (HT.out.ext (below_drewN _ _)))))
        go_wp2
        go_roundw
        case rel => exact ⟨k + 1, by omega, by go_num, HP.out, hb.trans ((below_drewN wr _).mono hb.size)⟩
        case measure => simp [intOf]; omega
    · obtain rfl : k = xs.length := by omega
      have HQ := hid ha
      clear ha
      go_wp2
      go_ret
      exact ⟨ret_bool HQ.out.symm, hb⟩

end Go.Proofs.Ytldblcolnjkcaaa
