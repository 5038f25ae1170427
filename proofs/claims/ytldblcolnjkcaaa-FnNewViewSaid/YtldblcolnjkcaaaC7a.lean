/- Contracts: equal lists. No conditions. -/
import Derived.Test.YtldblcolnjkcaaaBase
import Derived.Outline
import Derived.Deep.QuietTactic
import Derived.BigQuiet
namespace Go.Proofs.Ytldblcolnjkcaaa
open Go.RowKit
set_option maxHeartbeats 400000 in
theorem Equal_any (v v' : Value) (xs ys : List Int) (w : World) (h : Ints w v xs) (h' : Ints w v' ys) :
    Calls Try.prog 115 #[v, v'] w fun e w' => e = .returned (.bool (eqL xs ys)) ∧ Below w.heap.size w w' := by
  obtain ⟨A, c, rfl, h1, h2, h3⟩ := h
  obtain ⟨A', c', rfl, h1', h2', h3'⟩ := h'
  unfold maxLen at h2 h2'
  by_cases hl : xs.length = ys.length
  · have l1 : xs.length ≤ ys.length := by omega
    have l2 : ys.length ≤ xs.length := by omega
    have hne : ((xs.length : Int) != (ys.length : Int)) = false := by simp [hl]
    clear hl
    go_enter Try.func115, Try.ntmps115
    go_wp2
    go_loopw [13] (fun i wr => ∃ (k : Nat), k ≤ xs.length ∧ i = .int .i64 k ∧ Hid (xs.take k = ys.take k) ∧ Below w.heap.size w wr) (fun i _ => xs.length - (intOf i).toNat)
    case atStart => exact ⟨0, Nat.zero_le _, rfl, hid rfl, Below.refl _ _⟩
    case round =>
      obtain ⟨k, hk, rfl, ha, hb⟩ := hrel
      by_cases hlt : k < xs.length
      · have hlt2 : k < ys.length := by omega
        obtain ⟨b, off, rfl, hltb, hc⟩ := h3 (by omega)
        obtain ⟨b', off', rfl, hltb', hc'⟩ := h3' (by omega)
        have hx := (hb.cell (p := ⟨b, off + k, none⟩) hltb).trans (hc k xs[k] (by simp [hlt]))
        have hx' := (hb.cell (p := ⟨b', off' + k, none⟩) hltb').trans (hc' k ys[k] (by simp [hlt2]))
        have hlti : (k : Int) < (xs.length : Int) := by omega
        have hlti2 : (k : Int) < (ys.length : Int) := by omega
        have hk0 : (0 : Int) ≤ (k : Int) := by omega
        clear hc h3 hc' h3'
        by_cases he : xs[k] = ys[k]
        · have HT := hid (take_eq_snoc hlt hlt2 ha.out he)
          have hee : (xs[k] != ys[k]) = false := by simp [he]
          clear he
          go_wp2
          go_quiet (fail)
          go_wp2
          go_roundw
          case rel => exact ⟨k + 1, by omega, by go_num, HT, hb.trans ((below_drewN wr _).mono hb.size)⟩
          case measure => simp [intOf]; omega
        · have HT := hid (eqL_at hlt hlt2 he)
          have hee : (xs[k] != ys[k]) = true := by simp [he]
          clear he
          go_wp2
          go_quiet (fail)
          go_wp2
          go_ret
          exact ⟨ret_bool HT.out.symm, hb.trans ((below_drewN wr _).mono hb.size)⟩
      · have HT := hid (eqL_yes (xs := xs) (ys := ys) (by have := ha.out; rwa [List.take_of_length_le (by omega), List.take_of_length_le (by omega)] at this))
        go_wp2
        go_ret
        exact ⟨ret_bool HT.out.symm, hb⟩
  · have HT := hid (eqL_len hl)
    have hne : ((xs.length : Int) != (ys.length : Int)) = true := by simp; omega
    go_enter Try.func115, Try.ntmps115
    go_wp2
    go_ret
    exact ⟨ret_bool HT.out.symm, Below.refl _ _⟩

end Go.Proofs.Ytldblcolnjkcaaa
