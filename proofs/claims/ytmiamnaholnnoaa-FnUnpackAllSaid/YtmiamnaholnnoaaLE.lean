/- Contracts: the laws' own comparisons of lists. No conditions. -/
import Derived.Test.YtmiamnaholnnoaaT0
import Derived.Deep.LoopGhost
import Derived.Deep.Cut
import Derived.Deep.QuietTactic
import Derived.BigQuiet
namespace Go.Proofs.Ytmiamnaholnnoaa
open Go.RowKit

set_option maxRecDepth 100000 in
set_option maxHeartbeats 6400000 in
theorem isIn_any (v : Value) (xs : List Int) (n : Int) (w : World) (h : Ints w v xs) :
    Calls Try.prog 15 #[v, .int .i64 n] w fun e w' => e = .returned (.bool (decide (n ∈ xs))) ∧ w = w' := by
  obtain ⟨A, c, rfl, h1, h2, h3⟩ := h
  unfold maxLen at h2
  go_enter Try.func15, Try.ntmps15
  go_wp2_with fail
  go_loopg [5] xs.length (fun m i wr => ∃ k : Nat, k ≤ xs.length ∧ m = xs.length - k ∧ i = .int .i64 k ∧ Hid (∀ j : Nat, j < k → xs[j]? ≠ some n) ∧ wr = w)
  case atStart => exact ⟨0, Nat.zero_le _, rfl, rfl, hid (fun j hj => absurd hj (by omega)), rfl⟩
  case round =>
    obtain ⟨k, hk, hm, rfl, HN, rfl⟩ := hrel
    have HM := hid hm
    clear hm
    by_cases hlt : k < xs.length
    · obtain ⟨b, off, rfl, hb, hc⟩ := h3 (by omega)
      have hx := hc k xs[k] (by simp [hlt])
      have hki : (k : Int) < (xs.length : Int) := by omega
      clear hc h3
      by_cases he : xs[k] = n
      · have hE : (xs[k] == n) = true := by simp [he]
        have HQ := hid (show decide (n ∈ xs) = true by simp only [decide_eq_true_eq]; rw [← he]; exact List.getElem_mem hlt)
        clear he
        go_wp2
        go_ret
        exact ⟨ret_bool HQ.out.symm, rfl⟩
      · have hE : (xs[k] == n) = false := by simp [he]
        have HE := hid he
        clear he
        go_wp2
        go_roundg (xs.length - (k + 1))
        case measure => have := HM.out; omega
        case rel => exact ⟨k + 1, by omega, rfl, by go_num, hid (fun j hj => by
          by_cases h : j = k
          · subst h
            rw [List.getElem?_eq_getElem hlt]
            exact fun e => HE.out (by injection e)
          · exact HN.out j (by omega)), rfl⟩
    · have HQ := hid (show decide (n ∈ xs) = false by
        simp only [decide_eq_false_iff_not]
        intro hm
        obtain ⟨j, hj, he⟩ := List.mem_iff_getElem.1 hm
        exact HN.out j (by omega) (by rw [List.getElem?_eq_getElem hj, he]))
      have hki : ¬ (k : Int) < (xs.length : Int) := by omega
      clear h3
      go_wp2
      go_ret
      exact ⟨ret_bool HQ.out.symm, rfl⟩

set_option maxRecDepth 100000 in
set_option maxHeartbeats 6400000 in
theorem equalInts_same (v u : Value) (xs : List Int) (w : World) (h : Ints w v xs) (k : Ints w u xs) :
    Calls Try.prog 11 #[v, u] w fun e w' => e = .returned (.bool true) ∧ Below w.heap.size w w' := by
  obtain ⟨A, c, rfl, h1, h2, h3⟩ := h
  obtain ⟨A', c', rfl, k1, k2, k3⟩ := k
  unfold maxLen at h2 k2
  go_enter Try.func11, Try.ntmps11
  go_wp2_with fail
  go_loopg [5] xs.length (fun m i wr => ∃ k : Nat, k ≤ xs.length ∧ m = xs.length - k ∧ i = .int .i64 k ∧ Below w.heap.size w wr)
  case atStart => exact ⟨0, Nat.zero_le _, rfl, rfl, Below.refl _ _⟩
  case round =>
    obtain ⟨k, hk, hm, rfl, hB⟩ := hrel
    have HM := hid hm
    clear hm
    by_cases hlt : k < xs.length
    · obtain ⟨b, off, rfl, hb, hc⟩ := h3 (by omega)
      obtain ⟨b', off', rfl, hb', hc'⟩ := k3 (by omega)
      obtain ⟨y, hy⟩ : ∃ y, xs[k] = y := ⟨_, rfl⟩
      have hx := (hB.cell (p := ⟨b, off + k, none⟩) hb).trans (hc k y (by simp [hlt, hy]))
      have hx' := (hB.cell (p := ⟨b', off' + k, none⟩) hb').trans (hc' k y (by simp [hlt, hy]))
      have hki : (k : Int) < (xs.length : Int) := by omega
      clear hc hc' h3 k3 hy
      go_upto_region 6 with fail
      go_quiet (fail)
      go_wp2
      go_roundg (xs.length - (k + 1))
      case measure => have := HM.out; omega
      case rel => exact ⟨k + 1, by omega, rfl, by go_num, hB.trans ((below_drewN _ _).mono hB.size)⟩
    · have hki : ¬ (k : Int) < (xs.length : Int) := by omega
      clear h3 k3
      go_wp2
      go_ret
      exact ⟨rfl, hB⟩

set_option maxRecDepth 100000 in
set_option maxHeartbeats 6400000 in
theorem ascends_yes (v : Value) (xs : List Int) (w : World) (h : Ints w v xs) (ha : xs.Pairwise (· < ·)) :
    Calls Try.prog 16 #[v] w fun e w' => e = .returned (.bool true) ∧ Below w.heap.size w w' := by
  obtain ⟨A, c, rfl, h1, h2, h3⟩ := h
  unfold maxLen at h2
  have HA := hid ha
  clear ha
  go_enter Try.func16, Try.ntmps16
  go_wp2_with fail
  go_loopg [3] xs.length (fun m i wr => ∃ k : Nat, k ≤ xs.length ∧ m = xs.length - k ∧ i = .int .i64 ((k : Int) + 1) ∧ Below w.heap.size w wr)
  case atStart => exact ⟨0, Nat.zero_le _, rfl, rfl, Below.refl _ _⟩
  case round =>
    obtain ⟨k, hk, hm, rfl, hB⟩ := hrel
    have HM := hid hm
    clear hm
    by_cases hlt : k + 1 < xs.length
    · obtain ⟨b, off, rfl, hb, hc⟩ := h3 (by omega)
      obtain ⟨y, hy⟩ : ∃ y, xs[k] = y := ⟨_, rfl⟩
      obtain ⟨z, hz⟩ : ∃ z, xs[k + 1] = z := ⟨_, rfl⟩
      have hyz : ¬ z ≤ y := by
        have := List.pairwise_iff_getElem.1 HA.out k (k + 1) (by omega) hlt (by omega)
        rw [← hy, ← hz]; omega
      have hx := (hB.cell (p := ⟨b, off + k, none⟩) hb).trans (hc k y (by rw [List.getElem?_eq_getElem (by omega), hy]))
      have hx' := (hB.cell (p := ⟨b, off + (k + 1), none⟩) hb).trans (hc (k + 1) z (by rw [List.getElem?_eq_getElem hlt, hz]))
      have hki : (k : Int) + 1 < (xs.length : Int) := by omega
      have hk0 : (k : Int) < (xs.length : Int) := by omega
      have hkt : ((k : Int) + 1).toNat = k + 1 := by omega
      have hkp : 0 ≤ (k : Int) + 1 := by omega
      clear hc h3 hy hz
      go_upto_region 4 with fail
      go_quiet (fail)
      go_wp2
      go_roundg (xs.length - (k + 1))
      case measure => have := HM.out; omega
      case rel => exact ⟨k + 1, by omega, rfl, by go_num, hB.trans ((below_drewN _ _).mono hB.size)⟩
    · have hki : ¬ (k : Int) + 1 < (xs.length : Int) := by omega
      clear h3
      go_wp2
      go_ret
      exact ⟨rfl, hB⟩

end Go.Proofs.Ytmiamnaholnnoaa
