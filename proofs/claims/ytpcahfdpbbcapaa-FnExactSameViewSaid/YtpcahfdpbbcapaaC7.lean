/- Contracts: equal lists, least and greatest. No conditions. -/
import Derived.Test.YtpcahfdpbbcapaaC6
import Derived.Outline
import Derived.Deep.QuietTactic
import Derived.BigQuiet
namespace Go.Proofs.Ytpcahfdpbbcapaa
open Go.RowKit

set_option maxHeartbeats 400000 in
theorem Equal_any (v v' : Value) (xs ys : List Int) (w : World) (h : Ints w v xs) (h' : Ints w v' ys) :
    Calls Try.prog 70 #[v, v'] w fun e w' => e = .returned (.bool (eqL xs ys)) ∧ Below w.heap.size w w' := by
  obtain ⟨A, c, rfl, h1, h2, h3⟩ := h
  obtain ⟨A', c', rfl, h1', h2', h3'⟩ := h'
  unfold maxLen at h2 h2'
  by_cases hl : xs.length = ys.length
  · have l1 : xs.length ≤ ys.length := by omega
    have l2 : ys.length ≤ xs.length := by omega
    have hne : ((xs.length : Int) != (ys.length : Int)) = false := by simp [hl]
    clear hl
    go_enter Try.func70, Try.ntmps70
    go_wp2
    go_loopw [13] (fun i wr => ∃ (k : Nat), k ≤ xs.length ∧ i = .int .i64 k ∧ Hid (xs.take k = ys.take k) ∧ Below w.heap.size w wr) (fun i _ => xs.length - (intOf i).toNat)
    case atStart => exact ⟨0, Nat.zero_le _, rfl, hid rfl, Below.refl _ _⟩
    case round =>
      obtain ⟨k, hk, rfl, ha, hb⟩ := hrel
      by_cases hlt : k < xs.length
      · have hlt2 : k < ys.length := by omega
        obtain ⟨b, off, rfl, hltb, hc⟩ := h3 (by omega)
        obtain ⟨b', off', rfl, hltb', hc'⟩ := h3' (by omega)
        have hx := (hb.cell (p := ⟨b, off + k, none⟩) hltb).trans (hc k xs[k] (by simp [hlt]))
        have hx' := (hb.cell (p := ⟨b', off' + k, none⟩) hltb').trans (hc' k ys[k] (by simp [hlt2]))
        have hlti : (k : Int) < (xs.length : Int) := by omega
        have hlti2 : (k : Int) < (ys.length : Int) := by omega
        have hk0 : (0 : Int) ≤ (k : Int) := by omega
        clear hc h3 hc' h3'
        by_cases he : xs[k] = ys[k]
        · have HT := hid (take_eq_snoc hlt hlt2 ha.out he)
          have hee : (xs[k] != ys[k]) = false := by simp [he]
          clear he
          go_wp2
          go_quiet (fail)
          go_wp2
          go_roundw
          case rel => exact ⟨k + 1, by omega, by go_num, HT, hb.trans ((below_drewN wr _).mono hb.size)⟩
          case measure => simp [intOf]; omega
        · have HT := hid (eqL_at hlt hlt2 he)
          have hee : (xs[k] != ys[k]) = true := by simp [he]
          clear he
          go_wp2
          go_quiet (fail)
          go_wp2
          go_ret
          exact ⟨ret_bool HT.out.symm, hb.trans ((below_drewN wr _).mono hb.size)⟩
      · have HT := hid (eqL_yes (xs := xs) (ys := ys) (by have := ha.out; rwa [List.take_of_length_le (by omega), List.take_of_length_le (by omega)] at this))
        go_wp2
        go_ret
        exact ⟨ret_bool HT.out.symm, hb⟩
  · have HT := hid (eqL_len hl)
    have hne : ((xs.length : Int) != (ys.length : Int)) = true := by simp; omega
    go_enter Try.func70, Try.ntmps70
    go_wp2
    go_ret
    exact ⟨ret_bool HT.out.symm, Below.refl _ _⟩

set_option maxHeartbeats 400000 in
theorem sameInts_any (v v' : Value) (xs ys : List Int) (w : World) (h : Ints w v xs) (h' : Ints w v' ys) :
    Calls Try.prog 67 #[v, v'] w fun e w' => e = .returned (.bool (eqL xs ys)) ∧ Below w.heap.size w w' := by
  obtain ⟨A, c, rfl, h1, h2, h3⟩ := h
  obtain ⟨A', c', rfl, h1', h2', h3'⟩ := h'
  unfold maxLen at h2 h2'
  by_cases hl : xs.length = ys.length
  · have l1 : xs.length ≤ ys.length := by omega
    have l2 : ys.length ≤ xs.length := by omega
    have hne : ((xs.length : Int) != (ys.length : Int)) = false := by simp [hl]
    clear hl
    go_enter Try.func67, Try.ntmps67
    go_wp2
    go_loopw [5] (fun i wr => ∃ (k : Nat), k ≤ xs.length ∧ i = .int .i64 k ∧ Hid (xs.take k = ys.take k) ∧ Below w.heap.size w wr) (fun i _ => xs.length - (intOf i).toNat)
    case atStart => exact ⟨0, Nat.zero_le _, rfl, hid rfl, Below.refl _ _⟩
    case round =>
      obtain ⟨k, hk, rfl, ha, hb⟩ := hrel
      by_cases hlt : k < xs.length
      · have hlt2 : k < ys.length := by omega
        obtain ⟨b, off, rfl, hltb, hc⟩ := h3 (by omega)
        obtain ⟨b', off', rfl, hltb', hc'⟩ := h3' (by omega)
        have hx := (hb.cell (p := ⟨b, off + k, none⟩) hltb).trans (hc k xs[k] (by simp [hlt]))
        have hx' := (hb.cell (p := ⟨b', off' + k, none⟩) hltb').trans (hc' k ys[k] (by simp [hlt2]))
        have hlti : (k : Int) < (xs.length : Int) := by omega
        have hlti2 : (k : Int) < (ys.length : Int) := by omega
        have hk0 : (0 : Int) ≤ (k : Int) := by omega
        clear hc h3 hc' h3'
        by_cases he : xs[k] = ys[k]
        · have HT := hid (take_eq_snoc hlt hlt2 ha.out he)
          have hee : (xs[k] != ys[k]) = false := by simp [he]
          clear he
          go_wp2
          go_quiet (fail)
          go_wp2
          go_roundw
          case rel => exact ⟨k + 1, by omega, by go_num, HT, hb.trans ((below_drewN wr _).mono hb.size)⟩
          case measure => simp [intOf]; omega
        · have HT := hid (eqL_at hlt hlt2 he)
          have hee : (xs[k] != ys[k]) = true := by simp [he]
          clear he
          go_wp2
          go_quiet (fail)
          go_wp2
          go_ret
          exact ⟨ret_bool HT.out.symm, hb.trans ((below_drewN wr _).mono hb.size)⟩
      · have HT := hid (eqL_yes (xs := xs) (ys := ys) (by have := ha.out; rwa [List.take_of_length_le (by omega), List.take_of_length_le (by omega)] at this))
        go_wp2
        go_ret
        exact ⟨ret_bool HT.out.symm, hb⟩
  · have HT := hid (eqL_len hl)
    have hne : ((xs.length : Int) != (ys.length : Int)) = true := by simp; omega
    go_enter Try.func67, Try.ntmps67
    go_wp2
    go_ret
    exact ⟨ret_bool HT.out.symm, Below.refl _ _⟩

theorem minI_snoc (xs : List Int) (k : Nat) (h : k < xs.length) : (xs.take (k + 1)).foldl mn (hd0 xs) = mn ((xs.take k).foldl mn (hd0 xs)) xs[k] := by
  rw [take_snocI xs k h, List.foldl_append]; rfl
theorem minI_one (xs : List Int) (h : 0 < xs.length) : (xs.take 1).foldl mn (hd0 xs) = xs[0] := by
  cases xs with
  | nil => simp at h
  | cons x xs => simp [hd0, mn]
set_option maxHeartbeats 400000 in
theorem Min_any (v : Value) (xs : List Int) (w : World) (h : Ints w v xs) (hn : 0 < xs.length) :
    Calls Try.prog 75 #[v] w fun e w' => e = .returned (.int .i64 (minI xs)) ∧ w = w' := by
  obtain ⟨A, c, rfl, h1, h2, h3⟩ := h
  unfold maxLen at h2
  obtain ⟨b, off, rfl, hb, hc⟩ := h3 hn
  have h0 := hc 0 xs[0] (by simp [hn])
  simp only [Nat.add_zero] at h0
  have HO := hid (minI_one xs hn)
  clear h3
  have HC := hid hc; clear hc
  go_enter Try.func75, Try.ntmps75
  go_wp2
  go_loop [3, 4] (fun m i => ∃ k : Nat, 1 ≤ k ∧ k ≤ xs.length ∧ i = .int .i64 k ∧ m = .int .i64 ((xs.take k).foldl mn (hd0 xs))) (fun _ i => xs.length - (intOf i).toNat)
  case atStart => exact ⟨1, Nat.le_refl _, hn, rfl, by rw [HO.out]⟩
  case round =>
    obtain ⟨k, hk1, hk, rfl, rfl⟩ := hrel
    by_cases hlt : k < xs.length
    · have hx := HC.out k xs[k] (by simp [hlt])
      have HS := hid (minI_snoc xs k hlt)
      go_wp2
      go_round
      case rel => exact ⟨k + 1, by omega, by omega, by go_num, by rw [HS.out]; rfl⟩
      case measure => simp [intOf]; omega
    · obtain rfl : k = xs.length := by omega
      go_wp2
      go_ret
      exact ⟨by simp [minI], rfl⟩

theorem maxI_snoc (xs : List Int) (k : Nat) (h : k < xs.length) : (xs.take (k + 1)).foldl mx (hd0 xs) = mx ((xs.take k).foldl mx (hd0 xs)) xs[k] := by
  rw [take_snocI xs k h, List.foldl_append]; rfl
theorem maxI_one (xs : List Int) (h : 0 < xs.length) : (xs.take 1).foldl mx (hd0 xs) = xs[0] := by
  cases xs with
  | nil => simp at h
  | cons x xs => simp [hd0, mx]
set_option maxHeartbeats 400000 in
theorem Max_any (v : Value) (xs : List Int) (w : World) (h : Ints w v xs) (hn : 0 < xs.length) :
    Calls Try.prog 76 #[v] w fun e w' => e = .returned (.int .i64 (maxI xs)) ∧ w = w' := by
  obtain ⟨A, c, rfl, h1, h2, h3⟩ := h
  unfold maxLen at h2
  obtain ⟨b, off, rfl, hb, hc⟩ := h3 hn
  have h0 := hc 0 xs[0] (by simp [hn])
  simp only [Nat.add_zero] at h0
  have HO := hid (maxI_one xs hn)
  clear h3
  have HC := hid hc; clear hc
  go_enter Try.func76, Try.ntmps76
  go_wp2
  go_loop [3, 4] (fun m i => ∃ k : Nat, 1 ≤ k ∧ k ≤ xs.length ∧ i = .int .i64 k ∧ m = .int .i64 ((xs.take k).foldl mx (hd0 xs))) (fun _ i => xs.length - (intOf i).toNat)
  case atStart => exact ⟨1, Nat.le_refl _, hn, rfl, by rw [HO.out]⟩
  case round =>
    obtain ⟨k, hk1, hk, rfl, rfl⟩ := hrel
    by_cases hlt : k < xs.length
    · have hx := HC.out k xs[k] (by simp [hlt])
      have HS := hid (maxI_snoc xs k hlt)
      go_wp2
      go_round
      case rel => exact ⟨k + 1, by omega, by omega, by go_num, by rw [HS.out]; rfl⟩
      case measure => simp [intOf]; omega
    · obtain rfl : k = xs.length := by omega
      go_wp2
      go_ret
      exact ⟨by simp [maxI], rfl⟩

end Go.Proofs.Ytpcahfdpbbcapaa
