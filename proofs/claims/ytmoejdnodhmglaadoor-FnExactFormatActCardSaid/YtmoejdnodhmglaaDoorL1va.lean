/- Contracts of the laws' own helpers: sizes, copies, comparisons, marks. No conditions. -/
import Derived.Test.YtmoejdnodhmglaaDoorBase
import Derived.Outline
import Derived.Deep.RegionHeld3
import Derived.Deep.QuietTactic
import Derived.BigQuiet
namespace Go.Proofs.YtmoejdnodhmglaaDoor
open Go.RowKit

set_option maxHeartbeats 400000 in
theorem szIntS_ok (v : Value) (xs : List Int) (left : Nat) (w : World) (h : Ints w v xs) (hl : xs.length ≤ left) (h2 : left ≤ 1048576) :
    Calls Tryd.prog 9 #[v, .int .i64 left] w fun e w' => e = .returned (.int .i64 ((left - xs.length : Nat) : Int)) ∧ w = w' := by
  obtain ⟨A, c, rfl, h1, h2', h3⟩ := h
  unfold maxLen at h2'
  clear h3
  go_enter Tryd.func9, Tryd.ntmps9
  go_wp2
  go_ret
  exact ⟨ret_int (by omega), rfl⟩

set_option maxHeartbeats 400000 in
theorem szIntS_no (v : Value) (xs : List Int) (left : Nat) (w : World) (h : Ints w v xs) (hl : left < xs.length) (h2 : left ≤ 1048576) :
    Calls Tryd.prog 9 #[v, .int .i64 left] w fun e w' => e = .returned (.int .i64 (-1)) ∧ w = w' := by
  obtain ⟨A, c, rfl, h1, h2', h3⟩ := h
  unfold maxLen at h2'
  clear h3
  go_enter Tryd.func9, Tryd.ntmps9
  go_wp2
  go_ret
  exact ⟨rfl, rfl⟩

set_option maxHeartbeats 400000 in
theorem toIntS_any (v : Value) (xs : List Int) (w : World) (h : Ints w v xs) (hl : xs.length ≤ 1048576) :
    Calls Tryd.prog 13 #[v] w (RetOwn w xs) := by
  obtain ⟨A, c, rfl, h1, h2, h3⟩ := h
  unfold maxLen at h2
  go_enter Tryd.func13, Tryd.ntmps13
  go_wp2_with (at_make; refine mk0 _ rfl _ _ rfl xs.length rfl rfl (by omega) ?_)
  intro w0 hown0 hb0
  go_wp2
  go_loopw [4] (fun i wr => ∃ (k : Nat) (ys : List Int), k ≤ xs.length ∧ i = .int .i64 k ∧ ys.length = xs.length ∧ ys.take k = xs.take k ∧
      Own wr w.heap.size (.slice (some ⟨w.heap.size, 0, none⟩) xs.length xs.length) ys ∧ Below w.heap.size w wr) (fun i _ => xs.length - (intOf i).toNat)
  case atStart => exact ⟨0, _, Nat.zero_le _, rfl, by simp, by simp, hown0, hb0⟩
  case round =>
    obtain ⟨k, ys, hk, rfl, hyl, hyt, hown, hb⟩ := hrel
    by_cases hlt : k < xs.length
    · obtain ⟨b, off, rfl, hltb, hc⟩ := h3 (by omega)
      have hx := (hb.cell (p := ⟨b, off + k, none⟩) hltb).trans (hc k xs[k] (by simp [hlt]))
      have hyk : k < ys.length := by omega
      have hy := hown.cell k hyk
      have hf := hown.free k
      have HO := hid (hown.put k xs[k])
      have HB := hid (hb.setCell (p := ⟨w.heap.size, k, none⟩) (Nat.le_refl _) (.int .i64 xs[k]))
      have HL := hid hyl
      have HT := hid (show (ys.set k xs[k]).take (k + 1) = xs.take (k + 1) from take_set_self ys xs k xs[k] hyk hyt (take_snocI xs k hlt))
      clear hc h3 hown hb hyl hyt
      go_wp2
      go_roundw
      case rel => exact ⟨k + 1, _, by omega, by go_num, by rw [List.length_set]; exact HL.out, HT.out, HO.out, HB.out⟩
      case measure => simp [intOf]; omega
    · have e : k = xs.length := by omega
      have hyx : ys = xs := by rw [e, List.take_of_length_le (by omega), List.take_of_length_le (by omega)] at hyt; exact hyt
      have HE := hid hyx
      clear e hyx hyl hyt
      go_wp2
      go_ret
      exact ⟨_, rfl, by rw [HE.out] at hown; exact hown, hb⟩

set_option maxHeartbeats 400000 in
theorem eqIntS_yes (v v' : Value) (xs : List Int) (w : World) (h : Ints w v xs) (h' : Ints w v' xs) :
    Calls Tryd.prog 16 #[v, v'] w fun e w' => e = .returned (.bool true) ∧ Below w.heap.size w w' := by
  obtain ⟨A, c, rfl, h1, h2, h3⟩ := h
  obtain ⟨A', c', rfl, h1', h2', h3'⟩ := h'
  unfold maxLen at h2 h2'
  go_enter Tryd.func16, Tryd.ntmps16
  go_wp2
  go_loopw [5] (fun i wr => ∃ (k : Nat), k ≤ xs.length ∧ i = .int .i64 k ∧ Below w.heap.size w wr) (fun i _ => xs.length - (intOf i).toNat)
  case atStart => exact ⟨0, Nat.zero_le _, rfl, Below.refl _ _⟩
  case round =>
    obtain ⟨k, hk, rfl, hb⟩ := hrel
    by_cases hlt : k < xs.length
    · obtain ⟨b, off, rfl, hltb, hc⟩ := h3 (by omega)
      obtain ⟨b', off', rfl, hltb', hc'⟩ := h3' (by omega)
      have hx := (hb.cell (p := ⟨b, off + k, none⟩) hltb).trans (hc k xs[k] (by simp [hlt]))
      have hx' := (hb.cell (p := ⟨b', off' + k, none⟩) hltb').trans (hc' k xs[k] (by simp [hlt]))
      have hlti : (k : Int) < (xs.length : Int) := by omega
      have hk0 : (0 : Int) ≤ (k : Int) := by omega
      clear hc h3 hc' h3'
      go_wp2
      go_quiet (fail)
      go_wp2
      go_roundw
      case rel => exact ⟨k + 1, by omega, by go_num, hb.trans ((below_drewN wr _).mono hb.size)⟩
      case measure => simp [intOf]; omega
    · go_wp2
      go_ret
      exact ⟨rfl, hb⟩

theorem marks_set (k n i : Nat) (ys : List Int) (hl : ys.length = n) (h : ys.take i = marks k i) (hi : i < n) : (ys.set i ((k + i : Nat) : Int)).take (i + 1) = marks k (i + 1) := by
  have e : marks k (i + 1) = marks k i ++ [((k + i : Nat) : Int)] := by simp [marks, List.range_succ]
  rw [e, ← h, take_snocI _ i (by simp; omega)]
  simp
  apply List.ext_getElem?
  intro j
  by_cases hj : j < i
  · rw [List.getElem?_take, List.getElem?_take, if_pos hj, if_pos hj, List.getElem?_set_ne (by omega)]
  · rw [List.getElem?_take, List.getElem?_take, if_neg hj, if_neg hj]

end Go.Proofs.YtmoejdnodhmglaaDoor
