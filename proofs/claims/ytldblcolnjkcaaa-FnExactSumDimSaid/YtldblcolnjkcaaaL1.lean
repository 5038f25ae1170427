/- Contracts of the laws' own helpers: sizes, copies, comparisons, marks. No conditions. -/
import Derived.Test.YtldblcolnjkcaaaBase
import Derived.Outline
import Derived.Deep.RegionHeld3
import Derived.Deep.QuietTactic
import Derived.BigQuiet
namespace Go.Proofs.Ytldblcolnjkcaaa
open Go.RowKit

set_option maxHeartbeats 400000 in
theorem szIntS_ok (v : Value) (xs : List Int) (left : Nat) (w : World) (h : Ints w v xs) (hl : xs.length ≤ left) (h2 : left ≤ 1048576) :
    Calls Try.prog 134 #[v, .int .i64 left] w fun e w' => e = .returned (.int .i64 ((left - xs.length : Nat) : Int)) ∧ w = w' := by
  obtain ⟨A, c, rfl, h1, h2', h3⟩ := h
  unfold maxLen at h2'
  clear h3
  go_enter Try.func134, Try.ntmps134
  go_wp2
  go_ret
  exact ⟨ret_int (by omega), rfl⟩

set_option maxHeartbeats 400000 in
theorem szIntS_no (v : Value) (xs : List Int) (left : Nat) (w : World) (h : Ints w v xs) (hl : left < xs.length) (h2 : left ≤ 1048576) :
    Calls Try.prog 134 #[v, .int .i64 left] w fun e w' => e = .returned (.int .i64 (-1)) ∧ w = w' := by
  obtain ⟨A, c, rfl, h1, h2', h3⟩ := h
  unfold maxLen at h2'
  clear h3
  go_enter Try.func134, Try.ntmps134
  go_wp2
  go_ret
  exact ⟨rfl, rfl⟩

set_option maxHeartbeats 400000 in
theorem szView_ok (v : Value) (V : VL) (left : Nat) (w : World) (h : ViewV w v V) (hl : V.shape.length + V.strides.length ≤ left) (h2 : left ≤ 1048576) :
    Calls Try.prog 127 #[v, .int .i64 left] w fun e w' => e = .returned (.int .i64 ((left - V.shape.length - V.strides.length : Nat) : Int)) ∧ Below w.heap.size w w' := by
  obtain ⟨sv, tv, rfl, hs, ht⟩ := h
  go_enter Try.func127, Try.ntmps127
  go_wp2_with fail
  refine (szIntS_ok _ V.shape left _ (hs.ext (below_alloc _ _)) (by omega) h2).mono ?_; rintro e w' ⟨rfl, rfl⟩
  go_wp2_with fail
  refine (szIntS_ok _ V.strides (left - V.shape.length) _ (ht.ext (below_alloc _ _)) (by omega) (by omega)).mono ?_; rintro e w' ⟨rfl, rfl⟩
  go_wp2
  go_ret
  exact ⟨rfl, below_alloc _ _⟩

set_option maxHeartbeats 400000 in
theorem szView_no (v : Value) (V : VL) (left : Nat) (w : World) (h : ViewV w v V) (hl : left < V.shape.length + V.strides.length) (h2 : left ≤ 1048576) :
    Calls Try.prog 127 #[v, .int .i64 left] w fun e w' => e = .returned (.int .i64 (-1)) ∧ Below w.heap.size w w' := by
  obtain ⟨sv, tv, rfl, hs, ht⟩ := h
  by_cases h1 : V.shape.length ≤ left
  · go_enter Try.func127, Try.ntmps127
    go_wp2_with fail
    refine (szIntS_ok _ V.shape left _ (hs.ext (below_alloc _ _)) h1 h2).mono ?_; rintro e w' ⟨rfl, rfl⟩
    go_wp2_with fail
    refine (szIntS_no _ V.strides (left - V.shape.length) _ (ht.ext (below_alloc _ _)) (by omega) (by omega)).mono ?_; rintro e w' ⟨rfl, rfl⟩
    go_wp2
    go_ret
    exact ⟨rfl, below_alloc _ _⟩
  · go_enter Try.func127, Try.ntmps127
    go_wp2_with fail
    refine (szIntS_no _ V.shape left _ (hs.ext (below_alloc _ _)) (by omega) h2).mono ?_; rintro e w' ⟨rfl, rfl⟩
    go_wp2
    go_ret
    exact ⟨rfl, below_alloc _ _⟩

set_option maxHeartbeats 400000 in
theorem toIntS_any (v : Value) (xs : List Int) (w : World) (h : Ints w v xs) (hl : xs.length ≤ 1048576) :
    Calls Try.prog 63 #[v] w (RetOwn w xs) := by
  obtain ⟨A, c, rfl, h1, h2, h3⟩ := h
  unfold maxLen at h2
  go_enter Try.func63, Try.ntmps63
  go_wp2_with (at_make; refine mk0 _ rfl _ _ rfl xs.length rfl rfl (by omega) ?_)
  intro w0 hown0 hb0
  go_wp2
  go_loopw [4] (fun i wr => ∃ (k : Nat) (ys : List Int), k ≤ xs.length ∧ i = .int .i64 k ∧ ys.length = xs.length ∧ ys.take k = xs.take k ∧
      Own wr w.heap.size (.slice (some ⟨w.heap.size, 0, none⟩) xs.length xs.length) ys ∧ Below w.heap.size w wr) (fun i _ => xs.length - (intOf i).toNat)
  case atStart => exact ⟨0, _, Nat.zero_le _, rfl, by simp, by simp, hown0, hb0⟩
  case round =>
    obtain ⟨k, ys, hk, rfl, hyl, hyt, hown, hb⟩ := hrel
    by_cases hlt : k < xs.length
    · obtain ⟨b, off, rfl, hltb, hc⟩ := h3 (by omega)
      have hx := (hb.cell (p := ⟨b, off + k, none⟩) hltb).trans (hc k xs[k] (by simp [hlt]))
      have hyk : k < ys.length := by omega
      have hy := hown.cell k hyk
      have hf := hown.free k
      have HO := hid (hown.put k xs[k])
      have HB := hid (hb.setCell (p := ⟨w.heap.size, k, none⟩) (Nat.le_refl _) (.int .i64 xs[k]))
      have HL := hid hyl
      have HT := hid (show (ys.set k xs[k]).take (k + 1) = xs.take (k + 1) from take_set_self ys xs k xs[k] hyk hyt (take_snocI xs k hlt))
      clear hc h3 hown hb hyl hyt
      go_wp2
      go_roundw
      case rel => exact ⟨k + 1, _, by omega, by go_num, by rw [List.length_set]; exact HL.out, HT.out, HO.out, HB.out⟩
      case measure => simp [intOf]; omega
    · have e : k = xs.length := by omega
      have hyx : ys = xs := by rw [e, List.take_of_length_le (by omega), List.take_of_length_le (by omega)] at hyt; exact hyt
      have HE := hid hyx
      clear e hyx hyl hyt
      go_wp2
      go_ret
      exact ⟨_, rfl, by rw [HE.out] at hown; exact hown, hb⟩

set_option maxHeartbeats 400000 in
theorem eqIntS_yes (v v' : Value) (xs : List Int) (w : World) (h : Ints w v xs) (h' : Ints w v' xs) :
    Calls Try.prog 55 #[v, v'] w fun e w' => e = .returned (.bool true) ∧ Below w.heap.size w w' := by
  obtain ⟨A, c, rfl, h1, h2, h3⟩ := h
  obtain ⟨A', c', rfl, h1', h2', h3'⟩ := h'
  unfold maxLen at h2 h2'
  go_enter Try.func55, Try.ntmps55
  go_wp2
  go_loopw [5] (fun i wr => ∃ (k : Nat), k ≤ xs.length ∧ i = .int .i64 k ∧ Below w.heap.size w wr) (fun i _ => xs.length - (intOf i).toNat)
  case atStart => exact ⟨0, Nat.zero_le _, rfl, Below.refl _ _⟩
  case round =>
    obtain ⟨k, hk, rfl, hb⟩ := hrel
    by_cases hlt : k < xs.length
    · obtain ⟨b, off, rfl, hltb, hc⟩ := h3 (by omega)
      obtain ⟨b', off', rfl, hltb', hc'⟩ := h3' (by omega)
      have hx := (hb.cell (p := ⟨b, off + k, none⟩) hltb).trans (hc k xs[k] (by simp [hlt]))
      have hx' := (hb.cell (p := ⟨b', off' + k, none⟩) hltb').trans (hc' k xs[k] (by simp [hlt]))
      have hlti : (k : Int) < (xs.length : Int) := by omega
      have hk0 : (0 : Int) ≤ (k : Int) := by omega
      clear hc h3 hc' h3'
      go_wp2
      go_quiet (fail)
      go_wp2
      go_roundw
      case rel => exact ⟨k + 1, by omega, by go_num, hb.trans ((below_drewN wr _).mono hb.size)⟩
      case measure => simp [intOf]; omega
    · go_wp2
      go_ret
      exact ⟨rfl, hb⟩

set_option maxHeartbeats 400000 in
theorem eqView_yes (v v' : Value) (V : VL) (w : World) (h : ViewV w v V) (h' : ViewV w v' V) :
    Calls Try.prog 133 #[v, v'] w fun e w' => e = .returned (.bool true) ∧ Below w.heap.size w w' := by
  obtain ⟨sv, tv, rfl, hs, ht⟩ := h
  obtain ⟨sv', tv', rfl, hs', ht'⟩ := h'
  have hb : Below w.heap.size w ((w.alloc (.cells #[.int .i64 V.base, sv, tv] 43)).alloc (.cells #[.int .i64 V.base, sv', tv'] 43)) := (below_alloc _ _).trans ((below_alloc _ _).mono (by simp))
  go_enter Try.func133, Try.ntmps133
  go_wp2_with fail
  refine (eqIntS_yes _ _ V.shape _ (hs.ext hb) (hs'.ext hb)).mono ?_; rintro e w1 ⟨rfl, hb1⟩
  have hx1 := (hb1.cell (p := ⟨w.heap.size, 2, none⟩) (by simp; omega)).trans (by simp : _ = some tv)
  have hx2 := (hb1.cell (p := ⟨w.heap.size + 1, 2, none⟩) (by simp)).trans (by simp : _ = some tv')
  have hbt := hb.trans (hb1.mono (by simp; omega))
  go_wp2_with fail
  refine (eqIntS_yes _ _ V.strides _ (ht.ext hbt) (ht'.ext hbt)).mono ?_; rintro e w2 ⟨rfl, hb2⟩
  go_wp2
  go_ret
  exact ⟨rfl, hbt.trans (hb2.mono hbt.size)⟩

theorem marks_set (k n i : Nat) (ys : List Int) (hl : ys.length = n) (h : ys.take i = marks k i) (hi : i < n) : (ys.set i ((k + i : Nat) : Int)).take (i + 1) = marks k (i + 1) := by
  have e : marks k (i + 1) = marks k i ++ [((k + i : Nat) : Int)] := by simp [marks, List.range_succ]
  rw [e, ← h, take_snocI _ i (by simp; omega)]
  simp
  apply List.ext_getElem?
  intro j
  by_cases hj : j < i
  · rw [List.getElem?_take, List.getElem?_take, if_pos hj, if_pos hj, List.getElem?_set_ne (by omega)]
  · rw [List.getElem?_take, List.getElem?_take, if_neg hj, if_neg hj]

set_option maxHeartbeats 400000 in
theorem markIntS_any (v : Value) (xs : List Int) (k0 : Nat) (B : Nat) (w : World) (h : Own w B v xs) (hl : xs.length ≤ 1048576) (hk0 : k0 ≤ 100000000) :
    Calls Try.prog 58 #[v, .int .i64 k0] w (RetMark w B v xs.length k0) := by
  by_cases hn : 0 < xs.length
  · obtain ⟨g, cap, rfl, hBg, hg⟩ := h.row hn
    go_enter Try.func58, Try.ntmps58
    go_wp2
    go_loopw [1, 5] (fun m i wr => ∃ (k : Nat) (ys : List Int), k ≤ xs.length ∧ i = .int .i64 k ∧ m = .int .i64 ((k0 + k : Nat) : Int) ∧ ys.length = xs.length ∧ ys.take k = marks k0 k ∧
        Own wr B (.slice (some ⟨g, 0, none⟩) xs.length cap) ys ∧ w.grownBy wr (some g)) (fun _ i _ => xs.length - (intOf i).toNat)
    case atStart => exact ⟨0, xs, Nat.zero_le _, rfl, rfl, rfl, by simp [marks], h, World.grownBy.refl w _⟩
    case round =>
      obtain ⟨k, ys, hk, rfl, rfl, hyl, hyt, hown, hb⟩ := hrel
      by_cases hlt : k < xs.length
      · have hyk : k < ys.length := by omega
        have hy := hown.cell k hyk
        have hf := hown.free k
        have HO := hid (hown.put k ((k0 + k : Nat) : Int))
        have HB := hid (hb.trans (grown_set wr ⟨g, k, none⟩ (.int .i64 ((k0 + k : Nat) : Int))))
        have HL := hid hyl
        have HT := hid (marks_set k0 xs.length k ys hyl hyt hlt)
        clear hown hb hyl hyt h
        go_wp2
        go_roundw
        case rel => exact ⟨k + 1, _, by omega, by go_num, by go_num, by rw [List.length_set]; exact HL.out, HT.out, HO.out, HB.out⟩
        case measure => simp [intOf]; omega
      · obtain rfl : k = xs.length := by omega
        have hym : ys = marks k0 xs.length := by rw [← hyt, List.take_of_length_le (by omega)]
        have HE := hid hym
        clear hym hyl hyt
        go_wp2
        go_ret
        exact ⟨rfl, by rw [HE.out] at hown; exact hown, hb⟩
  · have h0 : xs.length = 0 := by omega
    have hx : xs = [] := List.eq_nil_of_length_eq_zero h0
    subst hx
    obtain ⟨A, c, rfl⟩ := h.form
    go_enter Try.func58, Try.ntmps58
    go_wp2
    refine wp_loop_rounds 1 ?_
    rw [rounds_succ]
    go_wp2
    go_ret
    exact ⟨rfl, h, World.grownBy.refl w _⟩

set_option maxHeartbeats 400000 in
theorem heldIntS_any (v : Value) (k0 n : Nat) (w : World) (h : Ints w v (marks k0 n)) (hl : n ≤ 1048576) (hk0 : k0 ≤ 100000000) :
    Calls Try.prog 59 #[v, .int .i64 k0] w fun e w' => e = .returned (.int .i64 ((k0 + n : Nat) : Int)) ∧ w = w' := by
  obtain ⟨A, c, hv, h1, h2, h3⟩ := h
  rw [marks_length] at hv h1 h3
  subst hv
  unfold maxLen at h2
  go_enter Try.func59, Try.ntmps59
  go_wp2
  go_loop [1, 5] (fun m i => ∃ (k : Nat), k ≤ n ∧ i = .int .i64 k ∧ m = .int .i64 ((k0 + k : Nat) : Int)) (fun _ i => n - (intOf i).toNat)
  case atStart => exact ⟨0, Nat.zero_le _, rfl, rfl⟩
  case round =>
    obtain ⟨k, hk, rfl, rfl⟩ := hrel
    by_cases hlt : k < n
    · obtain ⟨b, off, rfl, hltb, hc⟩ := h3 (by omega)
      have hx := hc k _ (marks_get k0 n k hlt)
      clear hc h3
      go_wp2
      go_round
      case rel => exact ⟨k + 1, by omega, by go_num, by go_num⟩
      case measure => simp [intOf]; omega
    · obtain rfl : k = n := by omega
      go_wp2
      go_ret
      exact ⟨rfl, rfl⟩

end Go.Proofs.Ytldblcolnjkcaaa
