/- Contracts: the numbers of a range. No conditions. (printed by mky.py) -/
import Derived.Test.YtldblcolnjkcaaaY1
import Derived.Test.YtldblcolnjkcaaaHp
import Derived.Test.YtldblcolnjkcaaaGw
import Derived.StillTailTactics
namespace Go.Proofs.Ytldblcolnjkcaaa
open Go.RowKit

set_option maxRecDepth 100000 in
set_option maxHeartbeats 800000 in
theorem numbersOf_any (r : RL) (w : World) (ha : -1000 ≤ r.a ∧ r.a ≤ 1000) (hb : -1000 ≤ r.b ∧ r.b ≤ 1000) (hs : -200 ≤ r.s ∧ r.s ≤ 200) (h0 : r.s ≠ 0) :
    Calls Try.prog 121 #[r.val] w (RetOwn w (numsR r)) := by
  obtain ⟨a, b, s⟩ := r
  simp only [RL.val, numsR] at ha hb hs h0 ⊢
  have hA := Blk.new w 56 #[.int .i64 a, .int .i64 b, .int .i64 s]
  have hW : Below w.heap.size w (w.alloc (.cells #[.int .i64 a, .int .i64 b, .int .i64 s] 56)) := (Below.refl _ _).alloc (Nat.le_refl _) _
  have hnA := hA.lt
  generalize hW1 : (w.alloc (.cells #[.int .i64 a, .int .i64 b, .int .i64 s] 56)) = W1 at *
  have HZ1 := hid (show W1.heap.size = w.heap.size + 1 by rw [← hW1]; simp)
  have HW1 := hid hW1
  clear hW1
  have hcl := cnt_le (a := a) (b := b) h0 ha hb
  have HAT := hid (fun (k : Nat) (hk : k ≤ cnt a b s) => at_bd hs h0 ha hb hk)
  rcases Int.lt_or_gt_of_ne h0 with hneg | hpos
  · have HC := hid (fun k => cnt_dn (a := a) (b := b) hneg k)
    go_enter Try.func121, Try.ntmps121
    go_wp2_with fail
    rw [HW1.out]
    clear HW1
    obtain ⟨⟨q0, q1, q2⟩, -⟩ := hA.all3
    go_wp2_with fail
    go_loopw [3, 4] (fun out x wr => ∃ (k : Nat) (y : Int), k ≤ cnt a b s ∧ y = a + k * s ∧ x = .int .i64 y ∧ Own wr W1.heap.size out ((numsL a b s).take k) ∧ Below W1.heap.size W1 wr) (fun _ x _ => (intOf x + 2000).toNat)
    case atStart => exact ⟨0, a, Nat.zero_le _, by simp, rfl, Own.empty W1 HZ1.out.symm (Nat.le_of_eq HZ1.out), below_alloc W1 _⟩
    case round =>
      obtain ⟨k, y, hk, hy, rfl, hown, hb1⟩ := hrel
      have hyb := HAT.out k hk
      rw [← hy] at hyb
      have hc := HC.out k
      rw [← hy] at hc
      have hsz := hb1.size
      obtain ⟨⟨p0, p1, p2⟩, -⟩ := (Blk.ext hA hb1 hA.lt).all3
      clear q0 q1 q2
      by_cases hlt : k < cnt a b s
      · have hyt := hc.2 hlt
        have HT := hid (numsL_snoc a b s k hlt)
        have HY := hid hy
        have HL1 := hid (show ((numsL a b s).take k).length ≤ 1000000000000 by simp [numsL_length]; omega)
        have hyn : ¬ y < b := by omega
        clear hc hy
        go_wp2_with (at_builtin; refine app1 _ rfl _ _ rfl W1.heap.size _ ((numsL a b s).take k) rfl (hown.alloc _) ⟨wr.heap.size, 0, none⟩ 1 y rfl (cell_new1 _ _ _) HL1.out (le_alloc hsz _) ?_)
        intro v1 w1 ho1 hg1 hat1
        have hq := hb1.trans (((below_alloc wr (.cells #[.int .i64 y] 3)).mono hsz).trans ((hown.alloc _).under hg1 (le_alloc hsz _)))
        clear p0 p1 p2
        obtain ⟨⟨p0, p1, p2⟩, -⟩ := (Blk.ext hA hq hA.lt).all3
        go_wp2
        go_roundw
        case rel => exact ⟨k + 1, y + s, by omega, by rw [HY.out, show ((k + 1 : Nat) : Int) = (k : Int) + 1 from by omega, Int.add_mul, Int.one_mul]; omega, rfl, by rw [HT.out, ← HY.out]; exact ho1, hq⟩
        case measure => simp [intOf]; omega
      · have hyt : ¬ b < y := fun h => hlt (hc.1 h)
        have HE := hid (show (numsL a b s).take k = numsL a b s by rw [List.take_of_length_le (by rw [numsL_length]; omega)])
        clear hc hy
        go_wp2
        go_ret
        exact ⟨_, rfl, by rw [← HE.out]; exact hown.mono hW.size, hW.trans (hb1.mono hW.size)⟩
  · have HC := hid (fun k => cnt_up (a := a) (b := b) hpos k)
    go_enter Try.func121, Try.ntmps121
    go_wp2_with fail
    rw [HW1.out]
    clear HW1
    obtain ⟨⟨q0, q1, q2⟩, -⟩ := hA.all3
    go_wp2_with fail
    go_loopw [3, 4] (fun out x wr => ∃ (k : Nat) (y : Int), k ≤ cnt a b s ∧ y = a + k * s ∧ x = .int .i64 y ∧ Own wr W1.heap.size out ((numsL a b s).take k) ∧ Below W1.heap.size W1 wr) (fun _ x _ => (2000 - intOf x).toNat)
    case atStart => exact ⟨0, a, Nat.zero_le _, by simp, rfl, Own.empty W1 HZ1.out.symm (Nat.le_of_eq HZ1.out), below_alloc W1 _⟩
    case round =>
      obtain ⟨k, y, hk, hy, rfl, hown, hb1⟩ := hrel
      have hyb := HAT.out k hk
      rw [← hy] at hyb
      have hc := HC.out k
      rw [← hy] at hc
      have hsz := hb1.size
      obtain ⟨⟨p0, p1, p2⟩, -⟩ := (Blk.ext hA hb1 hA.lt).all3
      clear q0 q1 q2
      by_cases hlt : k < cnt a b s
      · have hyt := hc.2 hlt
        have HT := hid (numsL_snoc a b s k hlt)
        have HY := hid hy
        have HL1 := hid (show ((numsL a b s).take k).length ≤ 1000000000000 by simp [numsL_length]; omega)
        have hyn : ¬ b < y := by omega
        clear hc hy
        go_wp2_with (at_builtin; refine app1 _ rfl _ _ rfl W1.heap.size _ ((numsL a b s).take k) rfl (hown.alloc _) ⟨wr.heap.size, 0, none⟩ 1 y rfl (cell_new1 _ _ _) HL1.out (le_alloc hsz _) ?_)
        intro v1 w1 ho1 hg1 hat1
        have hq := hb1.trans (((below_alloc wr (.cells #[.int .i64 y] 3)).mono hsz).trans ((hown.alloc _).under hg1 (le_alloc hsz _)))
        clear p0 p1 p2
        obtain ⟨⟨p0, p1, p2⟩, -⟩ := (Blk.ext hA hq hA.lt).all3
        go_wp2
        go_roundw
        case rel => exact ⟨k + 1, y + s, by omega, by rw [HY.out, show ((k + 1 : Nat) : Int) = (k : Int) + 1 from by omega, Int.add_mul, Int.one_mul]; omega, rfl, by rw [HT.out, ← HY.out]; exact ho1, hq⟩
        case measure => simp [intOf]; omega
      · have hyt : ¬ y < b := fun h => hlt (hc.1 h)
        have HE := hid (show (numsL a b s).take k = numsL a b s by rw [List.take_of_length_le (by rw [numsL_length]; omega)])
        clear hc hy
        go_wp2
        go_ret
        exact ⟨_, rfl, by rw [← HE.out]; exact hown.mono hW.size, hW.trans (hb1.mono hW.size)⟩

set_option maxRecDepth 100000 in
set_option maxHeartbeats 800000 in
theorem numbers_any (r : RL) (w : World) (ha : -1000 ≤ r.a ∧ r.a ≤ 1000) (hb : -1000 ≤ r.b ∧ r.b ≤ 1000) (hs : -200 ≤ r.s ∧ r.s ≤ 200) (h0 : r.s ≠ 0) :
    Calls Try.prog 123 #[r.val] w (RetOwn w (numsR r)) := by
  obtain ⟨a, b, s⟩ := r
  simp only [RL.val, numsR] at ha hb hs h0 ⊢
  have hA := Blk.new w 56 #[.int .i64 a, .int .i64 b, .int .i64 s]
  have hW : Below w.heap.size w (w.alloc (.cells #[.int .i64 a, .int .i64 b, .int .i64 s] 56)) := (Below.refl _ _).alloc (Nat.le_refl _) _
  have hnA := hA.lt
  generalize hW1 : (w.alloc (.cells #[.int .i64 a, .int .i64 b, .int .i64 s] 56)) = W1 at *
  have HZ1 := hid (show W1.heap.size = w.heap.size + 1 by rw [← hW1]; simp)
  have HW1 := hid hW1
  clear hW1
  have hcl := cnt_le (a := a) (b := b) h0 ha hb
  have HAT := hid (fun (k : Nat) (hk : k ≤ cnt a b s) => at_bd hs h0 ha hb hk)
  rcases Int.lt_or_gt_of_ne h0 with hneg | hpos
  · have HC := hid (fun k => cnt_dn (a := a) (b := b) hneg k)
    go_enter Try.func123, Try.ntmps123
    go_wp2_with fail
    rw [HW1.out]
    clear HW1
    obtain ⟨⟨q0, q1, q2⟩, -⟩ := hA.all3
    go_wp2_with fail
    go_loopw [3, 4] (fun out x wr => ∃ (k : Nat) (y : Int), k ≤ cnt a b s ∧ y = a + k * s ∧ x = .int .i64 y ∧ Own wr W1.heap.size out ((numsL a b s).take k) ∧ Below W1.heap.size W1 wr) (fun _ x _ => (intOf x + 2000).toNat)
    case atStart => exact ⟨0, a, Nat.zero_le _, by simp, rfl, Own.empty W1 HZ1.out.symm (Nat.le_of_eq HZ1.out), below_alloc W1 _⟩
    case round =>
      obtain ⟨k, y, hk, hy, rfl, hown, hb1⟩ := hrel
      have hyb := HAT.out k hk
      rw [← hy] at hyb
      have hc := HC.out k
      rw [← hy] at hc
      have hsz := hb1.size
      obtain ⟨⟨p0, p1, p2⟩, -⟩ := (Blk.ext hA hb1 hA.lt).all3
      clear q0 q1 q2
      by_cases hlt : k < cnt a b s
      · have hyt := hc.2 hlt
        have HT := hid (numsL_snoc a b s k hlt)
        have HY := hid hy
        have HL1 := hid (show ((numsL a b s).take k).length ≤ 1000000000000 by simp [numsL_length]; omega)
        have hyn : ¬ y < b := by omega
        clear hc hy
        go_wp2_with (at_builtin; refine app1 _ rfl _ _ rfl W1.heap.size _ ((numsL a b s).take k) rfl (hown.alloc _) ⟨wr.heap.size, 0, none⟩ 1 y rfl (cell_new1 _ _ _) HL1.out (le_alloc hsz _) ?_)
        intro v1 w1 ho1 hg1 hat1
        have hq := hb1.trans (((below_alloc wr (.cells #[.int .i64 y] 3)).mono hsz).trans ((hown.alloc _).under hg1 (le_alloc hsz _)))
        clear p0 p1 p2
        obtain ⟨⟨p0, p1, p2⟩, -⟩ := (Blk.ext hA hq hA.lt).all3
        go_wp2
        go_roundw
        case rel => exact ⟨k + 1, y + s, by omega, by rw [HY.out, show ((k + 1 : Nat) : Int) = (k : Int) + 1 from by omega, Int.add_mul, Int.one_mul]; omega, rfl, by rw [HT.out, ← HY.out]; exact ho1, hq⟩
        case measure => simp [intOf]; omega
      · have hyt : ¬ b < y := fun h => hlt (hc.1 h)
        have HE := hid (show (numsL a b s).take k = numsL a b s by rw [List.take_of_length_le (by rw [numsL_length]; omega)])
        clear hc hy
        go_wp2
        go_ret
        exact ⟨_, rfl, by rw [← HE.out]; exact hown.mono hW.size, hW.trans (hb1.mono hW.size)⟩
  · have HC := hid (fun k => cnt_up (a := a) (b := b) hpos k)
    go_enter Try.func123, Try.ntmps123
    go_wp2_with fail
    rw [HW1.out]
    clear HW1
    obtain ⟨⟨q0, q1, q2⟩, -⟩ := hA.all3
    go_wp2_with fail
    go_loopw [3, 4] (fun out x wr => ∃ (k : Nat) (y : Int), k ≤ cnt a b s ∧ y = a + k * s ∧ x = .int .i64 y ∧ Own wr W1.heap.size out ((numsL a b s).take k) ∧ Below W1.heap.size W1 wr) (fun _ x _ => (2000 - intOf x).toNat)
    case atStart => exact ⟨0, a, Nat.zero_le _, by simp, rfl, Own.empty W1 HZ1.out.symm (Nat.le_of_eq HZ1.out), below_alloc W1 _⟩
    case round =>
      obtain ⟨k, y, hk, hy, rfl, hown, hb1⟩ := hrel
      have hyb := HAT.out k hk
      rw [← hy] at hyb
      have hc := HC.out k
      rw [← hy] at hc
      have hsz := hb1.size
      obtain ⟨⟨p0, p1, p2⟩, -⟩ := (Blk.ext hA hb1 hA.lt).all3
      clear q0 q1 q2
      by_cases hlt : k < cnt a b s
      · have hyt := hc.2 hlt
        have HT := hid (numsL_snoc a b s k hlt)
        have HY := hid hy
        have HL1 := hid (show ((numsL a b s).take k).length ≤ 1000000000000 by simp [numsL_length]; omega)
        have hyn : ¬ b < y := by omega
        clear hc hy
        go_wp2_with (at_builtin; refine app1 _ rfl _ _ rfl W1.heap.size _ ((numsL a b s).take k) rfl (hown.alloc _) ⟨wr.heap.size, 0, none⟩ 1 y rfl (cell_new1 _ _ _) HL1.out (le_alloc hsz _) ?_)
        intro v1 w1 ho1 hg1 hat1
        have hq := hb1.trans (((below_alloc wr (.cells #[.int .i64 y] 3)).mono hsz).trans ((hown.alloc _).under hg1 (le_alloc hsz _)))
        clear p0 p1 p2
        obtain ⟨⟨p0, p1, p2⟩, -⟩ := (Blk.ext hA hq hA.lt).all3
        go_wp2
        go_roundw
        case rel => exact ⟨k + 1, y + s, by omega, by rw [HY.out, show ((k + 1 : Nat) : Int) = (k : Int) + 1 from by omega, Int.add_mul, Int.one_mul]; omega, rfl, by rw [HT.out, ← HY.out]; exact ho1, hq⟩
        case measure => simp [intOf]; omega
      · have hyt : ¬ y < b := fun h => hlt (hc.1 h)
        have HE := hid (show (numsL a b s).take k = numsL a b s by rw [List.take_of_length_le (by rw [numsL_length]; omega)])
        clear hc hy
        go_wp2
        go_ret
        exact ⟨_, rfl, by rw [← HE.out]; exact hown.mono hW.size, hW.trans (hb1.mono hW.size)⟩

end Go.Proofs.Ytldblcolnjkcaaa
