/- Contract: the normal form of numbers. No conditions. (printed by mkn.py) -/
import Derived.Test.YtldblcolnjkcaaaY1
import Derived.Test.YtldblcolnjkcaaaHp
import Derived.Test.YtldblcolnjkcaaaGw
import Derived.StillTailTactics
import Derived.Deep.Cut
namespace Go.Proofs.Ytldblcolnjkcaaa
open Go.RowKit

set_option maxRecDepth 100000 in
set_option maxHeartbeats 6400000 in
theorem normal_any (v : Value) (xs : List Int) (w : World) (hv : Ints w v xs) (hl : xs.length ≤ 100000) (hbd : ∀ x ∈ xs, -100000 ≤ x ∧ x ≤ 100000) :
    Calls Try.prog 108 #[v] w fun e w' => e = .returned (normL xs).val ∧ Below w.heap.size w w' := by
  obtain ⟨A, c, rfl, hc1, hc2, hr⟩ := hv
  unfold maxLen at hc2
  have HB := hid hbd
  clear hbd
  obtain ⟨n, hn⟩ : ∃ n, n = xs.length := ⟨_, rfl⟩
  rw [← hn] at hc1 hr hl ⊢
  have hR := Blk.new w 56 #[.int .i64 0, .int .i64 0, .int .i64 0]
  have hW : Below w.heap.size w (w.alloc (.cells #[.int .i64 0, .int .i64 0, .int .i64 0] 56)) := (Below.refl _ _).alloc (Nat.le_refl _) _
  have hnR := hR.lt
  generalize hW1 : (w.alloc (.cells #[.int .i64 0, .int .i64 0, .int .i64 0] 56)) = W1 at *
  have HZ1 := hid (show W1.heap.size = w.heap.size + 1 by rw [← hW1]; simp)
  have HW1 := hid hW1
  clear hW1
  rcases Nat.lt_or_ge n 1 with h0 | h0
  · obtain rfl : n = 0 := by omega
    have HN := hid (show normL xs = ⟨0, 0, 1⟩ by simp [normL, ← hn])
    clear hn hr
    go_enter Try.func108, Try.ntmps108
    go_upto_region 1 with fail
    rw [HW1.out]
    clear HW1
    have H0 := Hp.start W1
    obtain ⟨⟨q1_0, q1_1, q1_2⟩, r1_0, r1_1, r1_2⟩ := ((Blk.ext hR H0.below hR.lt)).all3
    go_wp2
    refine bodyPost_ret (v := .agg #[.int .i64 0, .int .i64 0, .int .i64 1]) (by simp [results, Try.results108, go_sem, q1_0, q1_1, q1_2]) rfl ?_
    exact ⟨by (try rw [HN.out]); (first | rfl | (rw [show y + 1 - 2 = y - 1 from by omega]; rfl)), below3 (hW.trans (H0.below.mono hW.size)) (by omega) _ _ _⟩
  obtain ⟨bs, os, rfl, hbs, hcell⟩ := hr (by omega)
  have hl0 : 0 < xs.length := by omega
  obtain ⟨x0, hx⟩ : ∃ x, x = xs[0] := ⟨_, rfl⟩
  have b0 := HB.out xs[0] (List.getElem_mem hl0)
  have hx0 := (hW.cell (p := ⟨bs, os + 0, none⟩) hbs).trans (hcell 0 xs[0] (by simp [hl0]))
  have g0 : xs.getD 0 0 = x0 := by simp [hl0, hx]
  rw [← hx] at b0 hx0
  simp only [Nat.add_zero] at hx0
  have hbs1 := Nat.lt_of_lt_of_le hbs hW.size
  have hw0 : IntKind.i64.wrap (x0 + 1) = x0 + 1 := IntWalk.i64_in _ (by omega)
  rcases Nat.lt_or_ge n 2 with h1 | h1
  · obtain rfl : n = 1 := by omega
    have HN := hid (show normL xs = ⟨x0, x0 + 1, 1⟩ by simp only [normL, ← hn, g0]; rfl)
    clear hn g0 hx
    go_enter Try.func108, Try.ntmps108
    go_upto_region 1 with fail
    rw [HW1.out]
    clear HW1
    have H0 := Hp.start W1
    obtain ⟨⟨q1_0, q1_1, q1_2⟩, r1_0, r1_1, r1_2⟩ := ((Blk.ext hR H0.below hR.lt)).all3
    have q2 := (H0.below.cell (p := ⟨bs, os, none⟩) hbs1).trans hx0
    go_upto_region 5 with fail
    have qf0 := fun x : ExtW W1 => (x.h.cell (p := ⟨bs, os, none⟩) hbs1).trans hx0
    have hn6 : 0 < 1 := by omega
    refine region_mk 8 (by kernel_rfl) (by kernel_rfl) ?_
    apply Exists.intro
    simp only [List.take_succ_cons, List.take_zero, List.drop_succ_cons, List.drop_zero]
    repeat (first
      | (apply grow_val (by rfl); (focus (intro x; (go_simp; try with_reducible rfl); done)); simp only [Act.put, List.setIfInBounds_toArray, List.set_cons_zero, List.set_cons_succ])
      | (apply grow_skip (by rfl); simp only [Act.put, List.setIfInBounds_toArray, List.set_cons_zero, List.set_cons_succ]))
    refine grow_nil ?_
    rintro x - -
    obtain ⟨w2, hb2⟩ := x
    have H2 := H0.nx hb2
    clear qf0 q1_0 q1_1 q1_2 r1_0 r1_1 r1_2 q2
    obtain ⟨⟨q3_0, q3_1, q3_2⟩, r3_0, r3_1, r3_2⟩ := ((Blk.ext hR H2.below hR.lt)).all3
    go_wp2
    refine bodyPost_ret (v := .agg #[.int .i64 x0, .int .i64 (x0 + 1), .int .i64 1]) (by simp [results, Try.results108, go_sem, q3_0, q3_1, q3_2]) rfl ?_
    exact ⟨by (try rw [HN.out]); (first | rfl | (rw [show y + 1 - 2 = y - 1 from by omega]; rfl)), below3 (hW.trans (H2.below.mono hW.size)) (by omega) _ _ _⟩
  have hl1 : 1 < xs.length := by omega
  obtain ⟨x1, hy⟩ : ∃ x, x = xs[1] := ⟨_, rfl⟩
  have b1 := HB.out xs[1] (List.getElem_mem hl1)
  have hx1 := (hW.cell (p := ⟨bs, os + 1, none⟩) hbs).trans (hcell 1 xs[1] (by simp [hl1]))
  have g1 : xs.getD 1 0 = x1 := by simp [hl1, hy]
  rw [← hy] at b1 hx1
  have hl2 : n - 1 < xs.length := by omega
  obtain ⟨y, hz⟩ : ∃ x, x = xs[n - 1] := ⟨_, rfl⟩
  have b2 := HB.out xs[n - 1] (List.getElem_mem hl2)
  have hx2 := (hW.cell (p := ⟨bs, os + (n - 1), none⟩) hbs).trans (hcell (n - 1) xs[n - 1] (by simp [hl2]))
  have g2 : lastD xs = y := by unfold lastD; rw [← hn]; simp [hl2, hz]
  rw [← hz] at b2 hx2
  have e0 : ((n : Int) == 0) = false := by simp; omega
  have e1 : ((n : Int) == 1) = false := by simp; omega
  have HNN : ∀ r, (if x1 - x0 < 0 then (⟨x0, y - 1, x1 - x0⟩ : RL) else ⟨x0, y + 1, x1 - x0⟩) = r → normL xs = r := by
    rintro r rfl
    simp only [normL, ← hn, g0, g1, g2, show ¬ n = 0 by omega, show ¬ n = 1 by omega, if_false]
  have HNN := hid HNN
  have hw1 : IntKind.i64.wrap (x1 - x0) = x1 - x0 := IntWalk.i64_in _ (by omega)
  have hw2 : IntKind.i64.wrap ((n : Int) - 1) = (n : Int) - 1 := IntWalk.i64_in _ (by omega)
  have hw3 : IntKind.i64.wrap (y + 1) = y + 1 := IntWalk.i64_in _ (by omega)
  have hw4 : IntKind.i64.wrap (y + 1 - 2) = y - 1 := by rw [show y + 1 - 2 = y - 1 by omega]; exact IntWalk.i64_in _ (by omega)
  have hn1 : ((n : Int) - 1).toNat = n - 1 := by omega
  have hn2 : (n : Int) - 1 < (n : Int) := by omega
  have hn3 : 0 ≤ (n : Int) - 1 := by omega
  have hn4 : (0 : Int) < (n : Int) := by omega
  have hn5 : (1 : Int) < (n : Int) := by omega
  have hn6 : 0 < n := by omega
  have hn7 : (1 : Int) ≤ (n : Int) := by omega
  have hn8 : 1 ≤ n := by omega
  clear hn g0 g1 g2 hx hy hz hcell hr
  by_cases hneg : x1 - x0 < 0
  · go_enter Try.func108, Try.ntmps108
    go_upto_region 1 with fail
    rw [HW1.out]
    clear HW1
    have H0 := Hp.start W1
    obtain ⟨⟨q1_0, q1_1, q1_2⟩, r1_0, r1_1, r1_2⟩ := ((Blk.ext hR H0.below hR.lt)).all3
    have HN := hid (HNN.out _ rfl)
    rw [if_pos hneg] at HN
    clear HNN
    have q2 := (H0.below.cell (p := ⟨bs, os, none⟩) hbs1).trans hx0
    have q3 := (H0.below.cell (p := ⟨bs, os + 1, none⟩) hbs1).trans hx1
    have q4 := (H0.below.cell (p := ⟨bs, os + (n - 1), none⟩) hbs1).trans hx2
    go_upto_region 6 with fail
    clear q1_0 q1_1 q1_2 r1_0 r1_1 r1_2 q2 q3 q4
    have qf0 := fun x : ExtW W1 => (x.h.cell (p := ⟨bs, os, none⟩) hbs1).trans hx0
    have qf1 := fun x : ExtW W1 => (x.h.cell (p := ⟨bs, os + 1, none⟩) hbs1).trans hx1
    have qf2 := fun x : ExtW W1 => (x.h.cell (p := ⟨bs, os + (n - 1), none⟩) hbs1).trans hx2
    refine region_mk 8 (by kernel_rfl) (by kernel_rfl) ?_
    apply Exists.intro
    simp only [List.take_succ_cons, List.take_zero, List.drop_succ_cons, List.drop_zero]
    repeat (first
      | (apply grow_val (by rfl); (focus (intro x; (go_simp; try with_reducible rfl); done)); simp only [Act.put, List.setIfInBounds_toArray, List.set_cons_zero, List.set_cons_succ])
      | (apply grow_skip (by rfl); simp only [Act.put, List.setIfInBounds_toArray, List.set_cons_zero, List.set_cons_succ]))
    refine grow_nil ?_
    rintro x - -
    obtain ⟨w2, hb2⟩ := x
    have H2 := H0.nx hb2
    clear qf0 qf1 qf2
    clear hw1 hw2 hw3 hw4
    have q5 := (H2.below.cell (p := ⟨bs, os, none⟩) hbs1).trans hx0
    have q6 := (H2.below.cell (p := ⟨bs, os + 1, none⟩) hbs1).trans hx1
    have q7 := (H2.below.cell (p := ⟨bs, os + (n - 1), none⟩) hbs1).trans hx2
    obtain ⟨⟨q8_0, q8_1, q8_2⟩, r8_0, r8_1, r8_2⟩ := ((Blk.ext hR H2.below hR.lt)).all3
    go_wp2
    refine bodyPost_ret (v := .agg #[.int .i64 x0, .int .i64 (y - 1), .int .i64 (x1 - x0)]) (by simp [results, Try.results108, go_sem, q8_0, q8_1, q8_2]) rfl ?_
    exact ⟨by (try rw [HN.out]); (first | rfl | (rw [show y + 1 - 2 = y - 1 from by omega]; rfl)), below3 (hW.trans (H2.below.mono hW.size)) (by omega) _ _ _⟩
  go_enter Try.func108, Try.ntmps108
  go_upto_region 1 with fail
  rw [HW1.out]
  clear HW1
  have H0 := Hp.start W1
  obtain ⟨⟨q1_0, q1_1, q1_2⟩, r1_0, r1_1, r1_2⟩ := ((Blk.ext hR H0.below hR.lt)).all3
  have HN := hid (HNN.out _ rfl)
  rw [if_neg hneg] at HN
  clear HNN
  have q2 := (H0.below.cell (p := ⟨bs, os, none⟩) hbs1).trans hx0
  have q3 := (H0.below.cell (p := ⟨bs, os + 1, none⟩) hbs1).trans hx1
  have q4 := (H0.below.cell (p := ⟨bs, os + (n - 1), none⟩) hbs1).trans hx2
  go_upto_region 6 with fail
  clear q1_0 q1_1 q1_2 r1_0 r1_1 r1_2 q2 q3 q4
  have qf0 := fun x : ExtW W1 => (x.h.cell (p := ⟨bs, os, none⟩) hbs1).trans hx0
  have qf1 := fun x : ExtW W1 => (x.h.cell (p := ⟨bs, os + 1, none⟩) hbs1).trans hx1
  have qf2 := fun x : ExtW W1 => (x.h.cell (p := ⟨bs, os + (n - 1), none⟩) hbs1).trans hx2
  refine region_mk 8 (by kernel_rfl) (by kernel_rfl) ?_
  apply Exists.intro
  simp only [List.take_succ_cons, List.take_zero, List.drop_succ_cons, List.drop_zero]
  repeat (first
    | (apply grow_val (by rfl); (focus (intro x; (go_simp; try with_reducible rfl); done)); simp only [Act.put, List.setIfInBounds_toArray, List.set_cons_zero, List.set_cons_succ])
    | (apply grow_skip (by rfl); simp only [Act.put, List.setIfInBounds_toArray, List.set_cons_zero, List.set_cons_succ]))
  refine grow_nil ?_
  rintro x - -
  obtain ⟨w2, hb2⟩ := x
  have H2 := H0.nx hb2
  clear qf0 qf1 qf2
  clear hw1 hw2 hw3 hw4
  have q5 := (H2.below.cell (p := ⟨bs, os, none⟩) hbs1).trans hx0
  have q6 := (H2.below.cell (p := ⟨bs, os + 1, none⟩) hbs1).trans hx1
  have q7 := (H2.below.cell (p := ⟨bs, os + (n - 1), none⟩) hbs1).trans hx2
  obtain ⟨⟨q8_0, q8_1, q8_2⟩, r8_0, r8_1, r8_2⟩ := ((Blk.ext hR H2.below hR.lt)).all3
  go_wp2
  refine bodyPost_ret (v := .agg #[.int .i64 x0, .int .i64 (y + 1), .int .i64 (x1 - x0)]) (by simp [results, Try.results108, go_sem, q8_0, q8_1, q8_2]) rfl ?_
  exact ⟨by (try rw [HN.out]); (first | rfl | (rw [show y + 1 - 2 = y - 1 from by omega]; rfl)), below3 (hW.trans (H2.below.mono hW.size)) (by omega) _ _ _⟩

end Go.Proofs.Ytldblcolnjkcaaa
