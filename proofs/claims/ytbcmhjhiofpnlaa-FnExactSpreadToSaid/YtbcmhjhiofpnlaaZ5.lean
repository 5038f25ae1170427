/- Contract: SpreadTo: SpreadTo of the statement. No conditions. (printed by mkp.py) -/
import Derived.Test.YtbcmhjhiofpnlaaZ2
import Derived.Test.YtbcmhjhiofpnlaaGm
import Derived.Test.YtbcmhjhiofpnlaaZ4
import Derived.Test.YtbcmhjhiofpnlaaD2
import Derived.Test.YtbcmhjhiofpnlaaV1
import Derived.StillTailTactics
import Derived.Deep.Cut
namespace Go.Proofs.Ytbcmhjhiofpnlaa
open Go.RowKit

set_option maxRecDepth 100000 in
set_option maxHeartbeats 6400000 in
theorem sSpreadTo_any (v vx : Value) (V : VL) (X : List Int) (w : World) (hv : ViewV w v V) (hx : Ints w vx X) :
    Calls Try.prog 29 #[v, vx] w (RetViewB w (spreadL V X) (okSpread V X)) := by
  have hv0 := hv
  obtain ⟨sv, tv, rfl, hsv, htv⟩ := hv
  obtain ⟨As, cs, es, hcs0, hcs, -⟩ := id hsv
  subst es
  obtain ⟨At, ct, et, hct0, hct, -⟩ := id htv
  subst et
  have hx0 := hx
  obtain ⟨Ax, cx, ex, hcx0, hcx, -⟩ := id hx
  subst ex
  unfold maxLen at hcs hct hcx
  have hA := (Blk.new w 28 #[.int .i64 V.base, .slice As V.shape.length cs, .slice At V.strides.length ct]).alloc (.cells #[.int .i64 0, .slice none 0 0, .slice none 0 0] 28)
  have hR := Blk.new (w.alloc (.cells #[.int .i64 V.base, .slice As V.shape.length cs, .slice At V.strides.length ct] 28)) 28 #[.int .i64 0, .slice none 0 0, .slice none 0 0]
  simp only [World.size_alloc] at hR
  have hW : Below w.heap.size w ((w.alloc (.cells #[.int .i64 V.base, .slice As V.shape.length cs, .slice At V.strides.length ct] 28)).alloc (.cells #[.int .i64 0, .slice none 0 0, .slice none 0 0] 28)) := ((Below.refl _ _).alloc (Nat.le_refl _) _).alloc (by simp <;> omega) _
  have hnA := hA.lt
  have hnR := hR.lt
  generalize hW1 : ((w.alloc (.cells #[.int .i64 V.base, .slice As V.shape.length cs, .slice At V.strides.length ct] 28)).alloc (.cells #[.int .i64 0, .slice none 0 0, .slice none 0 0] 28)) = W1 at *
  have HZ1 := hid (show W1.heap.size = w.heap.size + 2 by rw [← hW1]; simp)
  have HW1 := hid hW1
  clear hW1
  have hxs1 := hx0.ext hW
  cases cV : isViewL V
  · have HQ := hid (show spreadL V X = VL.zero ∧ okSpread V X = false by
      have h : okSpread V X = false := by simp [okSpread, cV]
      exact ⟨spread_no h, h⟩)
    go_enter Try.func29, Try.ntmps29
    go_wp2_with fail
    rw [HW1.out]
    clear HW1
    have H0 := Hp.start W1
    obtain ⟨⟨q1_0, q1_1, q1_2⟩, r1_0, r1_1, r1_2⟩ := ((Blk.ext hA H0.below hA.lt)).all3
    go_wp2_with fail
    refine (validView_any _ V _ ((hv0.ext hW).ext H0.below)).mono ?_; rintro e w2 ⟨rfl, hb2⟩
    clear q1_0 q1_1 q1_2 r1_0 r1_1 r1_2
    have H2 := H0.nx hb2
    obtain ⟨⟨q2_0, q2_1, q2_2⟩, r2_0, r2_1, r2_2⟩ := ((Blk.ext hR H2.below hR.lt)).all3
    go_wp2
    refine bodyPost_ret (v := .tuple #[.agg #[.int .i64 0, .slice none 0 0, .slice none 0 0], .bool false]) (by simp [results, Try.results29, go_sem, q2_0, q2_1, q2_2]) rfl ?_
    rw [HQ.out.1, HQ.out.2]
    exact ⟨_, _, rfl, Own.nil _ _, Own.nil _ _, Sep.none_left _, below3 (hW.trans (H2.below.mono hW.size)) (by omega) _ _ _⟩
  cases cX : isShapeL X
  · have HQ := hid (show spreadL V X = VL.zero ∧ okSpread V X = false by
      have h : okSpread V X = false := by simp [okSpread, cX]
      exact ⟨spread_no h, h⟩)
    go_enter Try.func29, Try.ntmps29
    go_wp2_with fail
    rw [HW1.out]
    clear HW1
    have H0 := Hp.start W1
    obtain ⟨⟨q1_0, q1_1, q1_2⟩, r1_0, r1_1, r1_2⟩ := ((Blk.ext hA H0.below hA.lt)).all3
    go_wp2_with fail
    refine (validView_any _ V _ ((hv0.ext hW).ext H0.below)).mono ?_; rintro e w2 ⟨rfl, hb2⟩
    clear q1_0 q1_1 q1_2 r1_0 r1_1 r1_2
    have H2 := H0.nx hb2
    obtain ⟨⟨q2_0, q2_1, q2_2⟩, r2_0, r2_1, r2_2⟩ := ((Blk.ext hA H2.below hA.lt)).all3
    go_wp2_with fail
    refine (validShape_any _ X _ (hxs1.ext H2.below)).mono ?_; rintro e w' ⟨rfl, rfl⟩
    obtain ⟨⟨q3_0, q3_1, q3_2⟩, r3_0, r3_1, r3_2⟩ := ((Blk.ext hR H2.below hR.lt)).all3
    go_wp2
    refine bodyPost_ret (v := .tuple #[.agg #[.int .i64 0, .slice none 0 0, .slice none 0 0], .bool false]) (by simp [results, Try.results29, go_sem, q3_0, q3_1, q3_2]) rfl ?_
    rw [HQ.out.1, HQ.out.2]
    exact ⟨_, _, rfl, Own.nil _ _, Own.nil _ _, Sep.none_left _, below3 (hW.trans (H2.below.mono hW.size)) (by omega) _ _ _⟩
  have HV := hid cV
  have HX := hid cX
  by_cases hl : V.shape.length ≤ X.length
  · cases cB : okSpread V X
    · have HQ := hid (show spreadL V X = VL.zero ∧ okSpread V X = false from ⟨spread_no cB, cB⟩)
      clear cB
      go_enter Try.func29, Try.ntmps29
      go_wp2_with fail
      rw [HW1.out]
      clear HW1
      have H0 := Hp.start W1
      obtain ⟨⟨q1_0, q1_1, q1_2⟩, r1_0, r1_1, r1_2⟩ := ((Blk.ext hA H0.below hA.lt)).all3
      go_wp2_with fail
      refine (validView_any _ V _ ((hv0.ext hW).ext H0.below)).mono ?_; rintro e w2 ⟨rfl, hb2⟩
      clear q1_0 q1_1 q1_2 r1_0 r1_1 r1_2
      have H2 := H0.nx hb2
      obtain ⟨⟨q2_0, q2_1, q2_2⟩, r2_0, r2_1, r2_2⟩ := ((Blk.ext hA H2.below hA.lt)).all3
      go_wp2_with fail
      refine (validShape_any _ X _ (hxs1.ext H2.below)).mono ?_; rintro e w' ⟨rfl, rfl⟩
      obtain ⟨⟨q3_0, q3_1, q3_2⟩, r3_0, r3_1, r3_2⟩ := ((Blk.ext hA H2.below hA.lt)).all3
      go_wp2_with fail
      refine (spread_any _ _ V X _ ((hv0.ext hW).ext H2.below) (hxs1.ext H2.below) HV.out HX.out hl).mono ?_; rintro e w3 ⟨s4, t4, rfl, ho, hp, hsep, hb3⟩
      clear q2_0 q2_1 q2_2 r2_0 r2_1 r2_2 q3_0 q3_1 q3_2 r3_0 r3_1 r3_2
      rw [HQ.out.2]
      have H3 := H2.nx hb3
      obtain ⟨A8, c8, e8⟩ := ho.form
      obtain ⟨B8, d8, f8⟩ := hp.form
      subst e8 f8
      generalize spreadL V X = Z at *
      have hZ : ViewV w3 (.agg #[.int .i64 Z.base, .slice A8 Z.shape.length c8, .slice B8 Z.strides.length d8]) Z := ⟨_, _, rfl, ho.ints, hp.ints⟩
      have hZZ := hZ.ext ((Below.refl w3.heap.size w3).alloc (Nat.le_refl _) (.cells #[.int .i64 Z.base, .slice A8 Z.shape.length c8, .slice B8 Z.strides.length d8] 28))
      have H4 := H3.alloc 28 #[.int .i64 Z.base, .slice A8 Z.shape.length c8, .slice B8 Z.strides.length d8]
      simp only [List.nil_append] at H4
      go_upto_region 4 with fail
      generalize w3.alloc (.cells #[.int .i64 Z.base, .slice A8 Z.shape.length c8, .slice B8 Z.strides.length d8] 28) = w4 at *
      generalize w3.heap.size = g4 at H4 ⊢
      obtain ⟨⟨q4_0, q4_1, q4_2⟩, r4_0, r4_1, r4_2⟩ := (H4.blk 0 rfl).all3
      obtain ⟨⟨q5_0, q5_1, q5_2⟩, r5_0, r5_1, r5_2⟩ := ((Blk.ext hR H4.below hR.lt)).all3
      go_wp2
      refine bodyPost_ret (v := .tuple #[.agg #[.int .i64 0, .slice none 0 0, .slice none 0 0], .bool false]) (by simp [results, Try.results29, go_sem, q5_0, q5_1, q5_2]) rfl ?_
      rw [HQ.out.1]
      exact ⟨_, _, rfl, Own.nil _ _, Own.nil _ _, Sep.none_left _, below3 (hW.trans (H4.below.mono hW.size)) (by omega) _ _ _⟩
    · have HB := hid cB
      have HZV := hid (show isViewL (spreadL V X) = true by simp only [spreadL, cB, if_true]; exact spread_valid cB)
      clear cB
      go_enter Try.func29, Try.ntmps29
      go_wp2_with fail
      rw [HW1.out]
      clear HW1
      have H0 := Hp.start W1
      obtain ⟨⟨q1_0, q1_1, q1_2⟩, r1_0, r1_1, r1_2⟩ := ((Blk.ext hA H0.below hA.lt)).all3
      go_wp2_with fail
      refine (validView_any _ V _ ((hv0.ext hW).ext H0.below)).mono ?_; rintro e w2 ⟨rfl, hb2⟩
      clear q1_0 q1_1 q1_2 r1_0 r1_1 r1_2
      have H2 := H0.nx hb2
      obtain ⟨⟨q2_0, q2_1, q2_2⟩, r2_0, r2_1, r2_2⟩ := ((Blk.ext hA H2.below hA.lt)).all3
      go_wp2_with fail
      refine (validShape_any _ X _ (hxs1.ext H2.below)).mono ?_; rintro e w' ⟨rfl, rfl⟩
      obtain ⟨⟨q3_0, q3_1, q3_2⟩, r3_0, r3_1, r3_2⟩ := ((Blk.ext hA H2.below hA.lt)).all3
      go_wp2_with fail
      refine (spread_any _ _ V X _ ((hv0.ext hW).ext H2.below) (hxs1.ext H2.below) HV.out HX.out hl).mono ?_; rintro e w3 ⟨s4, t4, rfl, ho, hp, hsep, hb3⟩
      clear q2_0 q2_1 q2_2 r2_0 r2_1 r2_2 q3_0 q3_1 q3_2 r3_0 r3_1 r3_2
      rw [HB.out]
      have H3 := H2.nx hb3
      obtain ⟨A8, c8, e8⟩ := ho.form
      obtain ⟨B8, d8, f8⟩ := hp.form
      subst e8 f8
      generalize spreadL V X = Z at *
      have hZ : ViewV w3 (.agg #[.int .i64 Z.base, .slice A8 Z.shape.length c8, .slice B8 Z.strides.length d8]) Z := ⟨_, _, rfl, ho.ints, hp.ints⟩
      have hZZ := hZ.ext ((Below.refl w3.heap.size w3).alloc (Nat.le_refl _) (.cells #[.int .i64 Z.base, .slice A8 Z.shape.length c8, .slice B8 Z.strides.length d8] 28))
      have H4 := H3.alloc 28 #[.int .i64 Z.base, .slice A8 Z.shape.length c8, .slice B8 Z.strides.length d8]
      simp only [List.nil_append] at H4
      go_upto_region 4 with fail
      generalize w3.alloc (.cells #[.int .i64 Z.base, .slice A8 Z.shape.length c8, .slice B8 Z.strides.length d8] 28) = w4 at *
      generalize w3.heap.size = g4 at H4 ⊢
      obtain ⟨⟨q4_0, q4_1, q4_2⟩, r4_0, r4_1, r4_2⟩ := (H4.blk 0 rfl).all3
      go_wp2_with fail
      refine (made_any _ Z _ hZZ).mono ?_; rintro e w5 ⟨s5, t5, rfl, ho, hp, hsep, hb5⟩
      clear q4_0 q4_1 q4_2 r4_0 r4_1 r4_2
      have H5 := H4.nx hb5
      have em : madeL Z = Z := by simp [madeL, HZV.out]
      rw [em] at ho hp
      rw [em, HZV.out]
      clear em
      obtain ⟨A9, c9, e9⟩ := ho.form
      obtain ⟨B9, d9, f9⟩ := hp.form
      subst e9 f9
      obtain ⟨⟨q5_0, q5_1, q5_2⟩, r5_0, r5_1, r5_2⟩ := ((Blk.ext hR H5.below hR.lt)).all3
      go_wp2
      refine bodyPost_ret (v := .tuple #[.agg #[.int .i64 Z.base, .slice A9 Z.shape.length c9, .slice B9 Z.strides.length d9], .bool true]) (by simp [results, Try.results29, go_sem, q5_0, q5_1, q5_2]) rfl ?_
      have hzz := H4.size
      exact ⟨_, _, rfl, (own3b ho (by omega) _ _ _).mono (by omega), (own3b hp (by omega) _ _ _).mono (by omega), hsep, below3 (hW.trans (H5.below.mono hW.size)) (by omega) _ _ _⟩
  · go_enter Try.func29, Try.ntmps29
    go_wp2_with fail
    rw [HW1.out]
    clear HW1
    have H0 := Hp.start W1
    obtain ⟨⟨q1_0, q1_1, q1_2⟩, r1_0, r1_1, r1_2⟩ := ((Blk.ext hA H0.below hA.lt)).all3
    go_wp2_with fail
    refine (validView_any _ V _ ((hv0.ext hW).ext H0.below)).mono ?_; rintro e w2 ⟨rfl, hb2⟩
    clear q1_0 q1_1 q1_2 r1_0 r1_1 r1_2
    have H2 := H0.nx hb2
    obtain ⟨⟨q2_0, q2_1, q2_2⟩, r2_0, r2_1, r2_2⟩ := ((Blk.ext hA H2.below hA.lt)).all3
    go_wp2_with fail
    refine (validShape_any _ X _ (hxs1.ext H2.below)).mono ?_; rintro e w' ⟨rfl, rfl⟩
    obtain ⟨⟨q3_0, q3_1, q3_2⟩, r3_0, r3_1, r3_2⟩ := ((Blk.ext hA H2.below hA.lt)).all3
    have hsh : X.length < V.shape.length := by omega
    have HQ := hid (show spreadL V X = VL.zero ∧ okSpread V X = false by (have h : okSpread V X = false := (by simp [okSpread]; omega)); exact ⟨spread_no h, h⟩)
    go_wp2_with fail
    refine (spreadShort_any _ _ V X _ ((hv0.ext hW).ext H2.below) (hxs1.ext H2.below) HV.out HX.out hsh).mono ?_; rintro e w3 ⟨s4, t4, rfl, ho, hp, hsep, hb3⟩
    clear q2_0 q2_1 q2_2 r2_0 r2_1 r2_2 q3_0 q3_1 q3_2 r3_0 r3_1 r3_2
    have H3 := H2.nx hb3
    obtain ⟨A8, c8, e8⟩ := ho.form
    obtain ⟨B8, d8, f8⟩ := hp.form
    subst e8 f8
    generalize (tidyL ⟨V.base, X, spS V X 0⟩) = Z at *
    have hZ : ViewV w3 (.agg #[.int .i64 Z.base, .slice A8 Z.shape.length c8, .slice B8 Z.strides.length d8]) Z := ⟨_, _, rfl, ho.ints, hp.ints⟩
    have hZZ := hZ.ext ((Below.refl w3.heap.size w3).alloc (Nat.le_refl _) (.cells #[.int .i64 Z.base, .slice A8 Z.shape.length c8, .slice B8 Z.strides.length d8] 28))
    have H4 := H3.alloc 28 #[.int .i64 Z.base, .slice A8 Z.shape.length c8, .slice B8 Z.strides.length d8]
    simp only [List.nil_append] at H4
    go_upto_region 4 with fail
    generalize w3.alloc (.cells #[.int .i64 Z.base, .slice A8 Z.shape.length c8, .slice B8 Z.strides.length d8] 28) = w4 at *
    generalize w3.heap.size = g4 at H4 ⊢
    obtain ⟨⟨q4_0, q4_1, q4_2⟩, r4_0, r4_1, r4_2⟩ := (H4.blk 0 rfl).all3
    obtain ⟨⟨q5_0, q5_1, q5_2⟩, r5_0, r5_1, r5_2⟩ := ((Blk.ext hR H4.below hR.lt)).all3
    go_wp2
    refine bodyPost_ret (v := .tuple #[.agg #[.int .i64 0, .slice none 0 0, .slice none 0 0], .bool false]) (by simp [results, Try.results29, go_sem, q5_0, q5_1, q5_2]) rfl ?_
    rw [HQ.out.1, HQ.out.2]
    exact ⟨_, _, rfl, Own.nil _ _, Own.nil _ _, Sep.none_left _, below3 (hW.trans (H4.below.mono hW.size)) (by omega) _ _ _⟩

end Go.Proofs.Ytbcmhjhiofpnlaa
