/- Contract: SliceDim. No conditions. (printed by mks.py) -/
import Derived.Test.YtbcmhjhiofpnlaaY5
import Derived.Test.YtbcmhjhiofpnlaaY7
import Derived.Test.YtbcmhjhiofpnlaaY8
import Derived.Test.YtbcmhjhiofpnlaaD2
namespace Go.Proofs.Ytbcmhjhiofpnlaa
open Go.RowKit

set_option maxRecDepth 100000 in
set_option maxHeartbeats 6400000 in
theorem SliceDim_any (v vs : Value) (V : VL) (d : Int) (s : SL) (w : World) (hv : ViewV w v V) (wd : -9223372036854775808 ≤ d ∧ d ≤ 9223372036854775807) (hs : SliceV w vs s) :
    Calls Try.prog 19 #[v, .int .i64 d, vs] w (RetViewB w (sliceL V d s) (okCut V d s)) := by
  obtain ⟨rfl, hso⟩ := hs
  obtain ⟨f, t, b, hf, ht⟩ := s
  simp only [SL.val]
  have hv0 := hv
  obtain ⟨sv, tv, rfl, hsv, htv⟩ := hv
  obtain ⟨As, cs, es, -, hcs, -⟩ := id hsv
  subst es
  obtain ⟨At, ct, et, -, hct, -⟩ := id htv
  subst et
  unfold maxLen at hcs hct
  have hA := ((Blk.new w 28 #[.int .i64 V.base, .slice As V.shape.length cs, .slice At V.strides.length ct]).alloc (.cells #[.int .i64 f, .int .i64 t, .int .i64 b, .bool hf, .bool ht] 32)).alloc (.cells #[.int .i64 0, .slice none 0 0, .slice none 0 0] 28)
  have hS := (Blk.new (w.alloc (.cells #[.int .i64 V.base, .slice As V.shape.length cs, .slice At V.strides.length ct] 28)) 32 #[.int .i64 f, .int .i64 t, .int .i64 b, .bool hf, .bool ht]).alloc (.cells #[.int .i64 0, .slice none 0 0, .slice none 0 0] 28)
  simp only [World.size_alloc] at hS
  have hR := Blk.new ((w.alloc (.cells #[.int .i64 V.base, .slice As V.shape.length cs, .slice At V.strides.length ct] 28)).alloc (.cells #[.int .i64 f, .int .i64 t, .int .i64 b, .bool hf, .bool ht] 32)) 28 #[.int .i64 0, .slice none 0 0, .slice none 0 0]
  simp only [World.size_alloc] at hR
  have hW : Below w.heap.size w (((w.alloc (.cells #[.int .i64 V.base, .slice As V.shape.length cs, .slice At V.strides.length ct] 28)).alloc (.cells #[.int .i64 f, .int .i64 t, .int .i64 b, .bool hf, .bool ht] 32)).alloc (.cells #[.int .i64 0, .slice none 0 0, .slice none 0 0] 28)) := (((Below.refl _ _).alloc (Nat.le_refl _) _).alloc (by simp <;> omega) _).alloc (by simp <;> omega) _
  have hnA := hA.lt
  have hnS := hS.lt
  have hnR := hR.lt
  generalize hW1 : (((w.alloc (.cells #[.int .i64 V.base, .slice As V.shape.length cs, .slice At V.strides.length ct] 28)).alloc (.cells #[.int .i64 f, .int .i64 t, .int .i64 b, .bool hf, .bool ht] 32)).alloc (.cells #[.int .i64 0, .slice none 0 0, .slice none 0 0] 28)) = W1 at *
  have HZ1 := hid (show W1.heap.size = w.heap.size + 3 by rw [← hW1]; simp)
  have HW1 := hid hW1
  clear hW1
  have hiS : SliceV W1 (.agg #[.int .i64 f, .int .i64 t, .int .i64 b, .bool hf, .bool ht]) ⟨f, t, b, hf, ht⟩ := ⟨rfl, hso⟩
  cases c0 : hasDimL V d
  · have HQ := hid (show sliceL V d ⟨f, t, b, hf, ht⟩ = VL.zero ∧ okCut V d ⟨f, t, b, hf, ht⟩ = false by
      have h : okCut V d ⟨f, t, b, hf, ht⟩ = false := by simp [okCut, c0]
      exact ⟨slice_no h, h⟩)
    go_enter Try.func19, Try.ntmps19
    go_wp2_with fail
    rw [HW1.out]
    clear HW1
    have H0 := Hp.start W1
    obtain ⟨⟨q1_0, q1_1, q1_2⟩, r1_0, r1_1, r1_2⟩ := ((Blk.ext hA H0.below hA.lt)).all3
    obtain ⟨⟨q2_0, q2_1, q2_2, q2_3, q2_4⟩, r2_0, r2_1, r2_2, r2_3, r2_4⟩ := ((Blk.ext hS H0.below hS.lt)).all5
    go_wp2_with fail
    refine (hasDim_any _ V d _ ((hv0.ext hW).ext H0.below) wd).mono ?_; rintro e w2 ⟨rfl, hb2⟩
    clear q1_0 q1_1 q1_2 r1_0 r1_1 r1_2 q2_0 q2_1 q2_2 q2_3 q2_4 r2_0 r2_1 r2_2 r2_3 r2_4
    have H2 := H0.nx hb2
    obtain ⟨⟨q3_0, q3_1, q3_2⟩, r3_0, r3_1, r3_2⟩ := ((Blk.ext hR H2.below hR.lt)).all3
    go_wp2
    refine bodyPost_ret (v := .tuple #[.agg #[.int .i64 0, .slice none 0 0, .slice none 0 0], .bool false]) (by simp [results, Try.results19, go_sem, q3_0, q3_1, q3_2]) rfl ?_
    rw [HQ.out.1, HQ.out.2]
    exact ⟨_, _, rfl, Own.nil _ _, Own.nil _ _, Sep.none_left _, below3 (hW.trans (H2.below.mono hW.size)) (by omega) _ _ _⟩
  cases c1 : okSl ⟨f, t, b, hf, ht⟩
  · have HQ := hid (show sliceL V d ⟨f, t, b, hf, ht⟩ = VL.zero ∧ okCut V d ⟨f, t, b, hf, ht⟩ = false by
      have h : okCut V d ⟨f, t, b, hf, ht⟩ = false := by simp [okCut, c1]
      exact ⟨slice_no h, h⟩)
    go_enter Try.func19, Try.ntmps19
    go_wp2_with fail
    rw [HW1.out]
    clear HW1
    have H0 := Hp.start W1
    obtain ⟨⟨q1_0, q1_1, q1_2⟩, r1_0, r1_1, r1_2⟩ := ((Blk.ext hA H0.below hA.lt)).all3
    obtain ⟨⟨q2_0, q2_1, q2_2, q2_3, q2_4⟩, r2_0, r2_1, r2_2, r2_3, r2_4⟩ := ((Blk.ext hS H0.below hS.lt)).all5
    go_wp2_with fail
    refine (hasDim_any _ V d _ ((hv0.ext hW).ext H0.below) wd).mono ?_; rintro e w2 ⟨rfl, hb2⟩
    clear q1_0 q1_1 q1_2 r1_0 r1_1 r1_2 q2_0 q2_1 q2_2 q2_3 q2_4 r2_0 r2_1 r2_2 r2_3 r2_4
    have H2 := H0.nx hb2
    obtain ⟨⟨q3_0, q3_1, q3_2⟩, r3_0, r3_1, r3_2⟩ := ((Blk.ext hA H2.below hA.lt)).all3
    obtain ⟨⟨q4_0, q4_1, q4_2, q4_3, q4_4⟩, r4_0, r4_1, r4_2, r4_3, r4_4⟩ := ((Blk.ext hS H2.below hS.lt)).all5
    go_wp2_with fail
    refine (isSlice_any _ ⟨f, t, b, hf, ht⟩ _ rfl hso).mono ?_; rintro e w3 ⟨rfl, hb3⟩
    clear q3_0 q3_1 q3_2 r3_0 r3_1 r3_2 q4_0 q4_1 q4_2 q4_3 q4_4 r4_0 r4_1 r4_2 r4_3 r4_4
    have H3 := H2.nx hb3
    obtain ⟨⟨q5_0, q5_1, q5_2⟩, r5_0, r5_1, r5_2⟩ := ((Blk.ext hR H3.below hR.lt)).all3
    go_wp2
    refine bodyPost_ret (v := .tuple #[.agg #[.int .i64 0, .slice none 0 0, .slice none 0 0], .bool false]) (by simp [results, Try.results19, go_sem, q5_0, q5_1, q5_2]) rfl ?_
    rw [HQ.out.1, HQ.out.2]
    exact ⟨_, _, rfl, Own.nil _ _, Own.nil _ _, Sep.none_left _, below3 (hW.trans (H3.below.mono hW.size)) (by omega) _ _ _⟩
  have da : 0 ≤ d ∧ d < V.shape.length := by simp only [hasDimL, Bool.and_eq_true, decide_eq_true_eq] at c0; omega
  have cV : isViewL V = true := by simp only [hasDimL, Bool.and_eq_true] at c0; exact c0.1.1
  have C0 := c0
  obtain ⟨k, rfl⟩ : ∃ k : Nat, d = (k : Int) := ⟨d.toNat, by omega⟩
  have hk : k < V.shape.length := by omega
  have hgd : V.shape.getD k 0 = V.shape[k] := by simp [hk]
  have HQ := hid (show sliceL V k ⟨f, t, b, hf, ht⟩ = cutL V k ⟨f, t, b, hf, ht⟩ ∧ okCut V k ⟨f, t, b, hf, ht⟩ = true by
    have h : okCut V k ⟨f, t, b, hf, ht⟩ = true := by simp [okCut, C0, c1]
    exact ⟨by simp [sliceL, h], h⟩)
  have HV := hid (show isViewL (cutL V k ⟨f, t, b, hf, ht⟩) = true by
    have := cut_valid cV hk (s := ⟨f, t, b, hf, ht⟩) (okSl_and c1).2.2.2
    rw [cutL, hgd]; exact this)
  have HC := hid cV
  have HS := hid c1
  clear da C0 hgd
  go_enter Try.func19, Try.ntmps19
  go_wp2_with fail
  rw [HW1.out]
  clear HW1
  have H0 := Hp.start W1
  obtain ⟨⟨q1_0, q1_1, q1_2⟩, r1_0, r1_1, r1_2⟩ := ((Blk.ext hA H0.below hA.lt)).all3
  obtain ⟨⟨q2_0, q2_1, q2_2, q2_3, q2_4⟩, r2_0, r2_1, r2_2, r2_3, r2_4⟩ := ((Blk.ext hS H0.below hS.lt)).all5
  go_wp2_with fail
  refine (hasDim_any _ V k _ ((hv0.ext hW).ext H0.below) wd).mono ?_; rintro e w2 ⟨rfl, hb2⟩
  clear q1_0 q1_1 q1_2 r1_0 r1_1 r1_2 q2_0 q2_1 q2_2 q2_3 q2_4 r2_0 r2_1 r2_2 r2_3 r2_4
  have H2 := H0.nx hb2
  obtain ⟨⟨q3_0, q3_1, q3_2⟩, r3_0, r3_1, r3_2⟩ := ((Blk.ext hA H2.below hA.lt)).all3
  obtain ⟨⟨q4_0, q4_1, q4_2, q4_3, q4_4⟩, r4_0, r4_1, r4_2, r4_3, r4_4⟩ := ((Blk.ext hS H2.below hS.lt)).all5
  go_wp2_with fail
  refine (isSlice_any _ ⟨f, t, b, hf, ht⟩ _ rfl hso).mono ?_; rintro e w3 ⟨rfl, hb3⟩
  clear q3_0 q3_1 q3_2 r3_0 r3_1 r3_2 q4_0 q4_1 q4_2 q4_3 q4_4 r4_0 r4_1 r4_2 r4_3 r4_4
  have H3 := H2.nx hb3
  obtain ⟨⟨q5_0, q5_1, q5_2⟩, r5_0, r5_1, r5_2⟩ := ((Blk.ext hA H3.below hA.lt)).all3
  obtain ⟨⟨q6_0, q6_1, q6_2, q6_3, q6_4⟩, r6_0, r6_1, r6_2, r6_3, r6_4⟩ := ((Blk.ext hS H3.below hS.lt)).all5
  go_wp2_with fail
  refine (sliceDim_any _ _ V k ⟨f, t, b, hf, ht⟩ _ ((hv0.ext hW).ext H3.below) rfl HC.out hk HS.out).mono ?_; rintro e w4 ⟨s4, t4, rfl, ho, hp, hsep, hb4⟩
  clear q5_0 q5_1 q5_2 r5_0 r5_1 r5_2 q6_0 q6_1 q6_2 q6_3 q6_4 r6_0 r6_1 r6_2 r6_3 r6_4
  have H4 := H3.nx hb4
  generalize cutL V k ⟨f, t, b, hf, ht⟩ = Z at *
  obtain ⟨A8, c8, e8⟩ := ho.form
  obtain ⟨B8, d8, f8⟩ := hp.form
  subst e8 f8
  obtain ⟨⟨q7_0, q7_1, q7_2⟩, r7_0, r7_1, r7_2⟩ := ((Blk.ext hR H4.below hR.lt)).all3
  go_wp2
  refine bodyPost_ret (v := .tuple #[.agg #[.int .i64 Z.base, .slice A8 Z.shape.length c8, .slice B8 Z.strides.length d8], .bool true]) (by simp [results, Try.results19, go_sem, q7_0, q7_1, q7_2]) rfl ?_
  rw [HQ.out.1, HQ.out.2]
  have hzz := H3.size
  exact ⟨_, _, rfl, (own3b ho (by omega) _ _ _).mono (by omega), (own3b hp (by omega) _ _ _).mono (by omega), hsep, below3 (hW.trans (H4.below.mono hW.size)) (by omega) _ _ _⟩

set_option maxRecDepth 100000 in
set_option maxHeartbeats 6400000 in
theorem sSliceDim_any (v vs : Value) (V : VL) (d : Int) (s : SL) (w : World) (hv : ViewV w v V) (wd : -9223372036854775808 ≤ d ∧ d ≤ 9223372036854775807) (hs : SliceV w vs s) :
    Calls Try.prog 16 #[v, .int .i64 d, vs] w (RetViewB w (sliceL V d s) (okCut V d s)) := by
  obtain ⟨rfl, hso⟩ := hs
  obtain ⟨f, t, b, hf, ht⟩ := s
  simp only [SL.val]
  have hv0 := hv
  obtain ⟨sv, tv, rfl, hsv, htv⟩ := hv
  obtain ⟨As, cs, es, -, hcs, -⟩ := id hsv
  subst es
  obtain ⟨At, ct, et, -, hct, -⟩ := id htv
  subst et
  unfold maxLen at hcs hct
  have hA := ((Blk.new w 28 #[.int .i64 V.base, .slice As V.shape.length cs, .slice At V.strides.length ct]).alloc (.cells #[.int .i64 f, .int .i64 t, .int .i64 b, .bool hf, .bool ht] 32)).alloc (.cells #[.int .i64 0, .slice none 0 0, .slice none 0 0] 28)
  have hS := (Blk.new (w.alloc (.cells #[.int .i64 V.base, .slice As V.shape.length cs, .slice At V.strides.length ct] 28)) 32 #[.int .i64 f, .int .i64 t, .int .i64 b, .bool hf, .bool ht]).alloc (.cells #[.int .i64 0, .slice none 0 0, .slice none 0 0] 28)
  simp only [World.size_alloc] at hS
  have hR := Blk.new ((w.alloc (.cells #[.int .i64 V.base, .slice As V.shape.length cs, .slice At V.strides.length ct] 28)).alloc (.cells #[.int .i64 f, .int .i64 t, .int .i64 b, .bool hf, .bool ht] 32)) 28 #[.int .i64 0, .slice none 0 0, .slice none 0 0]
  simp only [World.size_alloc] at hR
  have hW : Below w.heap.size w (((w.alloc (.cells #[.int .i64 V.base, .slice As V.shape.length cs, .slice At V.strides.length ct] 28)).alloc (.cells #[.int .i64 f, .int .i64 t, .int .i64 b, .bool hf, .bool ht] 32)).alloc (.cells #[.int .i64 0, .slice none 0 0, .slice none 0 0] 28)) := (((Below.refl _ _).alloc (Nat.le_refl _) _).alloc (by simp <;> omega) _).alloc (by simp <;> omega) _
  have hnA := hA.lt
  have hnS := hS.lt
  have hnR := hR.lt
  generalize hW1 : (((w.alloc (.cells #[.int .i64 V.base, .slice As V.shape.length cs, .slice At V.strides.length ct] 28)).alloc (.cells #[.int .i64 f, .int .i64 t, .int .i64 b, .bool hf, .bool ht] 32)).alloc (.cells #[.int .i64 0, .slice none 0 0, .slice none 0 0] 28)) = W1 at *
  have HZ1 := hid (show W1.heap.size = w.heap.size + 3 by rw [← hW1]; simp)
  have HW1 := hid hW1
  clear hW1
  have hiS : SliceV W1 (.agg #[.int .i64 f, .int .i64 t, .int .i64 b, .bool hf, .bool ht]) ⟨f, t, b, hf, ht⟩ := ⟨rfl, hso⟩
  cases cV : isViewL V
  · have HQ := hid (show sliceL V d ⟨f, t, b, hf, ht⟩ = VL.zero ∧ okCut V d ⟨f, t, b, hf, ht⟩ = false by
      have h : okCut V d ⟨f, t, b, hf, ht⟩ = false := by simp [okCut, hasDimL, cV]
      exact ⟨slice_no h, h⟩)
    go_enter Try.func16, Try.ntmps16
    go_wp2_with fail
    rw [HW1.out]
    clear HW1
    have H0 := Hp.start W1
    obtain ⟨⟨q1_0, q1_1, q1_2⟩, r1_0, r1_1, r1_2⟩ := ((Blk.ext hA H0.below hA.lt)).all3
    obtain ⟨⟨q2_0, q2_1, q2_2, q2_3, q2_4⟩, r2_0, r2_1, r2_2, r2_3, r2_4⟩ := ((Blk.ext hS H0.below hS.lt)).all5
    go_wp2_with fail
    refine (validView_any _ V _ ((hv0.ext hW).ext H0.below)).mono ?_; rintro e w2 ⟨rfl, hb2⟩
    clear q1_0 q1_1 q1_2 r1_0 r1_1 r1_2 q2_0 q2_1 q2_2 q2_3 q2_4 r2_0 r2_1 r2_2 r2_3 r2_4
    have H2 := H0.nx hb2
    obtain ⟨⟨q3_0, q3_1, q3_2⟩, r3_0, r3_1, r3_2⟩ := ((Blk.ext hR H2.below hR.lt)).all3
    go_wp2
    refine bodyPost_ret (v := .tuple #[.agg #[.int .i64 0, .slice none 0 0, .slice none 0 0], .bool false]) (by simp [results, Try.results16, go_sem, q3_0, q3_1, q3_2]) rfl ?_
    rw [HQ.out.1, HQ.out.2]
    exact ⟨_, _, rfl, Own.nil _ _, Own.nil _ _, Sep.none_left _, below3 (hW.trans (H2.below.mono hW.size)) (by omega) _ _ _⟩
  cases c0 : inR d 0 ((V.shape.length : Int) - 1)
  · have HQ := hid (show sliceL V d ⟨f, t, b, hf, ht⟩ = VL.zero ∧ okCut V d ⟨f, t, b, hf, ht⟩ = false by
      have h : okCut V d ⟨f, t, b, hf, ht⟩ = false := by
        cases h : okCut V d ⟨f, t, b, hf, ht⟩
        · rfl
        · simp only [okCut, hasDimL, Bool.and_eq_true, decide_eq_true_eq] at h
          rw [inR_yes (by omega) (by omega)] at c0; cases c0
      exact ⟨slice_no h, h⟩)
    go_enter Try.func16, Try.ntmps16
    go_wp2_with fail
    rw [HW1.out]
    clear HW1
    have H0 := Hp.start W1
    obtain ⟨⟨q1_0, q1_1, q1_2⟩, r1_0, r1_1, r1_2⟩ := ((Blk.ext hA H0.below hA.lt)).all3
    obtain ⟨⟨q2_0, q2_1, q2_2, q2_3, q2_4⟩, r2_0, r2_1, r2_2, r2_3, r2_4⟩ := ((Blk.ext hS H0.below hS.lt)).all5
    go_wp2_with fail
    refine (validView_any _ V _ ((hv0.ext hW).ext H0.below)).mono ?_; rintro e w2 ⟨rfl, hb2⟩
    clear q1_0 q1_1 q1_2 r1_0 r1_1 r1_2 q2_0 q2_1 q2_2 q2_3 q2_4 r2_0 r2_1 r2_2 r2_3 r2_4
    have H2 := H0.nx hb2
    obtain ⟨⟨q3_0, q3_1, q3_2⟩, r3_0, r3_1, r3_2⟩ := ((Blk.ext hA H2.below hA.lt)).all3
    obtain ⟨⟨q4_0, q4_1, q4_2, q4_3, q4_4⟩, r4_0, r4_1, r4_2, r4_3, r4_4⟩ := ((Blk.ext hS H2.below hS.lt)).all5
    go_wp2_with fail
    refine (isDim_any _ V d _ ((hv0.ext hW).ext H2.below)).mono ?_; rintro e w3 ⟨rfl, hb3⟩
    clear q3_0 q3_1 q3_2 r3_0 r3_1 r3_2 q4_0 q4_1 q4_2 q4_3 q4_4 r4_0 r4_1 r4_2 r4_3 r4_4
    have H3 := H2.nx hb3
    obtain ⟨⟨q5_0, q5_1, q5_2⟩, r5_0, r5_1, r5_2⟩ := ((Blk.ext hR H3.below hR.lt)).all3
    go_wp2
    refine bodyPost_ret (v := .tuple #[.agg #[.int .i64 0, .slice none 0 0, .slice none 0 0], .bool false]) (by simp [results, Try.results16, go_sem, q5_0, q5_1, q5_2]) rfl ?_
    rw [HQ.out.1, HQ.out.2]
    exact ⟨_, _, rfl, Own.nil _ _, Own.nil _ _, Sep.none_left _, below3 (hW.trans (H3.below.mono hW.size)) (by omega) _ _ _⟩
  cases c1 : okSl ⟨f, t, b, hf, ht⟩
  · have HQ := hid (show sliceL V d ⟨f, t, b, hf, ht⟩ = VL.zero ∧ okCut V d ⟨f, t, b, hf, ht⟩ = false by
      have h : okCut V d ⟨f, t, b, hf, ht⟩ = false := by simp [okCut, c1]
      exact ⟨slice_no h, h⟩)
    go_enter Try.func16, Try.ntmps16
    go_wp2_with fail
    rw [HW1.out]
    clear HW1
    have H0 := Hp.start W1
    obtain ⟨⟨q1_0, q1_1, q1_2⟩, r1_0, r1_1, r1_2⟩ := ((Blk.ext hA H0.below hA.lt)).all3
    obtain ⟨⟨q2_0, q2_1, q2_2, q2_3, q2_4⟩, r2_0, r2_1, r2_2, r2_3, r2_4⟩ := ((Blk.ext hS H0.below hS.lt)).all5
    go_wp2_with fail
    refine (validView_any _ V _ ((hv0.ext hW).ext H0.below)).mono ?_; rintro e w2 ⟨rfl, hb2⟩
    clear q1_0 q1_1 q1_2 r1_0 r1_1 r1_2 q2_0 q2_1 q2_2 q2_3 q2_4 r2_0 r2_1 r2_2 r2_3 r2_4
    have H2 := H0.nx hb2
    obtain ⟨⟨q3_0, q3_1, q3_2⟩, r3_0, r3_1, r3_2⟩ := ((Blk.ext hA H2.below hA.lt)).all3
    obtain ⟨⟨q4_0, q4_1, q4_2, q4_3, q4_4⟩, r4_0, r4_1, r4_2, r4_3, r4_4⟩ := ((Blk.ext hS H2.below hS.lt)).all5
    go_wp2_with fail
    refine (isDim_any _ V d _ ((hv0.ext hW).ext H2.below)).mono ?_; rintro e w3 ⟨rfl, hb3⟩
    clear q3_0 q3_1 q3_2 r3_0 r3_1 r3_2 q4_0 q4_1 q4_2 q4_3 q4_4 r4_0 r4_1 r4_2 r4_3 r4_4
    have H3 := H2.nx hb3
    obtain ⟨⟨q5_0, q5_1, q5_2⟩, r5_0, r5_1, r5_2⟩ := ((Blk.ext hA H3.below hA.lt)).all3
    obtain ⟨⟨q6_0, q6_1, q6_2, q6_3, q6_4⟩, r6_0, r6_1, r6_2, r6_3, r6_4⟩ := ((Blk.ext hS H3.below hS.lt)).all5
    go_wp2_with fail
    refine (validSlice_any _ ⟨f, t, b, hf, ht⟩ _ rfl hso).mono ?_; rintro e w4 ⟨rfl, hb4⟩
    clear q5_0 q5_1 q5_2 r5_0 r5_1 r5_2 q6_0 q6_1 q6_2 q6_3 q6_4 r6_0 r6_1 r6_2 r6_3 r6_4
    have H4 := H3.nx hb4
    obtain ⟨⟨q7_0, q7_1, q7_2⟩, r7_0, r7_1, r7_2⟩ := ((Blk.ext hR H4.below hR.lt)).all3
    go_wp2
    refine bodyPost_ret (v := .tuple #[.agg #[.int .i64 0, .slice none 0 0, .slice none 0 0], .bool false]) (by simp [results, Try.results16, go_sem, q7_0, q7_1, q7_2]) rfl ?_
    rw [HQ.out.1, HQ.out.2]
    exact ⟨_, _, rfl, Own.nil _ _, Own.nil _ _, Sep.none_left _, below3 (hW.trans (H4.below.mono hW.size)) (by omega) _ _ _⟩
  have da := inR_iff.1 c0
  have C0 : hasDimL V d = true := by simp [hasDimL, cV]; omega
  obtain ⟨k, rfl⟩ : ∃ k : Nat, d = (k : Int) := ⟨d.toNat, by omega⟩
  have hk : k < V.shape.length := by omega
  have hgd : V.shape.getD k 0 = V.shape[k] := by simp [hk]
  have HQ := hid (show sliceL V k ⟨f, t, b, hf, ht⟩ = cutL V k ⟨f, t, b, hf, ht⟩ ∧ okCut V k ⟨f, t, b, hf, ht⟩ = true by
    have h : okCut V k ⟨f, t, b, hf, ht⟩ = true := by simp [okCut, C0, c1]
    exact ⟨by simp [sliceL, h], h⟩)
  have HV := hid (show isViewL (cutL V k ⟨f, t, b, hf, ht⟩) = true by
    have := cut_valid cV hk (s := ⟨f, t, b, hf, ht⟩) (okSl_and c1).2.2.2
    rw [cutL, hgd]; exact this)
  have HC := hid cV
  have HS := hid c1
  clear da C0 hgd
  go_enter Try.func16, Try.ntmps16
  go_wp2_with fail
  rw [HW1.out]
  clear HW1
  have H0 := Hp.start W1
  obtain ⟨⟨q1_0, q1_1, q1_2⟩, r1_0, r1_1, r1_2⟩ := ((Blk.ext hA H0.below hA.lt)).all3
  obtain ⟨⟨q2_0, q2_1, q2_2, q2_3, q2_4⟩, r2_0, r2_1, r2_2, r2_3, r2_4⟩ := ((Blk.ext hS H0.below hS.lt)).all5
  go_wp2_with fail
  refine (validView_any _ V _ ((hv0.ext hW).ext H0.below)).mono ?_; rintro e w2 ⟨rfl, hb2⟩
  clear q1_0 q1_1 q1_2 r1_0 r1_1 r1_2 q2_0 q2_1 q2_2 q2_3 q2_4 r2_0 r2_1 r2_2 r2_3 r2_4
  have H2 := H0.nx hb2
  obtain ⟨⟨q3_0, q3_1, q3_2⟩, r3_0, r3_1, r3_2⟩ := ((Blk.ext hA H2.below hA.lt)).all3
  obtain ⟨⟨q4_0, q4_1, q4_2, q4_3, q4_4⟩, r4_0, r4_1, r4_2, r4_3, r4_4⟩ := ((Blk.ext hS H2.below hS.lt)).all5
  go_wp2_with fail
  refine (isDim_any _ V k _ ((hv0.ext hW).ext H2.below)).mono ?_; rintro e w3 ⟨rfl, hb3⟩
  clear q3_0 q3_1 q3_2 r3_0 r3_1 r3_2 q4_0 q4_1 q4_2 q4_3 q4_4 r4_0 r4_1 r4_2 r4_3 r4_4
  have H3 := H2.nx hb3
  obtain ⟨⟨q5_0, q5_1, q5_2⟩, r5_0, r5_1, r5_2⟩ := ((Blk.ext hA H3.below hA.lt)).all3
  obtain ⟨⟨q6_0, q6_1, q6_2, q6_3, q6_4⟩, r6_0, r6_1, r6_2, r6_3, r6_4⟩ := ((Blk.ext hS H3.below hS.lt)).all5
  go_wp2_with fail
  refine (validSlice_any _ ⟨f, t, b, hf, ht⟩ _ rfl hso).mono ?_; rintro e w4 ⟨rfl, hb4⟩
  clear q5_0 q5_1 q5_2 r5_0 r5_1 r5_2 q6_0 q6_1 q6_2 q6_3 q6_4 r6_0 r6_1 r6_2 r6_3 r6_4
  have H4 := H3.nx hb4
  obtain ⟨⟨q7_0, q7_1, q7_2⟩, r7_0, r7_1, r7_2⟩ := ((Blk.ext hA H4.below hA.lt)).all3
  obtain ⟨⟨q8_0, q8_1, q8_2, q8_3, q8_4⟩, r8_0, r8_1, r8_2, r8_3, r8_4⟩ := ((Blk.ext hS H4.below hS.lt)).all5
  go_wp2_with fail
  refine (cutDim_any _ _ V k ⟨f, t, b, hf, ht⟩ _ ((hv0.ext hW).ext H4.below) rfl HC.out hk HS.out).mono ?_; rintro e w5 ⟨s4, t4, rfl, ho, hp, hsep, hb5⟩
  clear q7_0 q7_1 q7_2 r7_0 r7_1 r7_2 q8_0 q8_1 q8_2 q8_3 q8_4 r8_0 r8_1 r8_2 r8_3 r8_4
  have H5 := H4.nx hb5
  obtain ⟨A7, c7, e7⟩ := ho.form
  obtain ⟨B7, d7, f7⟩ := hp.form
  subst e7 f7
  go_wp2_with fail
  refine (made_any _ (cutL V k ⟨f, t, b, hf, ht⟩) _ ⟨_, _, rfl, ho.ints, hp.ints⟩).mono ?_; rintro e w6 ⟨s5, t5, rfl, ho, hp, hsep, hb6⟩
  have H6 := H5.nx hb6
  have em : madeL (cutL V k ⟨f, t, b, hf, ht⟩) = cutL V k ⟨f, t, b, hf, ht⟩ := by simp [madeL, HV.out]
  rw [em] at ho hp
  rw [em, HV.out]
  clear em
  generalize cutL V k ⟨f, t, b, hf, ht⟩ = Z at *
  obtain ⟨A8, c8, e8⟩ := ho.form
  obtain ⟨B8, d8, f8⟩ := hp.form
  subst e8 f8
  obtain ⟨⟨q9_0, q9_1, q9_2⟩, r9_0, r9_1, r9_2⟩ := ((Blk.ext hR H6.below hR.lt)).all3
  go_wp2
  refine bodyPost_ret (v := .tuple #[.agg #[.int .i64 Z.base, .slice A8 Z.shape.length c8, .slice B8 Z.strides.length d8], .bool true]) (by simp [results, Try.results16, go_sem, q9_0, q9_1, q9_2]) rfl ?_
  rw [HQ.out.1, HQ.out.2]
  have hzz := H5.size
  exact ⟨_, _, rfl, (own3b ho (by omega) _ _ _).mono (by omega), (own3b hp (by omega) _ _ _).mono (by omega), hsep, below3 (hW.trans (H6.below.mono hW.size)) (by omega) _ _ _⟩

end Go.Proofs.Ytbcmhjhiofpnlaa
