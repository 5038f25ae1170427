/- Contract: FlipDim. No conditions. (printed by mks.py) -/
import Derived.Test.YtbcmhjhiofpnlaaY9
import Derived.Test.YtbcmhjhiofpnlaaY7
import Derived.Test.YtbcmhjhiofpnlaaY8
import Derived.Test.YtbcmhjhiofpnlaaD2
namespace Go.Proofs.Ytbcmhjhiofpnlaa
open Go.RowKit

def flipS : SL := ⟨0, 0, -1, false, false⟩
set_option maxRecDepth 100000 in
set_option maxHeartbeats 6400000 in
theorem FlipDim_any (v : Value) (V : VL) (d : Int) (w : World) (hv : ViewV w v V) (wd : -9223372036854775808 ≤ d ∧ d ≤ 9223372036854775807) :
    Calls Try.prog 24 #[v, .int .i64 d] w (RetViewB w (sliceL V d flipS) (okCut V d flipS)) := by
  have hv0 := hv
  obtain ⟨sv, tv, rfl, hsv, htv⟩ := hv
  obtain ⟨As, cs, es, -, hcs, -⟩ := id hsv
  subst es
  obtain ⟨At, ct, et, -, hct, -⟩ := id htv
  subst et
  unfold maxLen at hcs hct
  have hA := (Blk.new w 28 #[.int .i64 V.base, .slice As V.shape.length cs, .slice At V.strides.length ct]).alloc (.cells #[.int .i64 0, .slice none 0 0, .slice none 0 0] 28)
  have hR := Blk.new (w.alloc (.cells #[.int .i64 V.base, .slice As V.shape.length cs, .slice At V.strides.length ct] 28)) 28 #[.int .i64 0, .slice none 0 0, .slice none 0 0]
  simp only [World.size_alloc] at hR
  have hW : Below w.heap.size w ((w.alloc (.cells #[.int .i64 V.base, .slice As V.shape.length cs, .slice At V.strides.length ct] 28)).alloc (.cells #[.int .i64 0, .slice none 0 0, .slice none 0 0] 28)) := ((Below.refl _ _).alloc (Nat.le_refl _) _).alloc (by simp <;> omega) _
  have hnA := hA.lt
  have hnR := hR.lt
  generalize hW1 : ((w.alloc (.cells #[.int .i64 V.base, .slice As V.shape.length cs, .slice At V.strides.length ct] 28)).alloc (.cells #[.int .i64 0, .slice none 0 0, .slice none 0 0] 28)) = W1 at *
  have HZ1 := hid (show W1.heap.size = w.heap.size + 2 by rw [← hW1]; simp)
  have HW1 := hid hW1
  clear hW1
  cases c0 : hasDimL V d
  · have HQ := hid (show sliceL V d flipS = VL.zero ∧ okCut V d flipS = false by
      have h : okCut V d flipS = false := by simp [okCut, c0]
      exact ⟨slice_no h, h⟩)
    go_enter Try.func24, Try.ntmps24
    go_wp2_with fail
    rw [HW1.out]
    clear HW1
    have H0 := Hp.start W1
    obtain ⟨⟨q1_0, q1_1, q1_2⟩, r1_0, r1_1, r1_2⟩ := ((Blk.ext hA H0.below hA.lt)).all3
    go_wp2_with fail
    refine (hasDim_any _ V d _ ((hv0.ext hW).ext H0.below) wd).mono ?_; rintro e w2 ⟨rfl, hb2⟩
    clear q1_0 q1_1 q1_2 r1_0 r1_1 r1_2
    have H2 := H0.nx hb2
    obtain ⟨⟨q2_0, q2_1, q2_2⟩, r2_0, r2_1, r2_2⟩ := ((Blk.ext hR H2.below hR.lt)).all3
    go_wp2
    refine bodyPost_ret (v := .tuple #[.agg #[.int .i64 0, .slice none 0 0, .slice none 0 0], .bool false]) (by simp [results, Try.results24, go_sem, q2_0, q2_1, q2_2]) rfl ?_
    rw [HQ.out.1, HQ.out.2]
    exact ⟨_, _, rfl, Own.nil _ _, Own.nil _ _, Sep.none_left _, below3 (hW.trans (H2.below.mono hW.size)) (by omega) _ _ _⟩
  have da : 0 ≤ d ∧ d < V.shape.length := by simp only [hasDimL, Bool.and_eq_true, decide_eq_true_eq] at c0; omega
  have cV : isViewL V = true := by simp only [hasDimL, Bool.and_eq_true] at c0; exact c0.1.1
  have C0 := c0
  obtain ⟨k, rfl⟩ : ∃ k : Nat, d = (k : Int) := ⟨d.toNat, by omega⟩
  have hk : k < V.shape.length := by omega
  have HQ := hid (show sliceL V k flipS = cutL V k flipS ∧ okCut V k flipS = true by
    have h : okCut V k flipS = true := by simp only [okCut, C0]; rfl
    exact ⟨by simp [sliceL, h], h⟩)
  have HC := hid cV
  clear da C0
  go_enter Try.func24, Try.ntmps24
  go_wp2_with fail
  rw [HW1.out]
  clear HW1
  have H0 := Hp.start W1
  obtain ⟨⟨q1_0, q1_1, q1_2⟩, r1_0, r1_1, r1_2⟩ := ((Blk.ext hA H0.below hA.lt)).all3
  go_wp2_with fail
  refine (hasDim_any _ V k _ ((hv0.ext hW).ext H0.below) wd).mono ?_; rintro e w2 ⟨rfl, hb2⟩
  clear q1_0 q1_1 q1_2 r1_0 r1_1 r1_2
  have H2 := H0.nx hb2
  obtain ⟨⟨q2_0, q2_1, q2_2⟩, r2_0, r2_1, r2_2⟩ := ((Blk.ext hA H2.below hA.lt)).all3
  go_wp2_with fail
  refine (sliceDim_any _ _ V k flipS _ ((hv0.ext hW).ext H2.below) rfl HC.out hk (by rfl)).mono ?_; rintro e w3 ⟨s4, t4, rfl, ho, hp, hsep, hb3⟩
  clear q2_0 q2_1 q2_2 r2_0 r2_1 r2_2
  have H3 := H2.nx hb3
  generalize cutL V k flipS = Z at *
  obtain ⟨A8, c8, e8⟩ := ho.form
  obtain ⟨B8, d8, f8⟩ := hp.form
  subst e8 f8
  obtain ⟨⟨q3_0, q3_1, q3_2⟩, r3_0, r3_1, r3_2⟩ := ((Blk.ext hR H3.below hR.lt)).all3
  go_wp2
  refine bodyPost_ret (v := .tuple #[.agg #[.int .i64 Z.base, .slice A8 Z.shape.length c8, .slice B8 Z.strides.length d8], .bool true]) (by simp [results, Try.results24, go_sem, q3_0, q3_1, q3_2]) rfl ?_
  rw [HQ.out.1, HQ.out.2]
  have hzz := H2.size
  exact ⟨_, _, rfl, (own3b ho (by omega) _ _ _).mono (by omega), (own3b hp (by omega) _ _ _).mono (by omega), hsep, below3 (hW.trans (H3.below.mono hW.size)) (by omega) _ _ _⟩

set_option maxRecDepth 100000 in
set_option maxHeartbeats 6400000 in
theorem sFlipDim_any (v : Value) (V : VL) (d : Int) (w : World) (hv : ViewV w v V) (wd : -9223372036854775808 ≤ d ∧ d ≤ 9223372036854775807) :
    Calls Try.prog 23 #[v, .int .i64 d] w (RetViewB w (sliceL V d flipS) (okCut V d flipS)) := by
  have hv0 := hv
  obtain ⟨sv, tv, rfl, hsv, htv⟩ := hv
  obtain ⟨As, cs, es, -, hcs, -⟩ := id hsv
  subst es
  obtain ⟨At, ct, et, -, hct, -⟩ := id htv
  subst et
  unfold maxLen at hcs hct
  have hA := (Blk.new w 28 #[.int .i64 V.base, .slice As V.shape.length cs, .slice At V.strides.length ct]).alloc (.cells #[.int .i64 0, .slice none 0 0, .slice none 0 0] 28)
  have hR := Blk.new (w.alloc (.cells #[.int .i64 V.base, .slice As V.shape.length cs, .slice At V.strides.length ct] 28)) 28 #[.int .i64 0, .slice none 0 0, .slice none 0 0]
  simp only [World.size_alloc] at hR
  have hW : Below w.heap.size w ((w.alloc (.cells #[.int .i64 V.base, .slice As V.shape.length cs, .slice At V.strides.length ct] 28)).alloc (.cells #[.int .i64 0, .slice none 0 0, .slice none 0 0] 28)) := ((Below.refl _ _).alloc (Nat.le_refl _) _).alloc (by simp <;> omega) _
  have hnA := hA.lt
  have hnR := hR.lt
  generalize hW1 : ((w.alloc (.cells #[.int .i64 V.base, .slice As V.shape.length cs, .slice At V.strides.length ct] 28)).alloc (.cells #[.int .i64 0, .slice none 0 0, .slice none 0 0] 28)) = W1 at *
  have HZ1 := hid (show W1.heap.size = w.heap.size + 2 by rw [← hW1]; simp)
  have HW1 := hid hW1
  clear hW1
  have HS : Hid (SliceV w (.agg #[.int .i64 0, .int .i64 0, .int .i64 (-1), .bool false, .bool false]) flipS) := hid ⟨rfl, by simp [SL.ok, flipS, inI64]⟩
  go_enter Try.func23, Try.ntmps23
  go_wp2_with fail
  rw [HW1.out]
  clear HW1
  have H0 := Hp.start W1
  obtain ⟨⟨q1_0, q1_1, q1_2⟩, r1_0, r1_1, r1_2⟩ := ((Blk.ext hA H0.below hA.lt)).all3
  go_wp2_with fail
  refine (sSliceDim_any _ _ V d flipS _ ((hv0.ext hW).ext H0.below) wd HS.out).mono ?_; rintro e w2 ⟨s4, t4, rfl, ho, hp, hsep, hb2⟩
  clear q1_0 q1_1 q1_2 r1_0 r1_1 r1_2
  have H2 := H0.nx hb2
  generalize sliceL V d flipS = Z at *
  generalize okCut V d flipS = bz at *
  obtain ⟨A8, c8, e8⟩ := ho.form
  obtain ⟨B8, d8, f8⟩ := hp.form
  subst e8 f8
  obtain ⟨⟨q2_0, q2_1, q2_2⟩, r2_0, r2_1, r2_2⟩ := ((Blk.ext hR H2.below hR.lt)).all3
  go_wp2
  refine bodyPost_ret (v := .tuple #[.agg #[.int .i64 Z.base, .slice A8 Z.shape.length c8, .slice B8 Z.strides.length d8], .bool bz]) (by simp [results, Try.results23, go_sem, q2_0, q2_1, q2_2]) rfl ?_
  have hzz := H0.size
  exact ⟨_, _, rfl, (own3b ho (by omega) _ _ _).mono (by omega), (own3b hp (by omega) _ _ _).mono (by omega), hsep, below3 (hW.trans (H2.below.mono hW.size)) (by omega) _ _ _⟩

end Go.Proofs.Ytbcmhjhiofpnlaa
