/- Contract: AddDim. No conditions. (printed by mkad.py) -/
import Derived.Test.YtonlhphgoedcnaaAD1
import Derived.Test.YtonlhphgoedcnaaC4
import Derived.Test.YtonlhphgoedcnaaV2
import Derived.StillTailTactics
import Derived.Deep.Cut
namespace Go.Proofs.Ytonlhphgoedcnaa
open Go.RowKit

set_option maxRecDepth 100000 in
set_option maxHeartbeats 6400000 in
theorem AddDim_any (v : Value) (V : VL) (p : Int) (w : World) (hv : ViewV w v V) (hp : -9223372036854775808 ≤ p ∧ p ≤ 9223372036854775807) :
    Calls Try.prog 42 #[v, .int .i64 p] w (RetViewB w (addL V p) (okAdd V p)) := by
  have hv0 := hv
  obtain ⟨sv, tv, rfl, hsv, htv⟩ := hv
  obtain ⟨As, cs, es, hcs0, hcs, -⟩ := id hsv
  subst es
  obtain ⟨At, ct, et, hct0, hct, -⟩ := id htv
  subst et
  unfold maxLen at hcs hct
  have hA := (Blk.new w 27 #[.int .i64 V.base, .slice As V.shape.length cs, .slice At V.strides.length ct]).alloc (.cells #[.int .i64 0, .slice none 0 0, .slice none 0 0] 27)
  have hR := Blk.new (w.alloc (.cells #[.int .i64 V.base, .slice As V.shape.length cs, .slice At V.strides.length ct] 27)) 27 #[.int .i64 0, .slice none 0 0, .slice none 0 0]
  simp only [World.size_alloc] at hR
  have hW : Below w.heap.size w ((w.alloc (.cells #[.int .i64 V.base, .slice As V.shape.length cs, .slice At V.strides.length ct] 27)).alloc (.cells #[.int .i64 0, .slice none 0 0, .slice none 0 0] 27)) := ((Below.refl _ _).alloc (Nat.le_refl _) _).alloc (by simp <;> omega) _
  have hnA := hA.lt
  have hnR := hR.lt
  generalize hW1 : ((w.alloc (.cells #[.int .i64 V.base, .slice As V.shape.length cs, .slice At V.strides.length ct] 27)).alloc (.cells #[.int .i64 0, .slice none 0 0, .slice none 0 0] 27)) = W1 at *
  have HZ1 := hid (show W1.heap.size = w.heap.size + 2 by rw [← hW1]; simp)
  have HW1 := hid hW1
  clear hW1
  cases cV : isViewL V
  · have HQ := hid (add_no (show okAdd V p = false by simp [okAdd, cV]))
    have HV := hid cV
    clear cV
    go_enter Try.func42, Try.ntmps42
    go_upto_region 1 with fail
    rw [HW1.out]
    clear HW1
    have H0 := Hp.start W1
    obtain ⟨⟨q1_0, q1_1, q1_2⟩, r1_0, r1_1, r1_2⟩ := ((Blk.ext hA H0.below hA.lt)).all3
    go_wp2_with fail
    refine (isView_any _ V _ ((hv0.ext hW).ext H0.below)).mono ?_; rintro e w2 ⟨rfl, hb2⟩
    clear q1_0 q1_1 q1_2 r1_0 r1_1 r1_2
    have H2 := H0.nx hb2
    rw [HV.out]
    obtain ⟨⟨q2_0, q2_1, q2_2⟩, r2_0, r2_1, r2_2⟩ := ((Blk.ext hA H2.below hA.lt)).all3
    obtain ⟨⟨q3_0, q3_1, q3_2⟩, r3_0, r3_1, r3_2⟩ := ((Blk.ext hR H2.below hR.lt)).all3
    go_wp2
    refine bodyPost_ret (v := .tuple #[.agg #[.int .i64 0, .slice none 0 0, .slice none 0 0], .bool false]) (by simp [results, Try.results42, go_sem, q3_0, q3_1, q3_2]) rfl ?_
    rw [HQ.out.1, HQ.out.2]
    exact ⟨_, _, rfl, Own.nil _ _, Own.nil _ _, Sep.none_left _, below3 (hW.trans (H2.below.mono hW.size)) (by omega) _ _ _⟩
  have HV := hid cV
  have hl4 := (lens4 cV).1
  have hl5 : V.strides.length ≤ V.shape.length ∧ V.shape.length ≤ V.strides.length := by have := (lens4 cV).2; omega
  by_cases h4 : V.shape.length = 4
  · have HQ := hid (add_no (show okAdd V p = false by simp [okAdd, h4]))
    have e4 : ((V.shape.length : Int) == 4) = true := by simp [h4]
    clear cV h4
    go_enter Try.func42, Try.ntmps42
    go_upto_region 1 with fail
    rw [HW1.out]
    clear HW1
    have H0 := Hp.start W1
    obtain ⟨⟨q1_0, q1_1, q1_2⟩, r1_0, r1_1, r1_2⟩ := ((Blk.ext hA H0.below hA.lt)).all3
    go_wp2_with fail
    refine (isView_any _ V _ ((hv0.ext hW).ext H0.below)).mono ?_; rintro e w2 ⟨rfl, hb2⟩
    clear q1_0 q1_1 q1_2 r1_0 r1_1 r1_2
    have H2 := H0.nx hb2
    rw [HV.out]
    obtain ⟨⟨q2_0, q2_1, q2_2⟩, r2_0, r2_1, r2_2⟩ := ((Blk.ext hA H2.below hA.lt)).all3
    obtain ⟨⟨q3_0, q3_1, q3_2⟩, r3_0, r3_1, r3_2⟩ := ((Blk.ext hR H2.below hR.lt)).all3
    go_wp2
    refine bodyPost_ret (v := .tuple #[.agg #[.int .i64 0, .slice none 0 0, .slice none 0 0], .bool false]) (by simp [results, Try.results42, go_sem, q3_0, q3_1, q3_2]) rfl ?_
    rw [HQ.out.1, HQ.out.2]
    exact ⟨_, _, rfl, Own.nil _ _, Own.nil _ _, Sep.none_left _, below3 (hW.trans (H2.below.mono hW.size)) (by omega) _ _ _⟩
  have e4 : ((V.shape.length : Int) == 4) = false := by simp; omega
  by_cases hp0 : p < 0
  · have HQ := hid (add_no (show okAdd V p = false by simp [okAdd, inR_no (.inl hp0)]))
    clear cV
    go_enter Try.func42, Try.ntmps42
    go_upto_region 1 with fail
    rw [HW1.out]
    clear HW1
    have H0 := Hp.start W1
    obtain ⟨⟨q1_0, q1_1, q1_2⟩, r1_0, r1_1, r1_2⟩ := ((Blk.ext hA H0.below hA.lt)).all3
    go_wp2_with fail
    refine (isView_any _ V _ ((hv0.ext hW).ext H0.below)).mono ?_; rintro e w2 ⟨rfl, hb2⟩
    clear q1_0 q1_1 q1_2 r1_0 r1_1 r1_2
    have H2 := H0.nx hb2
    rw [HV.out]
    obtain ⟨⟨q2_0, q2_1, q2_2⟩, r2_0, r2_1, r2_2⟩ := ((Blk.ext hA H2.below hA.lt)).all3
    obtain ⟨⟨q3_0, q3_1, q3_2⟩, r3_0, r3_1, r3_2⟩ := ((Blk.ext hR H2.below hR.lt)).all3
    go_wp2
    refine bodyPost_ret (v := .tuple #[.agg #[.int .i64 0, .slice none 0 0, .slice none 0 0], .bool false]) (by simp [results, Try.results42, go_sem, q3_0, q3_1, q3_2]) rfl ?_
    rw [HQ.out.1, HQ.out.2]
    exact ⟨_, _, rfl, Own.nil _ _, Own.nil _ _, Sep.none_left _, below3 (hW.trans (H2.below.mono hW.size)) (by omega) _ _ _⟩
  have c1 : decide (p < 0) = false := by simp; omega
  by_cases hp9 : (V.shape.length : Int) < p
  · have HQ := hid (add_no (show okAdd V p = false by (have hz : inR p 0 V.shape.length = false := inR_no (.inr (by omega))); simp [okAdd, hz]))
    clear cV
    go_enter Try.func42, Try.ntmps42
    go_upto_region 1 with fail
    rw [HW1.out]
    clear HW1
    have H0 := Hp.start W1
    obtain ⟨⟨q1_0, q1_1, q1_2⟩, r1_0, r1_1, r1_2⟩ := ((Blk.ext hA H0.below hA.lt)).all3
    go_wp2_with fail
    refine (isView_any _ V _ ((hv0.ext hW).ext H0.below)).mono ?_; rintro e w2 ⟨rfl, hb2⟩
    clear q1_0 q1_1 q1_2 r1_0 r1_1 r1_2
    have H2 := H0.nx hb2
    rw [HV.out]
    obtain ⟨⟨q2_0, q2_1, q2_2⟩, r2_0, r2_1, r2_2⟩ := ((Blk.ext hA H2.below hA.lt)).all3
    obtain ⟨⟨q3_0, q3_1, q3_2⟩, r3_0, r3_1, r3_2⟩ := ((Blk.ext hR H2.below hR.lt)).all3
    go_wp2
    refine bodyPost_ret (v := .tuple #[.agg #[.int .i64 0, .slice none 0 0, .slice none 0 0], .bool false]) (by simp [results, Try.results42, go_sem, q3_0, q3_1, q3_2]) rfl ?_
    rw [HQ.out.1, HQ.out.2]
    exact ⟨_, _, rfl, Own.nil _ _, Own.nil _ _, Sep.none_left _, below3 (hW.trans (H2.below.mono hW.size)) (by omega) _ _ _⟩
  obtain ⟨k, rfl⟩ : ∃ k : Nat, p = k := ⟨p.toNat, by omega⟩
  have hkl : k ≤ V.shape.length := by omega
  have hok : okAdd V k = true := by simp [okAdd, cV, inR_yes (show (0 : Int) ≤ (k : Int) by omega) (show (k : Int) ≤ (V.shape.length : Int) by omega), h4]
  have HQ := hid (show addL V k = insV V k ∧ okAdd V k = true from ⟨(add_yes hok).1, hok⟩)
  have c2 : decide (V.shape.length < k) = false := by simp; omega
  clear cV hok
  go_enter Try.func42, Try.ntmps42
  go_upto_region 1 with fail
  rw [HW1.out]
  clear HW1
  have H0 := Hp.start W1
  obtain ⟨⟨q1_0, q1_1, q1_2⟩, r1_0, r1_1, r1_2⟩ := ((Blk.ext hA H0.below hA.lt)).all3
  go_wp2_with fail
  refine (isView_any _ V _ ((hv0.ext hW).ext H0.below)).mono ?_; rintro e w2 ⟨rfl, hb2⟩
  clear q1_0 q1_1 q1_2 r1_0 r1_1 r1_2
  have H2 := H0.nx hb2
  rw [HV.out]
  obtain ⟨⟨q2_0, q2_1, q2_2⟩, r2_0, r2_1, r2_2⟩ := ((Blk.ext hA H2.below hA.lt)).all3
  go_wp2_with fail
  refine (icopyView_any _ V _ ((hv0.ext hW).ext H2.below) (by omega) (by omega)).mono ?_; rintro e w3 ⟨s2, t2, rfl, ho, hpp, hsep, hb3⟩
  clear q2_0 q2_1 q2_2 r2_0 r2_1 r2_2
  have H3 := H2.rows ho hpp hsep hb3
  rw [List.nil_append] at H3
  obtain ⟨A2, c2', e2⟩ := ho.form
  obtain ⟨B2, d2, f2⟩ := hpp.form
  subst e2 f2
  clear ho hpp hsep
  have H4 := H3.alloc 27 #[.int .i64 V.base, .slice A2 V.shape.length c2', .slice B2 V.strides.length d2]
  simp only [List.cons_append, List.nil_append] at H4
  go_upto_region 4 with fail
  generalize w3.alloc (.cells #[.int .i64 V.base, .slice A2 V.shape.length c2', .slice B2 V.strides.length d2] 27) = w4 at *
  generalize w3.heap.size = g4 at H4 ⊢
  obtain ⟨⟨q3_0, q3_1, q3_2⟩, r3_0, r3_1, r3_2⟩ := (H4.blk 2 rfl).all3
  have hlw : w.heap.size + 2 ≤ w4.heap.size := by have := H4.size; have := HZ1.out; omega
  have HLa := H4.nx (below_alloc w4 (.cells #[.int .i64 1] 3))
  obtain ⟨⟨l0, l1, l2⟩, l3, l4, l5⟩ := (HLa.blk 2 rfl).all3
  have HNa := hid (fun k hk => Nat.ne_of_lt ((H4.ints 0 rfl).lt k hk).2)
  go_wp2_with fail
  refine (Insert_any A2 c2' V.shape _ _ (HLa.ints 0 rfl) HLa.size k hkl (by omega) w4.heap.size 1 (Blk.new _ _ _) HNa.out).mono ?_; rintro e w5 ⟨v5, rfl, ho, hg, hat⟩
  clear l0 l1 l2 l3 l4 l5
  clear q3_0 q3_1 q3_2 r3_0 r3_1 r3_2
  have H5 := HLa.grown 0 rfl ho hg hat
  simp only [List.set_cons_zero] at H5
  obtain ⟨Aa, ca, ea⟩ := ho.form
  subst ea
  clear ho hg hat hlw HLa HNa
  obtain ⟨⟨q4_0, q4_1, q4_2⟩, r4_0, r4_1, r4_2⟩ := (H5.blk 2 rfl).all3
  have H6 := H5.store 2 rfl 1 (.slice Aa (insAt V.shape k 1).length ca)
  simp only [List.set_cons_zero, List.set_cons_succ, List.setIfInBounds_toArray] at H6
  go_upto_region 5 with fail
  generalize (w5.setCell ⟨g4, 1, none⟩ (.slice Aa (insAt V.shape k 1).length ca)) = w6 at *
  clear q4_0 q4_1 q4_2 r4_0 r4_1 r4_2
  obtain ⟨⟨q5_0, q5_1, q5_2⟩, r5_0, r5_1, r5_2⟩ := (H6.blk 2 rfl).all3
  have hlw : w.heap.size + 2 ≤ w6.heap.size := by have := H6.size; have := HZ1.out; omega
  have HLb := H6.nx (below_alloc w6 (.cells #[.int .i64 0] 3))
  obtain ⟨⟨l0, l1, l2⟩, l3, l4, l5⟩ := (HLb.blk 2 rfl).all3
  have HNb := hid (fun k hk => Nat.ne_of_lt ((H6.ints 1 rfl).lt k hk).2)
  go_wp2_with fail
  refine (Insert_any B2 d2 V.strides _ _ (HLb.ints 1 rfl) HLb.size k (by omega) (by omega) w6.heap.size 0 (Blk.new _ _ _) HNb.out).mono ?_; rintro e w7 ⟨v7, rfl, ho, hg, hat⟩
  clear l0 l1 l2 l3 l4 l5
  clear q5_0 q5_1 q5_2 r5_0 r5_1 r5_2
  have H7 := HLb.grown 1 rfl ho hg hat
  simp only [List.set_cons_zero, List.set_cons_succ] at H7
  obtain ⟨Ab, cb, eb⟩ := ho.form
  subst eb
  clear ho hg hat hlw HLb HNb
  obtain ⟨⟨q6_0, q6_1, q6_2⟩, r6_0, r6_1, r6_2⟩ := (H7.blk 2 rfl).all3
  have H8 := H7.store 2 rfl 2 (.slice Ab (insAt V.strides k 0).length cb)
  simp only [List.set_cons_zero, List.set_cons_succ, List.setIfInBounds_toArray] at H8
  go_upto_region 6 with fail
  generalize (w7.setCell ⟨g4, 2, none⟩ (.slice Ab (insAt V.strides k 0).length cb)) = w8 at *
  clear q6_0 q6_1 q6_2 r6_0 r6_1 r6_2
  obtain ⟨⟨q7_0, q7_1, q7_2⟩, r7_0, r7_1, r7_2⟩ := (H8.blk 2 rfl).all3
  obtain ⟨⟨q8_0, q8_1, q8_2⟩, r8_0, r8_1, r8_2⟩ := ((Blk.ext hR H8.below hR.lt)).all3
  go_wp2
  refine bodyPost_ret (v := .tuple #[.agg #[.int .i64 V.base, .slice Aa (insAt V.shape k 1).length ca, .slice Ab (insAt V.strides k 0).length cb], .bool true]) (by simp [results, Try.results42, go_sem, q8_0, q8_1, q8_2]) rfl ?_
  rw [HQ.out.1, HQ.out.2]
  have hzz := H8.size
  have hr1 := (H8.ints 0 rfl)
  have hr2 := (H8.ints 1 rfl)
  have hsp : Sep (.slice Aa (insAt V.shape k 1).length ca) (.slice Ab (insAt V.strides k 0).length cb) := H8.apart 0 1 rfl rfl (by omega)
  exact ⟨_, _, rfl, (own3b hr1 (by omega) _ _ _).mono (by omega), (own3b hr2 (by omega) _ _ _).mono (by omega), hsp, below3 (hW.trans (H8.below.mono hW.size)) (by omega) _ _ _⟩

end Go.Proofs.Ytonlhphgoedcnaa
