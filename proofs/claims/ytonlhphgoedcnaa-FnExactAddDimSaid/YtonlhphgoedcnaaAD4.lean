/- Contract: AddDim, the reference's. No conditions. (printed by mkad.py) -/
import Derived.Test.YtonlhphgoedcnaaAD1
import Derived.Test.YtonlhphgoedcnaaAD3
import Derived.Test.YtonlhphgoedcnaaGb
import Derived.Test.YtonlhphgoedcnaaGp
import Derived.Test.YtonlhphgoedcnaaS2
import Derived.StillTailTactics
import Derived.Deep.Cut
namespace Go.Proofs.Ytonlhphgoedcnaa
open Go.RowKit

set_option maxRecDepth 100000 in
set_option maxHeartbeats 6400000 in
theorem sAddDim_any (v : Value) (V : VL) (p : Int) (w : World) (hv : ViewV w v V) (_hp : -9223372036854775808 ≤ p ∧ p ≤ 9223372036854775807) :
    Calls Try.prog 41 #[v, .int .i64 p] w (RetViewB w (addL V p) (okAdd V p)) := by
  have hv0 := hv
  obtain ⟨sv, tv, rfl, hsv, htv⟩ := hv
  obtain ⟨As, cs, es, hcs0, hcs, -⟩ := id hsv
  subst es
  obtain ⟨At, ct, et, hct0, hct, -⟩ := id htv
  subst et
  unfold maxLen at hcs hct
  have hA := (Blk.new w 27 #[.int .i64 V.base, .slice As V.shape.length cs, .slice At V.strides.length ct]).alloc (.cells #[.int .i64 0, .slice none 0 0, .slice none 0 0] 27)
  have hR := Blk.new (w.alloc (.cells #[.int .i64 V.base, .slice As V.shape.length cs, .slice At V.strides.length ct] 27)) 27 #[.int .i64 0, .slice none 0 0, .slice none 0 0]
  simp only [World.size_alloc] at hR
  have hW : Below w.heap.size w ((w.alloc (.cells #[.int .i64 V.base, .slice As V.shape.length cs, .slice At V.strides.length ct] 27)).alloc (.cells #[.int .i64 0, .slice none 0 0, .slice none 0 0] 27)) := ((Below.refl _ _).alloc (Nat.le_refl _) _).alloc (by simp <;> omega) _
  have hnA := hA.lt
  have hnR := hR.lt
  generalize hW1 : ((w.alloc (.cells #[.int .i64 V.base, .slice As V.shape.length cs, .slice At V.strides.length ct] 27)).alloc (.cells #[.int .i64 0, .slice none 0 0, .slice none 0 0] 27)) = W1 at *
  have HZ1 := hid (show W1.heap.size = w.heap.size + 2 by rw [← hW1]; simp)
  have HW1 := hid hW1
  clear hW1
  cases cV : isViewL V
  · have HQ := hid (add_no (show okAdd V p = false by simp [okAdd, cV]))
    have HV := hid cV
    clear cV
    go_enter Try.func41, Try.ntmps41
    go_upto_region 1 with fail
    rw [HW1.out]
    clear HW1
    have H0 := Hp.start W1
    obtain ⟨⟨q1_0, q1_1, q1_2⟩, r1_0, r1_1, r1_2⟩ := ((Blk.ext hA H0.below hA.lt)).all3
    go_wp2_with fail
    refine (validView_any _ V _ ((hv0.ext hW).ext H0.below)).mono ?_; rintro e w2 ⟨rfl, hb2⟩
    clear q1_0 q1_1 q1_2 r1_0 r1_1 r1_2
    have H2 := H0.nx hb2
    rw [HV.out]
    obtain ⟨⟨q2_0, q2_1, q2_2⟩, r2_0, r2_1, r2_2⟩ := ((Blk.ext hA H2.below hA.lt)).all3
    obtain ⟨⟨q3_0, q3_1, q3_2⟩, r3_0, r3_1, r3_2⟩ := ((Blk.ext hR H2.below hR.lt)).all3
    go_wp2
    refine bodyPost_ret (v := .tuple #[.agg #[.int .i64 0, .slice none 0 0, .slice none 0 0], .bool false]) (by simp [results, Try.results41, go_sem, q3_0, q3_1, q3_2]) rfl ?_
    rw [HQ.out.1, HQ.out.2]
    exact ⟨_, _, rfl, Own.nil _ _, Own.nil _ _, Sep.none_left _, below3 (hW.trans (H2.below.mono hW.size)) (by omega) _ _ _⟩
  have HV := hid cV
  have hl4 := (lens4 cV).1
  have hl5 : V.strides.length ≤ V.shape.length ∧ V.shape.length ≤ V.strides.length := by have := (lens4 cV).2; omega
  cases cR : inR p 0 V.shape.length
  · have HQ := hid (add_no (show okAdd V p = false by simp [okAdd, cR]))
    have HR := hid cR
    clear cV cR
    go_enter Try.func41, Try.ntmps41
    go_upto_region 1 with fail
    rw [HW1.out]
    clear HW1
    have H0 := Hp.start W1
    obtain ⟨⟨q1_0, q1_1, q1_2⟩, r1_0, r1_1, r1_2⟩ := ((Blk.ext hA H0.below hA.lt)).all3
    go_wp2_with fail
    refine (validView_any _ V _ ((hv0.ext hW).ext H0.below)).mono ?_; rintro e w2 ⟨rfl, hb2⟩
    clear q1_0 q1_1 q1_2 r1_0 r1_1 r1_2
    have H2 := H0.nx hb2
    rw [HV.out]
    obtain ⟨⟨q2_0, q2_1, q2_2⟩, r2_0, r2_1, r2_2⟩ := ((Blk.ext hA H2.below hA.lt)).all3
    go_wp2_with fail
    refine (inRange_any _ _ _ _).mono ?_; rintro e w' ⟨rfl, rfl⟩
    rw [HR.out]
    obtain ⟨⟨q3_0, q3_1, q3_2⟩, r3_0, r3_1, r3_2⟩ := ((Blk.ext hR H2.below hR.lt)).all3
    go_wp2
    refine bodyPost_ret (v := .tuple #[.agg #[.int .i64 0, .slice none 0 0, .slice none 0 0], .bool false]) (by simp [results, Try.results41, go_sem, q3_0, q3_1, q3_2]) rfl ?_
    rw [HQ.out.1, HQ.out.2]
    exact ⟨_, _, rfl, Own.nil _ _, Own.nil _ _, Sep.none_left _, below3 (hW.trans (H2.below.mono hW.size)) (by omega) _ _ _⟩
  have HR := hid cR
  by_cases h4 : V.shape.length = 4
  · have HQ := hid (add_no (show okAdd V p = false by simp [okAdd, h4]))
    have e4 : ((V.shape.length : Int) == 4) = true := by simp [h4]
    clear cV cR h4
    go_enter Try.func41, Try.ntmps41
    go_upto_region 1 with fail
    rw [HW1.out]
    clear HW1
    have H0 := Hp.start W1
    obtain ⟨⟨q1_0, q1_1, q1_2⟩, r1_0, r1_1, r1_2⟩ := ((Blk.ext hA H0.below hA.lt)).all3
    go_wp2_with fail
    refine (validView_any _ V _ ((hv0.ext hW).ext H0.below)).mono ?_; rintro e w2 ⟨rfl, hb2⟩
    clear q1_0 q1_1 q1_2 r1_0 r1_1 r1_2
    have H2 := H0.nx hb2
    rw [HV.out]
    obtain ⟨⟨q2_0, q2_1, q2_2⟩, r2_0, r2_1, r2_2⟩ := ((Blk.ext hA H2.below hA.lt)).all3
    go_wp2_with fail
    refine (inRange_any _ _ _ _).mono ?_; rintro e w' ⟨rfl, rfl⟩
    rw [HR.out]
    obtain ⟨⟨q3_0, q3_1, q3_2⟩, r3_0, r3_1, r3_2⟩ := ((Blk.ext hR H2.below hR.lt)).all3
    go_wp2
    refine bodyPost_ret (v := .tuple #[.agg #[.int .i64 0, .slice none 0 0, .slice none 0 0], .bool false]) (by simp [results, Try.results41, go_sem, q3_0, q3_1, q3_2]) rfl ?_
    rw [HQ.out.1, HQ.out.2]
    exact ⟨_, _, rfl, Own.nil _ _, Own.nil _ _, Sep.none_left _, below3 (hW.trans (H2.below.mono hW.size)) (by omega) _ _ _⟩
  have e4 : ((V.shape.length : Int) == 4) = false := by simp; omega
  have hr := inR_iff.1 cR
  obtain ⟨k, rfl⟩ : ∃ k : Nat, p = k := ⟨p.toNat, by omega⟩
  have hkl : k ≤ V.shape.length := by omega
  have hkt : k ≤ V.strides.length := by omega
  have hok : okAdd V k = true := by simp [okAdd, cV, cR, h4]
  have HQ := hid (show addL V k = insV V k ∧ okAdd V k = true from ⟨(add_yes hok).1, hok⟩)
  have HVI := hid (add_yes hok).2
  have hls : V.shape.length ≤ 1000 := by omega
  have hlt : V.strides.length ≤ 1000 := by omega
  clear cV cR hok
  go_enter Try.func41, Try.ntmps41
  go_upto_region 1 with fail
  rw [HW1.out]
  clear HW1
  have H0 := Hp.start W1
  obtain ⟨⟨q1_0, q1_1, q1_2⟩, r1_0, r1_1, r1_2⟩ := ((Blk.ext hA H0.below hA.lt)).all3
  go_wp2_with fail
  refine (validView_any _ V _ ((hv0.ext hW).ext H0.below)).mono ?_; rintro e w2 ⟨rfl, hb2⟩
  clear q1_0 q1_1 q1_2 r1_0 r1_1 r1_2
  have H2 := H0.nx hb2
  rw [HV.out]
  obtain ⟨⟨q2_0, q2_1, q2_2⟩, r2_0, r2_1, r2_2⟩ := ((Blk.ext hA H2.below hA.lt)).all3
  go_wp2_with fail
  refine (inRange_any _ _ _ _).mono ?_; rintro e w' ⟨rfl, rfl⟩
  rw [HR.out]
  obtain ⟨⟨q3_0, q3_1, q3_2⟩, r3_0, r3_1, r3_2⟩ := ((Blk.ext hA H2.below hA.lt)).all3
  go_upto_region 3 with fail
  clear q2_0 q2_1 q2_2 r2_0 r2_1 r2_2 q3_0 q3_1 q3_2 r3_0 r3_1 r3_2
  have qqA := fun x : ExtW w2 => (Blk.ext (Blk.ext hA H2.below hA.lt) x.h (Blk.lt (Blk.ext hA H2.below hA.lt))).all3.1
  have HS := hid (fun x : ExtW w2 => ((hsv.ext hW).ext H2.below).ext x.h)
  have HT := hid (fun x : ExtW w2 => ((htv.ext hW).ext H2.below).ext x.h)
  refine region_mkL 14 [13] (by kernel_rfl) (by kernel_rfl) (by kernel_rfl) (fun _ _ _ _ _ h => h) ?_
  apply Exists.intro
  simp only [List.take_succ_cons, List.take_zero, List.drop_succ_cons, List.drop_zero]
  repeat (first
    | (apply grow_val (by rfl); (focus (intro x; (go_simp; try with_reducible rfl); done)); simp only [Act.put, List.setIfInBounds_toArray, List.set_cons_zero, List.set_cons_succ])
    | (apply grow_skip (by rfl); simp only [Act.put, List.setIfInBounds_toArray, List.set_cons_zero, List.set_cons_succ]))
  apply grow_ints (insAt V.shape k 1) (by rfl)
  · intro x hF K Q hK
    go_simp
    (go_at_call 90; refine (insert_any _ V.shape k 1 _ (HS.out x) hkl hls).mono ?_; rintro e w' ⟨v', rfl, ho, hb⟩; exact hK _ _ hb ho)
  intro A5 c5 F5 O5 hF5 hO5
  simp only [Act.put, List.setIfInBounds_toArray, List.set_cons_zero, List.set_cons_succ]
  repeat (first
    | (apply grow_val (by rfl); (focus (intro x; (go_simp; try with_reducible rfl); done)); simp only [Act.put, List.setIfInBounds_toArray, List.set_cons_zero, List.set_cons_succ])
    | (apply grow_skip (by rfl); simp only [Act.put, List.setIfInBounds_toArray, List.set_cons_zero, List.set_cons_succ]))
  apply grow_ints (insAt V.strides k 0) (by rfl)
  · intro x hF K Q hK
    go_simp
    (go_at_call 90; refine (insert_any _ V.strides k 0 _ (HT.out x) hkt hlt).mono ?_; rintro e w' ⟨v', rfl, ho, hb⟩; exact hK _ _ hb ho)
  intro A9 c9 F9 O9 hF9 hO9
  simp only [Act.put, List.setIfInBounds_toArray, List.set_cons_zero, List.set_cons_succ]
  repeat (first
    | (apply grow_val (by rfl); (focus (intro x; (go_simp; try with_reducible rfl); done)); simp only [Act.put, List.setIfInBounds_toArray, List.set_cons_zero, List.set_cons_succ])
    | (apply grow_skip (by rfl); simp only [Act.put, List.setIfInBounds_toArray, List.set_cons_zero, List.set_cons_succ]))
  apply grow_buildV (insV V k) (by rfl)
  · intro x hF
    have h5 := hF5 _ (hF 5 (by kernel_rfl))
    have h9 := hF9 _ (hF 9 (by kernel_rfl))
    exact ⟨.agg #[.int .i64 V.base, .slice A5 (insAt V.shape k 1).length c5, .slice A9 (insAt V.strides k 0).length c9], by (go_simp; try with_reducible rfl), ⟨_, _, _, _, rfl⟩, Own.view (V := insV V k) h5 h9⟩
  intro A10 c10 B10 d10 F10 hF10
  simp only [Act.put, List.setIfInBounds_toArray, List.set_cons_zero, List.set_cons_succ]
  apply grow_viewF (tupB true) (tupB_inj true) (insV V k) (by rfl)
  · intro x hF K Q hK
    have hvv := hF10 _ (hF 10 (by kernel_rfl))
    go_simp
    (go_at_call 70; refine (made_yes _ (insV V k) _ hvv HVI.out).mono ?_; rintro e w' ⟨s', t', rfl, ho, hp, hs, hb⟩; exact hK _ _ _ hb ho hp hs)
  intro A11 c11 B11 d11 F11 O11 hF11 hO11
  simp only [tupB, Act.put, List.setIfInBounds_toArray, List.set_cons_zero, List.set_cons_succ]
  apply grow_fn (fun d => tupAt 0 (d.getD 0 undef)) [.tuple #[.agg #[.int .i64 (insV V k).base, .slice A11 (insV V k).shape.length c11, .slice B11 (insV V k).strides.length d11], .bool true]] (by kernel_rfl) (by rfl)
  · intro x hF
    refine ⟨_, by (go_simp; try rfl), rfl⟩
  intro v12 F12 hF12
  simp only [Act.put, List.setIfInBounds_toArray, List.set_cons_zero, List.set_cons_succ]
  apply grow_fn (fun d => tupAt 1 (d.getD 0 undef)) [.tuple #[.agg #[.int .i64 (insV V k).base, .slice A11 (insV V k).shape.length c11, .slice B11 (insV V k).strides.length d11], .bool true]] (by kernel_rfl) (by rfl)
  · intro x hF
    refine ⟨_, by (go_simp; try rfl), rfl⟩
  intro v13 F13 hF13
  simp only [Act.put, List.setIfInBounds_toArray, List.set_cons_zero, List.set_cons_succ]
  refine grow_nil ?_
  intro x hF hS
  have hm := hF11 _ (hF 11 (by omega))
  have e12 : v12 = .agg #[.int .i64 (insV V k).base, .slice A11 (insV V k).shape.length c11, .slice B11 (insV V k).strides.length d11] := hF12 _ (hF 12 (by omega))
  have e13 : v13 = .bool true := hF13 _ (hF 13 (by omega))
  subst e12 e13
  obtain ⟨w8, hb8⟩ := x
  have hb8 : Below w2.heap.size w2 w8 := hb8
  simp only at hm
  have H8 := H2.nx hb8
  clear hF hS hF5 hO5 hF9 hO9 hF10 hF11 hO11 hF12 hF13 qqA HS HT
  obtain ⟨⟨q4_0, q4_1, q4_2⟩, r4_0, r4_1, r4_2⟩ := ((Blk.ext hR H8.below hR.lt)).all3
  go_wp2
  refine bodyPost_ret (v := .tuple #[.agg #[.int .i64 (insV V k).base, .slice A11 (insV V k).shape.length c11, .slice B11 (insV V k).strides.length d11], .bool true]) (by simp [results, Try.results41, go_sem, q4_0, q4_1, q4_2]) rfl ?_
  rw [HQ.out.1, HQ.out.2]
  have hzz := H2.size
  have hz1 := HZ1.out
  obtain ⟨hr1, hr2, hsp⟩ := hm
  exact ⟨_, _, rfl, (own3b hr1 (by omega) _ _ _).mono (by omega), (own3b hr2 (by omega) _ _ _).mono (by omega), hsp, below3 (hW.trans (H8.below.mono hW.size)) (by omega) _ _ _⟩

end Go.Proofs.Ytonlhphgoedcnaa
