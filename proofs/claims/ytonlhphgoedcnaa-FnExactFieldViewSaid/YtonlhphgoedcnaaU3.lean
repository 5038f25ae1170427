/- Contract: FieldView of the statement. No conditions. (printed by mkfv.py) -/
import Derived.Test.YtonlhphgoedcnaaU1
import Derived.Test.YtonlhphgoedcnaaQ4
import Derived.Test.YtonlhphgoedcnaaDM
import Derived.Test.YtonlhphgoedcnaaGr
import Derived.Test.YtonlhphgoedcnaaGm
import Derived.StillTailTactics
import Derived.Deep.Cut
namespace Go.Proofs.Ytonlhphgoedcnaa
open Go.RowKit

set_option maxRecDepth 100000 in
set_option maxHeartbeats 6400000 in
theorem sFieldView_any (v : Value) (F : FL) (k m : Int) (w : World) (hv : FormatV w v F) (hk : -9223372036854775808 ≤ k ∧ k ≤ 9223372036854775807) (_hm : -9223372036854775808 ≤ m ∧ m ≤ 9223372036854775807) :
    Calls Try.prog 16 #[v, .int .i64 k, .int .i64 m] w (RetViewB w (fvL F k m) (okFV F k m)) := by
  have hv0 := hv
  obtain ⟨A, c, rfl, hkc, hmc, h0⟩ := hv.form
  have hA := (Blk.new w 30 #[.slice A F.sizes.length c, .bool F.big, .bool F.aligned]).alloc (.cells #[.int .i64 0, .slice none 0 0, .slice none 0 0] 27)
  have hR := Blk.new (w.alloc (.cells #[.slice A F.sizes.length c, .bool F.big, .bool F.aligned] 30)) 27 #[.int .i64 0, .slice none 0 0, .slice none 0 0]
  simp only [World.size_alloc] at hR
  have hW : Below w.heap.size w ((w.alloc (.cells #[.slice A F.sizes.length c, .bool F.big, .bool F.aligned] 30)).alloc (.cells #[.int .i64 0, .slice none 0 0, .slice none 0 0] 27)) := ((Below.refl _ _).alloc (Nat.le_refl _) _).alloc (by simp <;> omega) _
  have hnA := hA.lt
  have hnR := hR.lt
  generalize hW1 : ((w.alloc (.cells #[.slice A F.sizes.length c, .bool F.big, .bool F.aligned] 30)).alloc (.cells #[.int .i64 0, .slice none 0 0, .slice none 0 0] 27)) = W1 at *
  have HZ1 := hid (show W1.heap.size = w.heap.size + 2 by rw [← hW1]; simp)
  have HW1 := hid hW1
  clear hW1
  cases hok : isFormatL F
  · have HQ := hid (fv_no (show okFV F k m = false by simp [okFV, hok]))
    have HOK := hid hok
    clear hok
    go_enter Try.func16, Try.ntmps16
    go_upto_region 1 with fail
    rw [HW1.out]
    clear HW1
    have H0 := Hp.start W1
    obtain ⟨⟨q1_0, q1_1, q1_2⟩, r1_0, r1_1, r1_2⟩ := ((Blk.ext hA H0.below hA.lt)).all3
    go_wp2_with fail
    refine (validFormat_any _ F _ ((hv0.ext hW).ext H0.below)).mono ?_; rintro e w2 ⟨rfl, hb2⟩
    clear q1_0 q1_1 q1_2 r1_0 r1_1 r1_2
    have H2 := H0.nx hb2
    rw [HOK.out]
    obtain ⟨⟨q2_0, q2_1, q2_2⟩, r2_0, r2_1, r2_2⟩ := ((Blk.ext hA H2.below hA.lt)).all3
    obtain ⟨⟨q3_0, q3_1, q3_2⟩, r3_0, r3_1, r3_2⟩ := ((Blk.ext hR H2.below hR.lt)).all3
    go_wp2
    refine bodyPost_ret (v := .tuple #[.agg #[.int .i64 0, .slice none 0 0, .slice none 0 0], .bool false]) (by simp [results, Try.results16, go_sem, q3_0, q3_1, q3_2]) rfl ?_
    rw [HQ.out.1, HQ.out.2]
    exact ⟨_, _, rfl, Own.nil _ _, Own.nil _ _, Sep.none_left _, below3 (hW.trans (H2.below.mono hW.size)) (by omega) _ _ _⟩
  have HOK := hid hok
  have hl5 := (isFormat_iff.1 hok).2.1
  cases hkr : inR k 0 (F.sizes.length - 1)
  · have HQ := hid (fv_no (show okFV F k m = false by simp [okFV, hkr]))
    have HK := hid hkr
    clear hkr hok
    go_enter Try.func16, Try.ntmps16
    go_upto_region 1 with fail
    rw [HW1.out]
    clear HW1
    have H0 := Hp.start W1
    obtain ⟨⟨q1_0, q1_1, q1_2⟩, r1_0, r1_1, r1_2⟩ := ((Blk.ext hA H0.below hA.lt)).all3
    go_wp2_with fail
    refine (validFormat_any _ F _ ((hv0.ext hW).ext H0.below)).mono ?_; rintro e w2 ⟨rfl, hb2⟩
    clear q1_0 q1_1 q1_2 r1_0 r1_1 r1_2
    have H2 := H0.nx hb2
    rw [HOK.out]
    obtain ⟨⟨q2_0, q2_1, q2_2⟩, r2_0, r2_1, r2_2⟩ := ((Blk.ext hA H2.below hA.lt)).all3
    go_wp2_with fail
    refine (inRange_any _ _ _ _).mono ?_; rintro e w' ⟨rfl, rfl⟩
    rw [HK.out]
    obtain ⟨⟨q3_0, q3_1, q3_2⟩, r3_0, r3_1, r3_2⟩ := ((Blk.ext hR H2.below hR.lt)).all3
    go_wp2
    refine bodyPost_ret (v := .tuple #[.agg #[.int .i64 0, .slice none 0 0, .slice none 0 0], .bool false]) (by simp [results, Try.results16, go_sem, q3_0, q3_1, q3_2]) rfl ?_
    rw [HQ.out.1, HQ.out.2]
    exact ⟨_, _, rfl, Own.nil _ _, Own.nil _ _, Sep.none_left _, below3 (hW.trans (H2.below.mono hW.size)) (by omega) _ _ _⟩
  have HK := hid hkr
  cases hmr : inR m 1 60
  · have HQ := hid (fv_no (show okFV F k m = false by simp [okFV, hmr]))
    have HM := hid hmr
    clear hkr hok hmr
    go_enter Try.func16, Try.ntmps16
    go_upto_region 1 with fail
    rw [HW1.out]
    clear HW1
    have H0 := Hp.start W1
    obtain ⟨⟨q1_0, q1_1, q1_2⟩, r1_0, r1_1, r1_2⟩ := ((Blk.ext hA H0.below hA.lt)).all3
    go_wp2_with fail
    refine (validFormat_any _ F _ ((hv0.ext hW).ext H0.below)).mono ?_; rintro e w2 ⟨rfl, hb2⟩
    clear q1_0 q1_1 q1_2 r1_0 r1_1 r1_2
    have H2 := H0.nx hb2
    rw [HOK.out]
    obtain ⟨⟨q2_0, q2_1, q2_2⟩, r2_0, r2_1, r2_2⟩ := ((Blk.ext hA H2.below hA.lt)).all3
    go_wp2_with fail
    refine (inRange_any _ _ _ _).mono ?_; rintro e w' ⟨rfl, rfl⟩
    rw [HK.out]
    go_wp2_with fail
    refine (inRange_any _ _ _ _).mono ?_; rintro e w' ⟨rfl, rfl⟩
    rw [HM.out]
    obtain ⟨⟨q3_0, q3_1, q3_2⟩, r3_0, r3_1, r3_2⟩ := ((Blk.ext hR H2.below hR.lt)).all3
    go_wp2
    refine bodyPost_ret (v := .tuple #[.agg #[.int .i64 0, .slice none 0 0, .slice none 0 0], .bool false]) (by simp [results, Try.results16, go_sem, q3_0, q3_1, q3_2]) rfl ?_
    rw [HQ.out.1, HQ.out.2]
    exact ⟨_, _, rfl, Own.nil _ _, Own.nil _ _, Sep.none_left _, below3 (hW.trans (H2.below.mono hW.size)) (by omega) _ _ _⟩
  have HM := hid hmr
  have HQ := hid (fvL_made hok hkr hmr)
  have hk2 := inR_iff.1 hkr
  have hm2 := inR_iff.1 hmr
  clear hkr hmr
  obtain ⟨j, rfl⟩ : ∃ j : Nat, k = j := ⟨k.toNat, by omega⟩
  have hlt : j < F.sizes.length := by omega
  have hbd := psF_in hok j hlt
  have hsb := size_bd hok
  have hpl := psF_length hok
  have hlp : j < (psF F).length := by omega
  have e2 : F.sizes.getD j 0 = F.sizes[j] := by simp [hlt]
  have e1 : (psF F).getD j 0 = (psF F)[j] := by simp [hlp]
  have HRW := hid (show rawFV F j m = ⟨if F.big then (psF F)[j] + F.sizes[j] - 1 else (psF F)[j], [m, F.sizes[j]], [sizeF F, if F.big then -1 else 1]⟩ by simp only [rawFV, Int.toNat_natCast, e1, e2])
  rw [e1] at hbd
  have HP := hid (show (psF F)[j]? = some (psF F)[j] by simp [hlp])
  have HSZ := hid (show F.sizes[j]? = some F.sizes[j] by simp [hlt])
  clear e1 e2
  have HPL := hid hpl
  clear hpl
  obtain ⟨p, hp⟩ : ∃ p, p = (psF F)[j] := ⟨_, rfl⟩
  obtain ⟨s, hs⟩ : ∃ s, s = F.sizes[j] := ⟨_, rfl⟩
  rw [← hp, ← hs] at hbd HRW
  rw [← hp] at HP
  rw [← hs] at HSZ
  obtain ⟨n, hn⟩ : ∃ n, n = sizeF F := ⟨_, rfl⟩
  rw [← hn] at hbd HRW hsb
  have HN := hid hn
  clear hp hs hn
  clear hok
  go_enter Try.func16, Try.ntmps16
  go_upto_region 1 with fail
  rw [HW1.out]
  clear HW1
  have H0 := Hp.start W1
  obtain ⟨⟨q1_0, q1_1, q1_2⟩, r1_0, r1_1, r1_2⟩ := ((Blk.ext hA H0.below hA.lt)).all3
  go_wp2_with fail
  refine (validFormat_any _ F _ ((hv0.ext hW).ext H0.below)).mono ?_; rintro e w2 ⟨rfl, hb2⟩
  clear q1_0 q1_1 q1_2 r1_0 r1_1 r1_2
  have H2 := H0.nx hb2
  rw [HOK.out]
  obtain ⟨⟨q2_0, q2_1, q2_2⟩, r2_0, r2_1, r2_2⟩ := ((Blk.ext hA H2.below hA.lt)).all3
  go_wp2_with fail
  refine (inRange_any _ _ _ _).mono ?_; rintro e w' ⟨rfl, rfl⟩
  rw [HK.out]
  go_wp2_with fail
  refine (inRange_any _ _ _ _).mono ?_; rintro e w' ⟨rfl, rfl⟩
  rw [HM.out]
  go_wp2_with fail
  refine (places_any _ F _ ((hv0.ext hW).ext H2.below) HOK.out).mono ?_; rintro e w3 ⟨v1, rfl, hP, hb3⟩
  clear q2_0 q2_1 q2_2 r2_0 r2_1 r2_2
  have H3 := H2.row hP hb3
  rw [List.nil_append] at H3
  rw [← HN.out]
  obtain ⟨A1, c1, e1⟩ := hP.form
  subst e1
  have hle := (hP.ints).elem j hlp
  obtain ⟨b1, off1, rfl, hy⟩ := hle
  rw [Option.some.inj ((List.getElem?_eq_getElem hlp).symm.trans HP.out)] at hy
  have hel := (show Ints w3 (.slice A F.sizes.length c) F.sizes from ((h0.ext hW).ext H3.below)).elem j hlt
  obtain ⟨b, off, rfl, hx⟩ := hel
  rw [Option.some.inj ((List.getElem?_eq_getElem hlt).symm.trans HSZ.out)] at hx
  obtain ⟨⟨q3_0, q3_1, q3_2⟩, r3_0, r3_1, r3_2⟩ := ((Blk.ext hA H3.below hA.lt)).all3
  have hjl : (j : Int) < (F.sizes.length : Int) := by omega
  have hjp : (j : Int) < ((psF F).length : Int) := by have := HPL.out; omega
  go_upto_region 4 with fail
  clear q3_0 q3_1 q3_2 r3_0 r3_1 r3_2
  have qqA := fun x : ExtW w3 => (Blk.ext (Blk.ext hA H3.below hA.lt) x.h (Blk.lt (Blk.ext hA H3.below hA.lt))).all3.1
  have qx := fun x : ExtW w3 => (x.h.cell (p := ⟨b, off + j, none⟩) (World.block_lt_of_cell? _ _ hx)).trans hx
  have qy := fun x : ExtW w3 => (x.h.cell (p := ⟨b1, off1 + j, none⟩) (World.block_lt_of_cell? _ _ hy)).trans hy
  refine region_mk 15 (by kernel_rfl) (by kernel_rfl) ?_
  apply Exists.intro
  simp only [List.take_succ_cons, List.take_zero, List.drop_succ_cons, List.drop_zero]
  repeat (first
    | (apply grow_val (by rfl); (focus (intro x; (go_simp; try with_reducible rfl); done)); simp only [Act.put, List.setIfInBounds_toArray, List.set_cons_zero, List.set_cons_succ])
    | (apply grow_skip (by rfl); simp only [Act.put, List.setIfInBounds_toArray, List.set_cons_zero, List.set_cons_succ]))
  apply grow_lit2 (.tmp 38) (.tmp 43) m s rfl (by rfl) (by rfl) (by rfl)
  intro g10 c10 hg10 F10 O10 hF10 hO10
  simp only [Act.put, List.setIfInBounds_toArray, List.set_cons_zero, List.set_cons_succ]
  repeat (first
    | (apply grow_val (by rfl); (focus (intro x; (go_simp; try with_reducible rfl); done)); simp only [Act.put, List.setIfInBounds_toArray, List.set_cons_zero, List.set_cons_succ])
    | (apply grow_skip (by rfl); simp only [Act.put, List.setIfInBounds_toArray, List.set_cons_zero, List.set_cons_succ]))
  apply grow_lit2 (.tmp 45) (.const (.int .i64 1)) n 1 rfl (by rfl) (by rfl) (by rfl)
  intro g12 c12 hg12 F12 O12 hF12 hO12
  simp only [Act.put, List.setIfInBounds_toArray, List.set_cons_zero, List.set_cons_succ]
  apply grow_fn (fun d => .agg #[d.getD 0 undef, d.getD 1 undef, d.getD 2 undef]) ([.int .i64 p, .slice (some ⟨g10, 0, none⟩) 2 c10, .slice (some ⟨g12, 0, none⟩) 2 c12]) (by kernel_rfl) (by rfl)
  · intro x hF
    refine ⟨_, by (go_simp; try with_reducible rfl), rfl⟩
  intro v13 F13 hF13
  simp only [Act.put, List.setIfInBounds_toArray, List.set_cons_zero, List.set_cons_succ]
  repeat (first
    | (apply grow_val (by rfl); (focus (intro x; (go_simp; try with_reducible rfl); done)); simp only [Act.put, List.setIfInBounds_toArray, List.set_cons_zero, List.set_cons_succ])
    | (apply grow_skip (by rfl); simp only [Act.put, List.setIfInBounds_toArray, List.set_cons_zero, List.set_cons_succ]))
  apply grow_blk (27) (#[.int .i64 0, .slice none 0 0, .slice none 0 0]) (by rfl)
  · intro x
    go_simp
  intro g14 hg14 F14 O14 hF14 hO14
  simp only [Act.put, List.setIfInBounds_toArray, List.set_cons_zero, List.set_cons_succ]
  repeat (first
    | (apply grow_val (by rfl); (focus (intro x; (go_simp; try with_reducible rfl); done)); simp only [Act.put, List.setIfInBounds_toArray, List.set_cons_zero, List.set_cons_succ])
    | (apply grow_skip (by rfl); simp only [Act.put, List.setIfInBounds_toArray, List.set_cons_zero, List.set_cons_succ]))
  refine grow_nil ?_
  intro x hF hS
  have h10 := hF10 _ (hF 10 (by omega))
  have h12 := hF12 _ (hF 12 (by omega))
  have h14 := hF14 _ (hF 14 (by omega))
  have e13 : v13 = .agg #[.int .i64 p, .slice (some ⟨g10, 0, none⟩) 2 c10, .slice (some ⟨g12, 0, none⟩) 2 c12] := hF13 _ (hF 13 (by omega))
  subst e13
  obtain ⟨w8, hb8⟩ := x
  have hb8 : Below w3.heap.size w3 w8 := hb8
  simp only at h10 h12 h14
  have dab : g10 ≠ g12 := fun e => hS 10 12 (by omega) (by omega) (by omega) g12 (e ▸ hO10) hO12
  have dad : g10 ≠ g14 := fun e => hS 10 14 (by omega) (by omega) (by omega) g14 (e ▸ hO10) hO14
  have dbd : g12 ≠ g14 := fun e => hS 12 14 (by omega) (by omega) (by omega) g14 (e ▸ hO12) hO14
  have H8 := H3.add (A := [.ints (.slice (some ⟨g10, 0, none⟩) 2 c10) [m, s], .ints (.slice (some ⟨g12, 0, none⟩) 2 c12) [n, 1], .blk g14 27 #[.int .i64 0, .slice none 0 0, .slice none 0 0]]) hb8 (fun i hi => by simp at hi; (rcases hi with rfl | rfl | rfl); exact h10; exact h12; exact ⟨hg14, h14⟩)
    (List.pairwise_cons.2 ⟨fun b hb k h1 h2 => by simp at hb; (rcases hb with rfl | rfl); exact dab (by simp [Item.owns, Value.ownBlock] at h1 h2; omega); exact dad (by simp [Item.owns, Value.ownBlock] at h1 h2; omega), List.pairwise_pair.2 fun k h1 h2 => dbd (by simp [Item.owns, Value.ownBlock] at h1 h2; omega)⟩)
  simp only [List.cons_append, List.nil_append] at H8
  clear hF hS hF10 hO10 hF12 hO12 hF13 hF14 hO14 qqA qx qy h10 h12 h14 dab dad dbd hP
  obtain ⟨⟨q4_0, q4_1, q4_2⟩, r4_0, r4_1, r4_2⟩ := (H8.blk 3 rfl).all3
  have H9 := H8.store3 3 rfl (.int .i64 p) (.slice (some ⟨g10, 0, none⟩) 2 c10) (.slice (some ⟨g12, 0, none⟩) 2 c12)
  simp only [List.set_cons_zero, List.set_cons_succ] at H9
  go_upto_region 5 with fail
  generalize ((w8.setCell ⟨g14, 0, none⟩ (.int .i64 p)).setCell ⟨g14, 1, none⟩ (.slice (some ⟨g10, 0, none⟩) 2 c10)).setCell ⟨g14, 2, none⟩ (.slice (some ⟨g12, 0, none⟩) 2 c12) = w9 at *
  clear q4_0 q4_1 q4_2 r4_0 r4_1 r4_2
  obtain ⟨⟨q5_0, q5_1, q5_2⟩, r5_0, r5_1, r5_2⟩ := ((Blk.ext hA H9.below hA.lt)).all3
  obtain ⟨⟨q6_0, q6_1, q6_2⟩, r6_0, r6_1, r6_2⟩ := (H9.blk 3 rfl).all3
  cases hbg : F.big
  · clear q5_0 q5_1 q5_2 r5_0 r5_1 r5_2 q6_0 q6_1 q6_2 r6_0 r6_1 r6_2
    have HBG := hid hbg
    obtain ⟨⟨q7_0, q7_1, q7_2⟩, r7_0, r7_1, r7_2⟩ := ((Blk.ext hA H9.below hA.lt)).all3
    obtain ⟨⟨q8_0, q8_1, q8_2⟩, r8_0, r8_1, r8_2⟩ := (H9.blk 3 rfl).all3
    rw [hbg] at q7_1
    clear hbg
    go_upto_region 8 with fail
    have hVV : ViewV w9 (.agg #[.int .i64 (p), .slice (some ⟨g10, 0, none⟩) 2 c10, .slice (some ⟨g12, 0, none⟩) 2 c12]) ⟨p, [m, s], [n, 1]⟩ := Own.view (V := ⟨p, [m, s], [n, 1]⟩) (H9.ints 1 rfl) (H9.ints 2 rfl)
    have HRV := hid (show rawFV F j m = ⟨p, [m, s], [n, 1]⟩ by rw [HRW.out, HBG.out]; rfl)
    clear q7_0 q7_1 q7_2 r7_0 r7_1 r7_2 q8_0 q8_1 q8_2 r8_0 r8_1 r8_2
    obtain ⟨⟨q9_0, q9_1, q9_2⟩, r9_0, r9_1, r9_2⟩ := (H9.blk 3 rfl).all3
    go_wp2_with fail
    refine (made_any _ ⟨p, [m, s], [n, 1]⟩ _ hVV).mono ?_; rintro e w10 ⟨s8, t8, rfl, ho, hp, hsep, hb10⟩
    clear q9_0 q9_1 q9_2 r9_0 r9_1 r9_2
    have H10 := H9.nx hb10
    rw [← HRV.out] at ho hp
    rw [← HRV.out]
    generalize madeL (rawFV F j m) = Z at *
    obtain ⟨A8, c8, e8⟩ := ho.form
    obtain ⟨B8, d8, f8⟩ := hp.form
    subst e8 f8
    obtain ⟨⟨q10_0, q10_1, q10_2⟩, r10_0, r10_1, r10_2⟩ := ((Blk.ext hR H10.below hR.lt)).all3
    generalize isViewL (rawFV F j m) = bv at *
    go_wp2
    refine bodyPost_ret (v := .tuple #[.agg #[.int .i64 Z.base, .slice A8 Z.shape.length c8, .slice B8 Z.strides.length d8], .bool bv]) (by simp [results, Try.results16, go_sem, q10_0, q10_1, q10_2]) rfl ?_
    rw [HQ.out.1, HQ.out.2]
    have hzz := H9.size
    exact ⟨_, _, rfl, (own3b ho (by omega) _ _ _).mono (by omega), (own3b hp (by omega) _ _ _).mono (by omega), hsep, below3 (hW.trans (H10.below.mono hW.size)) (by omega) _ _ _⟩
  · clear q5_0 q5_1 q5_2 r5_0 r5_1 r5_2 q6_0 q6_1 q6_2 r6_0 r6_1 r6_2
    have HBG := hid hbg
    obtain ⟨⟨q7_0, q7_1, q7_2⟩, r7_0, r7_1, r7_2⟩ := ((Blk.ext hA H9.below hA.lt)).all3
    obtain ⟨⟨q8_0, q8_1, q8_2⟩, r8_0, r8_1, r8_2⟩ := (H9.blk 3 rfl).all3
    rw [hbg] at q7_1
    clear hbg
    have hy9 := (H9.ints 0 rfl).ints.elem j hlp
    obtain ⟨b2, off2, e9, hy9⟩ := hy9
    simp only [Option.some.injEq, Addr.mk.injEq, and_true] at e9
    obtain ⟨rfl, rfl⟩ := e9
    rw [Option.some.inj ((List.getElem?_eq_getElem hlp).symm.trans HP.out)] at hy9
    have hx9 := (((h0.ext hW).ext H9.below)).elem j hlt
    obtain ⟨b3, off3, e9, hx9⟩ := hx9
    simp only [Option.some.injEq, Addr.mk.injEq, and_true] at e9
    obtain ⟨rfl, rfl⟩ := e9
    rw [Option.some.inj ((List.getElem?_eq_getElem hlt).symm.trans HSZ.out)] at hx9
    have hw1 : IntKind.i64.wrap (p + s) = p + s := IntWalk.i64_in _ (by omega)
    have hw2 : IntKind.i64.wrap (p + s - 1) = p + s - 1 := IntWalk.i64_in _ (by omega)
    go_upto_region 6 with fail
    go_still_tail 12, (by kernel_rfl)
    clear hy9 hx9
    have H10 := (H9.store 3 rfl 0 (.int .i64 (p + s - 1))).drew
    simp only [List.set_cons_zero, List.set_cons_succ, List.setIfInBounds_toArray] at H10
    go_upto_region 7 with fail
    generalize (w9.setCell ⟨g14, 0, none⟩ (.int .i64 (p + s - 1))).drew = w10 at *
    clear q7_0 q7_1 q7_2 r7_0 r7_1 r7_2 q8_0 q8_1 q8_2 r8_0 r8_1 r8_2
    obtain ⟨⟨q9_0, q9_1, q9_2⟩, r9_0, r9_1, r9_2⟩ := (H10.blk 3 rfl).all3
    have hc0 := (H10.ints 2 rfl).cell 1 (by simp)
    have hf0 := (H10.ints 2 rfl).free 1
    have H11 := H10.put 2 rfl 1 (-1)
    simp only [List.set_cons_zero, List.set_cons_succ] at H11
    go_upto_region 8 with fail
    generalize w10.setCell ⟨g12, 1, none⟩ (.int .i64 (-1)) = w11 at *
    clear hc0 hf0
    clear q9_0 q9_1 q9_2 r9_0 r9_1 r9_2
    obtain ⟨⟨q10_0, q10_1, q10_2⟩, r10_0, r10_1, r10_2⟩ := (H11.blk 3 rfl).all3
    have hVV : ViewV w11 (.agg #[.int .i64 (p + s - 1), .slice (some ⟨g10, 0, none⟩) 2 c10, .slice (some ⟨g12, 0, none⟩) 2 c12]) ⟨p + s - 1, [m, s], [n, -1]⟩ := Own.view (V := ⟨p + s - 1, [m, s], [n, -1]⟩) (H11.ints 1 rfl) (H11.ints 2 rfl)
    have HRV := hid (show rawFV F j m = ⟨p + s - 1, [m, s], [n, -1]⟩ by rw [HRW.out, HBG.out]; rfl)
    clear q10_0 q10_1 q10_2 r10_0 r10_1 r10_2
    obtain ⟨⟨q11_0, q11_1, q11_2⟩, r11_0, r11_1, r11_2⟩ := (H11.blk 3 rfl).all3
    go_wp2_with fail
    refine (made_any _ ⟨p + s - 1, [m, s], [n, -1]⟩ _ hVV).mono ?_; rintro e w12 ⟨s8, t8, rfl, ho, hp, hsep, hb12⟩
    clear q11_0 q11_1 q11_2 r11_0 r11_1 r11_2
    have H12 := H11.nx hb12
    rw [← HRV.out] at ho hp
    rw [← HRV.out]
    generalize madeL (rawFV F j m) = Z at *
    obtain ⟨A8, c8, e8⟩ := ho.form
    obtain ⟨B8, d8, f8⟩ := hp.form
    subst e8 f8
    obtain ⟨⟨q12_0, q12_1, q12_2⟩, r12_0, r12_1, r12_2⟩ := ((Blk.ext hR H12.below hR.lt)).all3
    generalize isViewL (rawFV F j m) = bv at *
    go_wp2
    refine bodyPost_ret (v := .tuple #[.agg #[.int .i64 Z.base, .slice A8 Z.shape.length c8, .slice B8 Z.strides.length d8], .bool bv]) (by simp [results, Try.results16, go_sem, q12_0, q12_1, q12_2]) rfl ?_
    rw [HQ.out.1, HQ.out.2]
    have hzz := H11.size
    exact ⟨_, _, rfl, (own3b ho (by omega) _ _ _).mono (by omega), (own3b hp (by omega) _ _ _).mono (by omega), hsep, below3 (hW.trans (H12.below.mono hW.size)) (by omega) _ _ _⟩

end Go.Proofs.Ytonlhphgoedcnaa
