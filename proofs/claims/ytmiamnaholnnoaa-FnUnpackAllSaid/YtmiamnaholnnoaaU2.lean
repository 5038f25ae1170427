/- Contract: FieldView. No conditions. (printed by mkfv.py) -/
import Derived.Test.YtmiamnaholnnoaaU1
import Derived.Test.YtmiamnaholnnoaaQ5
import Derived.Test.YtmiamnaholnnoaaGr
import Derived.Test.YtmiamnaholnnoaaGm
import Derived.StillTailTactics
import Derived.Deep.Cut
namespace Go.Proofs.Ytmiamnaholnnoaa
open Go.RowKit

set_option maxRecDepth 100000 in
set_option maxHeartbeats 6400000 in
theorem FieldView_any (v : Value) (F : FL) (k m : Int) (w : World) (hv : FormatV w v F) (hk : -9223372036854775808 ≤ k ∧ k ≤ 9223372036854775807) (hm : -9223372036854775808 ≤ m ∧ m ≤ 9223372036854775807) :
    Calls Try.prog 32 #[v, .int .i64 k, .int .i64 m] w (RetViewB w (fvL F k m) (okFV F k m)) := by
  have hv0 := hv
  obtain ⟨A, c, rfl, hkc, hmc, h0⟩ := hv.form
  have hA := (Blk.new w 25 #[.slice A F.sizes.length c, .bool F.big, .bool F.aligned]).alloc (.cells #[.int .i64 0, .slice none 0 0, .slice none 0 0] 47)
  have hR := Blk.new (w.alloc (.cells #[.slice A F.sizes.length c, .bool F.big, .bool F.aligned] 25)) 47 #[.int .i64 0, .slice none 0 0, .slice none 0 0]
  simp only [World.size_alloc] at hR
  have hW : Below w.heap.size w ((w.alloc (.cells #[.slice A F.sizes.length c, .bool F.big, .bool F.aligned] 25)).alloc (.cells #[.int .i64 0, .slice none 0 0, .slice none 0 0] 47)) := ((Below.refl _ _).alloc (Nat.le_refl _) _).alloc (by simp <;> omega) _
  have hnA := hA.lt
  have hnR := hR.lt
  generalize hW1 : ((w.alloc (.cells #[.slice A F.sizes.length c, .bool F.big, .bool F.aligned] 25)).alloc (.cells #[.int .i64 0, .slice none 0 0, .slice none 0 0] 47)) = W1 at *
  have HZ1 := hid (show W1.heap.size = w.heap.size + 2 by rw [← hW1]; simp)
  have HW1 := hid hW1
  clear hW1
  cases hok : isFormatL F
  · have HQ := hid (fv_no (show okFV F k m = false by simp [okFV, hok]))
    have HOK := hid hok
    clear hok
    go_enter Try.func32, Try.ntmps32
    go_upto_region 1 with fail
    rw [HW1.out]
    clear HW1
    have H0 := Hp.start W1
    obtain ⟨⟨q1_0, q1_1, q1_2⟩, r1_0, r1_1, r1_2⟩ := ((Blk.ext hA H0.below hA.lt)).all3
    go_wp2_with fail
    refine (isFormat_any _ F _ ((hv0.ext hW).ext H0.below)).mono ?_; rintro e w2 ⟨rfl, hb2⟩
    clear q1_0 q1_1 q1_2 r1_0 r1_1 r1_2
    have H2 := H0.nx hb2
    rw [HOK.out]
    obtain ⟨⟨q2_0, q2_1, q2_2⟩, r2_0, r2_1, r2_2⟩ := ((Blk.ext hA H2.below hA.lt)).all3
    obtain ⟨⟨q3_0, q3_1, q3_2⟩, r3_0, r3_1, r3_2⟩ := ((Blk.ext hR H2.below hR.lt)).all3
    go_wp2
    refine bodyPost_ret (v := .tuple #[.agg #[.int .i64 0, .slice none 0 0, .slice none 0 0], .bool false]) (by simp [results, Try.results32, go_sem, q3_0, q3_1, q3_2]) rfl ?_
    rw [HQ.out.1, HQ.out.2]
    exact ⟨_, _, rfl, Own.nil _ _, Own.nil _ _, Sep.none_left _, below3 (hW.trans (H2.below.mono hW.size)) (by omega) _ _ _⟩
  have HOK := hid hok
  have hl5 := (isFormat_iff.1 hok).2.1
  by_cases hk0 : k < 0
  · have HQ := hid (fv_no (show okFV F k m = false by simp [okFV, inR_no (.inl hk0)]))
    clear hok
    go_enter Try.func32, Try.ntmps32
    go_upto_region 1 with fail
    rw [HW1.out]
    clear HW1
    have H0 := Hp.start W1
    obtain ⟨⟨q1_0, q1_1, q1_2⟩, r1_0, r1_1, r1_2⟩ := ((Blk.ext hA H0.below hA.lt)).all3
    go_wp2_with fail
    refine (isFormat_any _ F _ ((hv0.ext hW).ext H0.below)).mono ?_; rintro e w2 ⟨rfl, hb2⟩
    clear q1_0 q1_1 q1_2 r1_0 r1_1 r1_2
    have H2 := H0.nx hb2
    rw [HOK.out]
    obtain ⟨⟨q2_0, q2_1, q2_2⟩, r2_0, r2_1, r2_2⟩ := ((Blk.ext hA H2.below hA.lt)).all3
    obtain ⟨⟨q3_0, q3_1, q3_2⟩, r3_0, r3_1, r3_2⟩ := ((Blk.ext hR H2.below hR.lt)).all3
    go_wp2
    refine bodyPost_ret (v := .tuple #[.agg #[.int .i64 0, .slice none 0 0, .slice none 0 0], .bool false]) (by simp [results, Try.results32, go_sem, q3_0, q3_1, q3_2]) rfl ?_
    rw [HQ.out.1, HQ.out.2]
    exact ⟨_, _, rfl, Own.nil _ _, Own.nil _ _, Sep.none_left _, below3 (hW.trans (H2.below.mono hW.size)) (by omega) _ _ _⟩
  by_cases hk9 : (F.sizes.length : Int) ≤ k
  · have HQ := hid (fv_no (show okFV F k m = false by (have hz : inR k 0 (F.sizes.length - 1) = false := inR_no (.inr (by omega))); simp [okFV, hz]))
    clear hok
    go_enter Try.func32, Try.ntmps32
    go_upto_region 1 with fail
    rw [HW1.out]
    clear HW1
    have H0 := Hp.start W1
    obtain ⟨⟨q1_0, q1_1, q1_2⟩, r1_0, r1_1, r1_2⟩ := ((Blk.ext hA H0.below hA.lt)).all3
    go_wp2_with fail
    refine (isFormat_any _ F _ ((hv0.ext hW).ext H0.below)).mono ?_; rintro e w2 ⟨rfl, hb2⟩
    clear q1_0 q1_1 q1_2 r1_0 r1_1 r1_2
    have H2 := H0.nx hb2
    rw [HOK.out]
    obtain ⟨⟨q2_0, q2_1, q2_2⟩, r2_0, r2_1, r2_2⟩ := ((Blk.ext hA H2.below hA.lt)).all3
    obtain ⟨⟨q3_0, q3_1, q3_2⟩, r3_0, r3_1, r3_2⟩ := ((Blk.ext hR H2.below hR.lt)).all3
    go_wp2
    refine bodyPost_ret (v := .tuple #[.agg #[.int .i64 0, .slice none 0 0, .slice none 0 0], .bool false]) (by simp [results, Try.results32, go_sem, q3_0, q3_1, q3_2]) rfl ?_
    rw [HQ.out.1, HQ.out.2]
    exact ⟨_, _, rfl, Own.nil _ _, Own.nil _ _, Sep.none_left _, below3 (hW.trans (H2.below.mono hW.size)) (by omega) _ _ _⟩
  by_cases hm1 : m < 1
  · have HQ := hid (fv_no (show okFV F k m = false by simp [okFV, inR_no (.inl hm1)]))
    clear hok
    go_enter Try.func32, Try.ntmps32
    go_upto_region 1 with fail
    rw [HW1.out]
    clear HW1
    have H0 := Hp.start W1
    obtain ⟨⟨q1_0, q1_1, q1_2⟩, r1_0, r1_1, r1_2⟩ := ((Blk.ext hA H0.below hA.lt)).all3
    go_wp2_with fail
    refine (isFormat_any _ F _ ((hv0.ext hW).ext H0.below)).mono ?_; rintro e w2 ⟨rfl, hb2⟩
    clear q1_0 q1_1 q1_2 r1_0 r1_1 r1_2
    have H2 := H0.nx hb2
    rw [HOK.out]
    obtain ⟨⟨q2_0, q2_1, q2_2⟩, r2_0, r2_1, r2_2⟩ := ((Blk.ext hA H2.below hA.lt)).all3
    obtain ⟨⟨q3_0, q3_1, q3_2⟩, r3_0, r3_1, r3_2⟩ := ((Blk.ext hR H2.below hR.lt)).all3
    go_wp2
    refine bodyPost_ret (v := .tuple #[.agg #[.int .i64 0, .slice none 0 0, .slice none 0 0], .bool false]) (by simp [results, Try.results32, go_sem, q3_0, q3_1, q3_2]) rfl ?_
    rw [HQ.out.1, HQ.out.2]
    exact ⟨_, _, rfl, Own.nil _ _, Own.nil _ _, Sep.none_left _, below3 (hW.trans (H2.below.mono hW.size)) (by omega) _ _ _⟩
  have HOV := hid (okFV_impl (k := k) (m := m) hok (inR_yes (by omega) (by omega)) (by omega))
  obtain ⟨j, rfl⟩ : ∃ j : Nat, k = j := ⟨k.toNat, by omega⟩
  have hlt : j < F.sizes.length := by omega
  have hbd := psF_in hok j hlt
  have hsb := size_bd hok
  have hpl := psF_length hok
  have hlp : j < (psF F).length := by omega
  have e2 : F.sizes.getD j 0 = F.sizes[j] := by simp [hlt]
  have e1 : (psF F).getD j 0 = (psF F)[j] := by simp [hlp]
  have HRW := hid (show rawFV F j m = ⟨if F.big then (psF F)[j] + F.sizes[j] - 1 else (psF F)[j], [m, F.sizes[j]], [sizeF F, if F.big then -1 else 1]⟩ by simp only [rawFV, Int.toNat_natCast, e1, e2])
  rw [e1] at hbd
  have HP := hid (show (psF F)[j]? = some (psF F)[j] by simp [hlp])
  have HSZ := hid (show F.sizes[j]? = some F.sizes[j] by simp [hlt])
  clear e1 e2
  have HPL := hid hpl
  clear hpl
  obtain ⟨p, hp⟩ : ∃ p, p = (psF F)[j] := ⟨_, rfl⟩
  obtain ⟨s, hs⟩ : ∃ s, s = F.sizes[j] := ⟨_, rfl⟩
  rw [← hp, ← hs] at hbd HRW
  rw [← hp] at HP
  rw [← hs] at HSZ
  obtain ⟨n, hn⟩ : ∃ n, n = sizeF F := ⟨_, rfl⟩
  rw [← hn] at hbd HRW hsb
  have HN := hid hn
  clear hp hs hn
  clear hok
  have c1 : decide ((j : Int) < 0) = false := by simp
  have c2 : decide (F.sizes.length ≤ j) = false := by simp; omega
  have c3 : decide (m < 1) = false := by simp; omega
  go_enter Try.func32, Try.ntmps32
  go_upto_region 1 with fail
  rw [HW1.out]
  clear HW1
  have H0 := Hp.start W1
  obtain ⟨⟨q1_0, q1_1, q1_2⟩, r1_0, r1_1, r1_2⟩ := ((Blk.ext hA H0.below hA.lt)).all3
  go_wp2_with fail
  refine (isFormat_any _ F _ ((hv0.ext hW).ext H0.below)).mono ?_; rintro e w2 ⟨rfl, hb2⟩
  clear q1_0 q1_1 q1_2 r1_0 r1_1 r1_2
  have H2 := H0.nx hb2
  rw [HOK.out]
  obtain ⟨⟨q2_0, q2_1, q2_2⟩, r2_0, r2_1, r2_2⟩ := ((Blk.ext hA H2.below hA.lt)).all3
  have hel := (show Ints w2 (.slice A F.sizes.length c) F.sizes from ((h0.ext hW).ext H2.below)).elem j hlt
  obtain ⟨b, off, rfl, hx⟩ := hel
  rw [Option.some.inj ((List.getElem?_eq_getElem hlt).symm.trans HSZ.out)] at hx
  clear q2_0 q2_1 q2_2 r2_0 r2_1 r2_2
  obtain ⟨⟨q3_0, q3_1, q3_2⟩, r3_0, r3_1, r3_2⟩ := ((Blk.ext hA H2.below hA.lt)).all3
  have hjl : (j : Int) < (F.sizes.length : Int) := by omega
  have hjp : (j : Int) < ((psF F).length : Int) := by have := HPL.out; omega
  go_upto_region 3 with fail
  clear q3_0 q3_1 q3_2 r3_0 r3_1 r3_2
  have qqA := fun x : ExtW w2 => (Blk.ext (Blk.ext hA H2.below hA.lt) x.h (Blk.lt (Blk.ext hA H2.below hA.lt))).all3.1
  have qx := fun x : ExtW w2 => (x.h.cell (p := ⟨b, off + j, none⟩) (World.block_lt_of_cell? _ _ hx)).trans hx
  have HFV := hid (fun x : ExtW w2 => ((hv0.ext hW).ext H2.below).ext x.h)
  refine region_mk 17 (by kernel_rfl) (by kernel_rfl) ?_
  apply Exists.intro
  simp only [List.take_succ_cons, List.take_zero, List.drop_succ_cons, List.drop_zero]
  (apply grow_val (by rfl); (focus (intro x; (go_simp; try with_reducible rfl); done)); simp only [Act.put, List.setIfInBounds_toArray, List.set_cons_zero, List.set_cons_succ])
  apply grow_rowF (fun v => v) idf_inj (psF F) (by have := HPL.out;omega) (by rfl)
  · intro x hF K Q hK
    go_simp
    (go_at_call 41; refine (placesOf_any _ F _ (HFV.out x) HOK.out).mono ?_; rintro e w' ⟨v', rfl, ho, hb⟩; exact hK _ _ hb ho)
  intro g1 c1 hg1 F1 O1 hF1 hO1
  simp only [Act.put, List.setIfInBounds_toArray, List.set_cons_zero, List.set_cons_succ]
  (apply grow_val (by rfl); (focus (intro x; (go_simp; try with_reducible rfl); done)); simp only [Act.put, List.setIfInBounds_toArray, List.set_cons_zero, List.set_cons_succ])
  have HPa := HP.out
  apply grow_idx g1 (j) (.int .i64 (p)) (by rfl)
  · intro x hF
    refine ⟨by (go_simp; try with_reducible rfl), HasCell.of_own (hF1 _ (hF 1 (by kernel_rfl))) (by assumption)⟩
  intro g3 F3 hF3
  simp only [Act.put, List.setIfInBounds_toArray, List.set_cons_zero, List.set_cons_succ]
  apply grow_read (.int .i64 p) (by rfl)
  · intro x hF
    have hy := hF3 _ (hF 3 (by kernel_rfl))
    have hy1 := hy.1
    clear hF hy
    go_simp
  simp only [Act.put, List.setIfInBounds_toArray, List.set_cons_zero, List.set_cons_succ]
  repeat (first
    | (apply grow_val (by rfl); (focus (intro x; (go_simp; try with_reducible rfl); done)); simp only [Act.put, List.setIfInBounds_toArray, List.set_cons_zero, List.set_cons_succ])
    | (apply grow_skip (by rfl); simp only [Act.put, List.setIfInBounds_toArray, List.set_cons_zero, List.set_cons_succ]))
  apply grow_lit2 (.tmp 33) (.tmp 38) m s rfl (by rfl) (by rfl) (by rfl)
  intro g11 c11 hg11 F11 O11 hF11 hO11
  simp only [Act.put, List.setIfInBounds_toArray, List.set_cons_zero, List.set_cons_succ]
  (apply grow_val (by rfl); (focus (intro x; (go_simp; try with_reducible rfl); done)); simp only [Act.put, List.setIfInBounds_toArray, List.set_cons_zero, List.set_cons_succ])
  apply grow_call (by rfl)
  · intro x K Q hK
    go_simp
    (go_at_call 40; refine (itemSize_any _ F _ (HFV.out x) HOK.out).mono ?_; rintro e w' ⟨rfl, hb⟩; rw [← HN.out]; exact hK _ hb)
  simp only [Act.put, List.setIfInBounds_toArray, List.set_cons_zero, List.set_cons_succ]
  repeat (first
    | (apply grow_val (by rfl); (focus (intro x; (go_simp; try with_reducible rfl); done)); simp only [Act.put, List.setIfInBounds_toArray, List.set_cons_zero, List.set_cons_succ])
    | (apply grow_skip (by rfl); simp only [Act.put, List.setIfInBounds_toArray, List.set_cons_zero, List.set_cons_succ]))
  apply grow_lit2 (.tmp 41) (.const (.int .i64 1)) n 1 rfl (by rfl) (by rfl) (by rfl)
  intro g14 c14 hg14 F14 O14 hF14 hO14
  simp only [Act.put, List.setIfInBounds_toArray, List.set_cons_zero, List.set_cons_succ]
  apply grow_fn (fun d => .agg #[d.getD 0 undef, d.getD 1 undef, d.getD 2 undef]) ([.int .i64 p, .slice (some ⟨g11, 0, none⟩) 2 c11, .slice (some ⟨g14, 0, none⟩) 2 c14]) (by kernel_rfl) (by rfl)
  · intro x hF
    refine ⟨_, by (go_simp; try with_reducible rfl), rfl⟩
  intro v15 F15 hF15
  simp only [Act.put, List.setIfInBounds_toArray, List.set_cons_zero, List.set_cons_succ]
  repeat (first
    | (apply grow_val (by rfl); (focus (intro x; (go_simp; try with_reducible rfl); done)); simp only [Act.put, List.setIfInBounds_toArray, List.set_cons_zero, List.set_cons_succ])
    | (apply grow_skip (by rfl); simp only [Act.put, List.setIfInBounds_toArray, List.set_cons_zero, List.set_cons_succ]))
  apply grow_blk (47) (#[.int .i64 0, .slice none 0 0, .slice none 0 0]) (by rfl)
  · intro x
    go_simp
  intro g16 hg16 F16 O16 hF16 hO16
  simp only [Act.put, List.setIfInBounds_toArray, List.set_cons_zero, List.set_cons_succ]
  repeat (first
    | (apply grow_val (by rfl); (focus (intro x; (go_simp; try with_reducible rfl); done)); simp only [Act.put, List.setIfInBounds_toArray, List.set_cons_zero, List.set_cons_succ])
    | (apply grow_skip (by rfl); simp only [Act.put, List.setIfInBounds_toArray, List.set_cons_zero, List.set_cons_succ]))
  refine grow_nil ?_
  intro x hF hS
  have h11 := hF11 _ (hF 11 (by omega))
  have h14 := hF14 _ (hF 14 (by omega))
  have h16 := hF16 _ (hF 16 (by omega))
  have e15 : v15 = .agg #[.int .i64 p, .slice (some ⟨g11, 0, none⟩) 2 c11, .slice (some ⟨g14, 0, none⟩) 2 c14] := hF15 _ (hF 15 (by omega))
  subst e15
  obtain ⟨w8, hb8⟩ := x
  have hb8 : Below w2.heap.size w2 w8 := hb8
  simp only at h11 h14 h16
  have dab : g11 ≠ g14 := fun e => hS 11 14 (by omega) (by omega) (by omega) g14 (e ▸ hO11) hO14
  have dad : g11 ≠ g16 := fun e => hS 11 16 (by omega) (by omega) (by omega) g16 (e ▸ hO11) hO16
  have dbd : g14 ≠ g16 := fun e => hS 14 16 (by omega) (by omega) (by omega) g16 (e ▸ hO14) hO16
  have H8 := H2.add (A := [.ints (.slice (some ⟨g11, 0, none⟩) 2 c11) [m, s], .ints (.slice (some ⟨g14, 0, none⟩) 2 c14) [n, 1], .blk g16 47 #[.int .i64 0, .slice none 0 0, .slice none 0 0]]) hb8 (fun i hi => by simp at hi; (rcases hi with rfl | rfl | rfl); exact h11; exact h14; exact ⟨hg16, h16⟩)
    (List.pairwise_cons.2 ⟨fun b hb k h1 h2 => by simp at hb; (rcases hb with rfl | rfl); exact dab (by simp [Item.owns, Value.ownBlock] at h1 h2; omega); exact dad (by simp [Item.owns, Value.ownBlock] at h1 h2; omega), List.pairwise_pair.2 fun k h1 h2 => dbd (by simp [Item.owns, Value.ownBlock] at h1 h2; omega)⟩)
  simp only [List.nil_append] at H8
  clear hF hS hF1 hO1 hF3 hF11 hO11 hF14 hO14 hF15 hF16 hO16 qqA qx HFV h11 h14 h16 dab dad dbd HPa
  obtain ⟨⟨q4_0, q4_1, q4_2⟩, r4_0, r4_1, r4_2⟩ := (H8.blk 2 rfl).all3
  have H9 := H8.store3 2 rfl (.int .i64 p) (.slice (some ⟨g11, 0, none⟩) 2 c11) (.slice (some ⟨g14, 0, none⟩) 2 c14)
  simp only [List.set_cons_zero, List.set_cons_succ] at H9
  go_upto_region 4 with fail
  generalize ((w8.setCell ⟨g16, 0, none⟩ (.int .i64 p)).setCell ⟨g16, 1, none⟩ (.slice (some ⟨g11, 0, none⟩) 2 c11)).setCell ⟨g16, 2, none⟩ (.slice (some ⟨g14, 0, none⟩) 2 c14) = w9 at *
  clear q4_0 q4_1 q4_2 r4_0 r4_1 r4_2
  obtain ⟨⟨q5_0, q5_1, q5_2⟩, r5_0, r5_1, r5_2⟩ := ((Blk.ext hA H9.below hA.lt)).all3
  obtain ⟨⟨q6_0, q6_1, q6_2⟩, r6_0, r6_1, r6_2⟩ := (H9.blk 2 rfl).all3
  cases hbg : F.big
  · clear q5_0 q5_1 q5_2 r5_0 r5_1 r5_2 q6_0 q6_1 q6_2 r6_0 r6_1 r6_2
    have HBG := hid hbg
    obtain ⟨⟨q7_0, q7_1, q7_2⟩, r7_0, r7_1, r7_2⟩ := ((Blk.ext hA H9.below hA.lt)).all3
    obtain ⟨⟨q8_0, q8_1, q8_2⟩, r8_0, r8_1, r8_2⟩ := (H9.blk 2 rfl).all3
    rw [hbg] at q7_1
    clear hbg
    go_upto_region 7 with fail
    have hVV : ViewV w9 (.agg #[.int .i64 (p), .slice (some ⟨g11, 0, none⟩) 2 c11, .slice (some ⟨g14, 0, none⟩) 2 c14]) ⟨p, [m, s], [n, 1]⟩ := Own.view (V := ⟨p, [m, s], [n, 1]⟩) (H9.ints 0 rfl) (H9.ints 1 rfl)
    have HRV := hid (show rawFV F j m = ⟨p, [m, s], [n, 1]⟩ by rw [HRW.out, HBG.out]; rfl)
    clear q7_0 q7_1 q7_2 r7_0 r7_1 r7_2 q8_0 q8_1 q8_2 r8_0 r8_1 r8_2
    obtain ⟨⟨q9_0, q9_1, q9_2⟩, r9_0, r9_1, r9_2⟩ := (H9.blk 2 rfl).all3
    go_wp2_with fail
    refine (isView_any _ ⟨p, [m, s], [n, 1]⟩ _ hVV).mono ?_; rintro e w10 ⟨rfl, hb10⟩
    clear q9_0 q9_1 q9_2 r9_0 r9_1 r9_2
    have H10 := H9.nx hb10
    rw [← HRV.out]
    cases cV : isViewL (rawFV F j m)
    · have HQ := hid (fv_no (HOV.out.trans cV))
      obtain ⟨⟨q10_0, q10_1, q10_2⟩, r10_0, r10_1, r10_2⟩ := (H10.blk 2 rfl).all3
      obtain ⟨⟨q11_0, q11_1, q11_2⟩, r11_0, r11_1, r11_2⟩ := ((Blk.ext hR H10.below hR.lt)).all3
      go_wp2
      refine bodyPost_ret (v := .tuple #[.agg #[.int .i64 0, .slice none 0 0, .slice none 0 0], .bool false]) (by simp [results, Try.results32, go_sem, q11_0, q11_1, q11_2]) rfl ?_
      rw [HQ.out.1, HQ.out.2]
      exact ⟨_, _, rfl, Own.nil _ _, Own.nil _ _, Sep.none_left _, below3 (hW.trans (H10.below.mono hW.size)) (by omega) _ _ _⟩
    · obtain ⟨⟨q10_0, q10_1, q10_2⟩, r10_0, r10_1, r10_2⟩ := (H10.blk 2 rfl).all3
      obtain ⟨⟨q11_0, q11_1, q11_2⟩, r11_0, r11_1, r11_2⟩ := ((Blk.ext hR H10.below hR.lt)).all3
      go_wp2
      refine bodyPost_ret (v := .tuple #[.agg #[.int .i64 (p), .slice (some ⟨g11, 0, none⟩) 2 c11, .slice (some ⟨g14, 0, none⟩) 2 c14], .bool true]) (by simp [results, Try.results32, go_sem, q11_0, q11_1, q11_2]) rfl ?_
      have hq2 : okFV F j m = true := HOV.out.trans cV
      rw [show fvL F j m = ⟨p, [m, s], [n, 1]⟩ by rw [← HRV.out]; simp [fvL, hq2], hq2]
      have hzz := H10.size
      have hr1 := (H10.ints 0 rfl)
      have hr2 := (H10.ints 1 rfl)
      have hsp : Sep (.slice (some ⟨g11, 0, none⟩) 2 c11) (.slice (some ⟨g14, 0, none⟩) 2 c14) := H10.apart 0 1 rfl rfl (by omega)
      exact ⟨_, _, rfl, (own3b hr1 (by omega) _ _ _).mono (by omega), (own3b hr2 (by omega) _ _ _).mono (by omega), hsp, below3 (hW.trans (H10.below.mono hW.size)) (by omega) _ _ _⟩
  · clear q5_0 q5_1 q5_2 r5_0 r5_1 r5_2 q6_0 q6_1 q6_2 r6_0 r6_1 r6_2
    have HBG := hid hbg
    obtain ⟨⟨q7_0, q7_1, q7_2⟩, r7_0, r7_1, r7_2⟩ := ((Blk.ext hA H9.below hA.lt)).all3
    obtain ⟨⟨q8_0, q8_1, q8_2⟩, r8_0, r8_1, r8_2⟩ := (H9.blk 2 rfl).all3
    rw [hbg] at q7_1
    clear hbg
    have hx9 := (((h0.ext hW).ext H9.below)).elem j hlt
    obtain ⟨b3, off3, e9, hx9⟩ := hx9
    simp only [Option.some.injEq, Addr.mk.injEq, and_true] at e9
    obtain ⟨rfl, rfl⟩ := e9
    rw [Option.some.inj ((List.getElem?_eq_getElem hlt).symm.trans HSZ.out)] at hx9
    have hw1 : IntKind.i64.wrap (s - 1) = s - 1 := IntWalk.i64_in _ (by omega)
    have hw2 : IntKind.i64.wrap (p + (s - 1)) = p + s - 1 := by rw [IntWalk.i64_in _ (by omega)]; omega
    go_upto_region 5 with fail
    go_still_tail 10, (by kernel_rfl)
    clear hx9
    have H10 := (H9.store 2 rfl 0 (.int .i64 (p + s - 1))).drew
    simp only [List.set_cons_zero, List.set_cons_succ, List.setIfInBounds_toArray] at H10
    go_upto_region 6 with fail
    generalize (w9.setCell ⟨g16, 0, none⟩ (.int .i64 (p + s - 1))).drew = w10 at *
    clear q7_0 q7_1 q7_2 r7_0 r7_1 r7_2 q8_0 q8_1 q8_2 r8_0 r8_1 r8_2
    obtain ⟨⟨q9_0, q9_1, q9_2⟩, r9_0, r9_1, r9_2⟩ := (H10.blk 2 rfl).all3
    have hc0 := (H10.ints 1 rfl).cell 1 (by simp)
    have hf0 := (H10.ints 1 rfl).free 1
    have H11 := H10.put 1 rfl 1 (-1)
    simp only [List.set_cons_zero, List.set_cons_succ] at H11
    go_upto_region 7 with fail
    generalize w10.setCell ⟨g14, 1, none⟩ (.int .i64 (-1)) = w11 at *
    clear hc0 hf0
    clear q9_0 q9_1 q9_2 r9_0 r9_1 r9_2
    obtain ⟨⟨q10_0, q10_1, q10_2⟩, r10_0, r10_1, r10_2⟩ := (H11.blk 2 rfl).all3
    have hVV : ViewV w11 (.agg #[.int .i64 (p + s - 1), .slice (some ⟨g11, 0, none⟩) 2 c11, .slice (some ⟨g14, 0, none⟩) 2 c14]) ⟨p + s - 1, [m, s], [n, -1]⟩ := Own.view (V := ⟨p + s - 1, [m, s], [n, -1]⟩) (H11.ints 0 rfl) (H11.ints 1 rfl)
    have HRV := hid (show rawFV F j m = ⟨p + s - 1, [m, s], [n, -1]⟩ by rw [HRW.out, HBG.out]; rfl)
    clear q10_0 q10_1 q10_2 r10_0 r10_1 r10_2
    obtain ⟨⟨q11_0, q11_1, q11_2⟩, r11_0, r11_1, r11_2⟩ := (H11.blk 2 rfl).all3
    go_wp2_with fail
    refine (isView_any _ ⟨p + s - 1, [m, s], [n, -1]⟩ _ hVV).mono ?_; rintro e w12 ⟨rfl, hb12⟩
    clear q11_0 q11_1 q11_2 r11_0 r11_1 r11_2
    have H12 := H11.nx hb12
    rw [← HRV.out]
    cases cV : isViewL (rawFV F j m)
    · have HQ := hid (fv_no (HOV.out.trans cV))
      obtain ⟨⟨q12_0, q12_1, q12_2⟩, r12_0, r12_1, r12_2⟩ := (H12.blk 2 rfl).all3
      obtain ⟨⟨q13_0, q13_1, q13_2⟩, r13_0, r13_1, r13_2⟩ := ((Blk.ext hR H12.below hR.lt)).all3
      go_wp2
      refine bodyPost_ret (v := .tuple #[.agg #[.int .i64 0, .slice none 0 0, .slice none 0 0], .bool false]) (by simp [results, Try.results32, go_sem, q13_0, q13_1, q13_2]) rfl ?_
      rw [HQ.out.1, HQ.out.2]
      exact ⟨_, _, rfl, Own.nil _ _, Own.nil _ _, Sep.none_left _, below3 (hW.trans (H12.below.mono hW.size)) (by omega) _ _ _⟩
    · obtain ⟨⟨q12_0, q12_1, q12_2⟩, r12_0, r12_1, r12_2⟩ := (H12.blk 2 rfl).all3
      obtain ⟨⟨q13_0, q13_1, q13_2⟩, r13_0, r13_1, r13_2⟩ := ((Blk.ext hR H12.below hR.lt)).all3
      go_wp2
      refine bodyPost_ret (v := .tuple #[.agg #[.int .i64 (p + s - 1), .slice (some ⟨g11, 0, none⟩) 2 c11, .slice (some ⟨g14, 0, none⟩) 2 c14], .bool true]) (by simp [results, Try.results32, go_sem, q13_0, q13_1, q13_2]) rfl ?_
      have hq2 : okFV F j m = true := HOV.out.trans cV
      rw [show fvL F j m = ⟨p + s - 1, [m, s], [n, -1]⟩ by rw [← HRV.out]; simp [fvL, hq2], hq2]
      have hzz := H12.size
      have hr1 := (H12.ints 0 rfl)
      have hr2 := (H12.ints 1 rfl)
      have hsp : Sep (.slice (some ⟨g11, 0, none⟩) 2 c11) (.slice (some ⟨g14, 0, none⟩) 2 c14) := H12.apart 0 1 rfl rfl (by omega)
      exact ⟨_, _, rfl, (own3b hr1 (by omega) _ _ _).mono (by omega), (own3b hr2 (by omega) _ _ _).mono (by omega), hsp, below3 (hW.trans (H12.below.mono hW.size)) (by omega) _ _ _⟩

end Go.Proofs.Ytmiamnaholnnoaa
