/- Contract: JoinDims of the reference. No conditions. -/
import Derived.Test.YtmglcapjccbknaaK17
import Derived.Outline
namespace Go.Proofs.Ytmglcapjccbknaa
open Go.RowKit

set_option maxRecDepth 100000 in
set_option maxHeartbeats 6400000 in
theorem sJoinDims_any (v : Value) (V : VL) (d : Int) (w : World) (hv : ViewV w v V) (wd : -9223372036854775808 ≤ d ∧ d ≤ 9223372036854775807) :
    Calls Try.prog 53 #[v, .int .i64 d] w (RetViewB w (joinL V d) (okJoin V d)) := by
  have hv0 := hv
  obtain ⟨sv, tv, rfl, hsv, htv⟩ := hv
  obtain ⟨As, cs, es, -, hcs, -⟩ := id hsv
  subst es
  unfold maxLen at hcs
  have hA := (Blk.new w 28 #[.int .i64 V.base, .slice As V.shape.length cs, tv]).alloc (.cells #[.int .i64 0, .slice none 0 0, .slice none 0 0] 28)
  have hR := Blk.new (w.alloc (.cells #[.int .i64 V.base, .slice As V.shape.length cs, tv] 28)) 28 #[.int .i64 0, .slice none 0 0, .slice none 0 0]
  have hW : Below w.heap.size w ((w.alloc (.cells #[.int .i64 V.base, .slice As V.shape.length cs, tv] 28)).alloc (.cells #[.int .i64 0, .slice none 0 0, .slice none 0 0] 28)) := ((Below.refl _ _).alloc (Nat.le_refl _) _).alloc (by simp) _
  simp only [World.size_alloc] at hR
  have hn0 := hA.lt
  have hn1 := hR.lt
  cases c0 : isViewL V
  · have HC0 := hid c0
    have HJ := hid (show okJ V d = false by simp [okJ, hasDimL, c0])
    have HQ := hid (show okJoin V d = false by unfold okJoin; rw [HJ.out]; rfl)
    have HR := hid (show joinL V d = VL.zero by unfold joinL; rw [HJ.out]; rfl)
    clear c0
    go_enter Try.func53, Try.ntmps53
    go_wp2_with fail
    generalize (w.alloc (.cells #[.int .i64 V.base, .slice As V.shape.length cs, tv] 28)).alloc (.cells #[.int .i64 0, .slice none 0 0, .slice none 0 0] 28) = W1 at *
    refine (validView_any _ V _ (hv0.ext hW)).mono ?_; rintro e w1 ⟨rfl, hb1⟩
    rw [HC0.out]
    have hD1 := hW.nx hb1 hW.size
    have hz1 := hb1.size
    obtain ⟨⟨r0, r1, r2⟩, rf0, rf1, rf2⟩ := (hR.nx hb1).all3
    go_wp2
    refine bodyPost_ret (v := .tuple #[.agg #[.int .i64 0, .slice none 0 0, .slice none 0 0], .bool false]) (by simp [results, Try.results53, go_sem, r0, r1, r2]) rfl ?_
    rw [HQ.out, HR.out]
    exact ⟨_, _, rfl, Own.nil _ _, Own.nil _ _, Sep.none_left _, below3 hD1 (by omega) _ _ _⟩
  have HC0 := hid c0
  cases c1 : inR d 0 ((V.shape.length : Int) - 1)
  · have HC1 := hid c1
    have HJ := hid (show okJ V d = false by
      cases h : okJ V d
      · rfl
      · obtain ⟨k, hf⟩ := join_facts h
        have h1 := hf.e
        have h2 := hf.k1
        rw [inR_yes (by omega) (by omega)] at c1; cases c1)
    have HQ := hid (show okJoin V d = false by unfold okJoin; rw [HJ.out]; rfl)
    have HR := hid (show joinL V d = VL.zero by unfold joinL; rw [HJ.out]; rfl)
    clear c0 c1
    go_enter Try.func53, Try.ntmps53
    go_wp2_with fail
    generalize (w.alloc (.cells #[.int .i64 V.base, .slice As V.shape.length cs, tv] 28)).alloc (.cells #[.int .i64 0, .slice none 0 0, .slice none 0 0] 28) = W1 at *
    refine (validView_any _ V _ (hv0.ext hW)).mono ?_; rintro e w1 ⟨rfl, hb1⟩
    rw [HC0.out]
    have hD1 := hW.nx hb1 hW.size
    have hz1 := hb1.size
    obtain ⟨⟨q0, q1, q2⟩, -⟩ := (hA.nx hb1).all3
    go_wp2_with fail
    refine (isDim_any _ V d _ (hv0.ext hD1)).mono ?_; rintro e w2 ⟨rfl, hb2⟩
    rw [HC1.out]
    have hD2 := hD1.nx hb2 hD1.size
    have hz2 := hb2.size
    clear q0 q1 q2
    obtain ⟨⟨r0, r1, r2⟩, rf0, rf1, rf2⟩ := ((hR.nx hb1).nx hb2).all3
    go_wp2
    refine bodyPost_ret (v := .tuple #[.agg #[.int .i64 0, .slice none 0 0, .slice none 0 0], .bool false]) (by simp [results, Try.results53, go_sem, r0, r1, r2]) rfl ?_
    rw [HQ.out, HR.out]
    exact ⟨_, _, rfl, Own.nil _ _, Own.nil _ _, Sep.none_left _, below3 hD2 (by omega) _ _ _⟩
  have HC1 := hid c1
  have hd := inR_iff.1 c1
  obtain ⟨k, rfl⟩ : ∃ k : Nat, d = k := ⟨d.toNat, by omega⟩
  have hkl : k < V.shape.length := by omega
  have hl4 := (isViewL_lens c0).1
  have hwr : IntKind.i64.wrap ((k : Int) + 1) = (k : Int) + 1 := IntWalk.i64_in _ (by omega)
  clear hd
  cases c2 : inR ((k : Int) + 1) 0 ((V.shape.length : Int) - 1)
  · have HC2 := hid c2
    have HJ := hid (show okJ V k = false by
      cases h : okJ V k
      · rfl
      · obtain ⟨k', hf⟩ := join_facts h
        have h1 := hf.e
        have h2 := hf.k1
        rw [inR_yes (by omega) (by omega)] at c2; cases c2)
    have HQ := hid (show okJoin V k = false by unfold okJoin; rw [HJ.out]; rfl)
    have HR := hid (show joinL V k = VL.zero by unfold joinL; rw [HJ.out]; rfl)
    clear c0 c1 c2
    go_enter Try.func53, Try.ntmps53
    go_wp2_with fail
    generalize (w.alloc (.cells #[.int .i64 V.base, .slice As V.shape.length cs, tv] 28)).alloc (.cells #[.int .i64 0, .slice none 0 0, .slice none 0 0] 28) = W1 at *
    refine (validView_any _ V _ (hv0.ext hW)).mono ?_; rintro e w1 ⟨rfl, hb1⟩
    rw [HC0.out]
    have hD1 := hW.nx hb1 hW.size
    have hz1 := hb1.size
    obtain ⟨⟨q0, q1, q2⟩, -⟩ := (hA.nx hb1).all3
    go_wp2_with fail
    refine (isDim_any _ V k _ (hv0.ext hD1)).mono ?_; rintro e w2 ⟨rfl, hb2⟩
    rw [HC1.out]
    have hD2 := hD1.nx hb2 hD1.size
    have hz2 := hb2.size
    clear q0 q1 q2
    obtain ⟨⟨q0, q1, q2⟩, -⟩ := ((hA.nx hb1).nx hb2).all3
    go_wp2_with fail
    refine (isDim_any _ V (k + 1) _ (hv0.ext hD2)).mono ?_; rintro e w3 ⟨rfl, hb3⟩
    rw [HC2.out]
    have hD3 := hD2.nx hb3 hD2.size
    have hz3 := hb3.size
    clear q0 q1 q2
    obtain ⟨⟨r0, r1, r2⟩, rf0, rf1, rf2⟩ := (((hR.nx hb1).nx hb2).nx hb3).all3
    go_wp2
    refine bodyPost_ret (v := .tuple #[.agg #[.int .i64 0, .slice none 0 0, .slice none 0 0], .bool false]) (by simp [results, Try.results53, go_sem, r0, r1, r2]) rfl ?_
    rw [HQ.out, HR.out]
    exact ⟨_, _, rfl, Own.nil _ _, Own.nil _ _, Sep.none_left _, below3 hD3 (by omega) _ _ _⟩
  have HC2 := hid c2
  have hd2 := (inR_iff.1 c2).2
  have hk1 : k + 1 < V.shape.length := by omega
  have HJ := hid (show okJ V k = true by simp [okJ, hasDimL, c0]; omega)
  have HQ := hid (show okJoin V k = okResh V (joinSh V.shape k) by unfold okJoin; rw [HJ.out]; simp)
  have HR := hid (show joinL V k = reshL V (joinSh V.shape k) by unfold joinL; rw [HJ.out]; simp)
  have hP : 0 ≤ V.shape[k] * V.shape[k + 1] ∧ V.shape[k] * V.shape[k + 1] ≤ 3600 := join_prod c0 hk1
  have HLE := hid (show (V.shape.eraseIdx k).length = V.shape.length - 1 by rw [List.length_eraseIdx]; simp [hkl])
  clear c0 c1 c2 hd2
  go_enter Try.func53, Try.ntmps53
  go_wp2_with fail
  generalize (w.alloc (.cells #[.int .i64 V.base, .slice As V.shape.length cs, tv] 28)).alloc (.cells #[.int .i64 0, .slice none 0 0, .slice none 0 0] 28) = W1 at *
  refine (validView_any _ V _ (hv0.ext hW)).mono ?_; rintro e w1 ⟨rfl, hb1⟩
  rw [HC0.out]
  have hD1 := hW.nx hb1 hW.size
  have hz1 := hb1.size
  obtain ⟨⟨q0, q1, q2⟩, -⟩ := (hA.nx hb1).all3
  go_wp2_with fail
  refine (isDim_any _ V k _ (hv0.ext hD1)).mono ?_; rintro e w2 ⟨rfl, hb2⟩
  rw [HC1.out]
  have hD2 := hD1.nx hb2 hD1.size
  have hz2 := hb2.size
  clear q0 q1 q2
  obtain ⟨⟨q0, q1, q2⟩, -⟩ := ((hA.nx hb1).nx hb2).all3
  go_wp2_with fail
  refine (isDim_any _ V (k + 1) _ (hv0.ext hD2)).mono ?_; rintro e w3 ⟨rfl, hb3⟩
  rw [HC2.out]
  have hD3 := hD2.nx hb3 hD2.size
  have hz3 := hb3.size
  clear q0 q1 q2
  have hA3 := ((hA.nx hb1).nx hb2).nx hb3
  have hR3 := ((hR.nx hb1).nx hb2).nx hb3
  obtain ⟨⟨q0, q1, q2⟩, -⟩ := id hA3.all3
  go_wp2_with fail
  refine (without_any _ V.shape k _ (hsv.ext hD3) hkl (by omega)).mono ?_; rintro e w4 ⟨rw4, rfl, ho4, hb4⟩
  clear q0 q1 q2
  obtain ⟨g, cap, rfl, hg1, hg2⟩ := ho4.row (by have := HLE.out; omega)
  have hcap : cap ≤ 9223372036854775807 := by obtain ⟨_, _, e, _, h, _⟩ := ho4.ints; simp only [Value.slice.injEq] at e; obtain ⟨-, -, rfl⟩ := e; unfold maxLen at h; omega
  have hD4 := hD3.nx hb4 hD3.size
  have hz4 := hb4.size
  have hA4 := hA3.nx hb4
  have hR4 := hR3.nx hb4
  have hke : k < (V.shape.eraseIdx k).length := by have := HLE.out; omega
  have hyf := ho4.free k
  have hyc := ho4.cell k hke
  obtain ⟨A', c', e', -, -, hr⟩ := hsv
  simp only [Value.slice.injEq, true_and] at e'
  obtain ⟨rfl, rfl⟩ := e'
  obtain ⟨b, off, rfl, hblt, hc⟩ := hr (by omega)
  have hx0 := (hD4.cell (p := ⟨b, off + k, none⟩) hblt).trans (hc k V.shape[k] (by simp [hkl]))
  have hx1 := (hD4.cell (p := ⟨b, off + (k + 1), none⟩) hblt).trans (hc (k + 1) V.shape[k + 1] (by simp [hk1]))
  clear hc hr
  obtain ⟨⟨q0, q1, q2⟩, -⟩ := id hA4.all3
  have hki : (k : Int) < (V.shape.length : Int) := by omega
  have hwm : IntKind.i64.wrap (V.shape[k] * V.shape[k + 1]) = V.shape[k] * V.shape[k + 1] := IntWalk.i64_in _ (by omega)
  have hk1n : ((k : Int) + 1).toNat = k + 1 := by omega
  have hk2 : (0 : Int) ≤ (k : Int) + 1 := by omega
  have hk3 : (k : Int) + 1 < (V.shape.length : Int) := by omega
  have hk4 : (k : Int) < ((V.shape.eraseIdx k).length : Int) := by omega
  have hO5 := (ho4.put k (V.shape[k] * V.shape[k + 1])).drew
  have hHJ := hid (show (V.shape.eraseIdx k).set k (V.shape[k] * V.shape[k + 1]) = joinSh V.shape k by simp [joinSh, hkl, hk1])
  have hB5 : Below w3.heap.size w3 (w4.setCell ⟨g, k, none⟩ (.int .i64 (V.shape[k] * V.shape[k + 1]))).drew := (hb4.setCell (p := ⟨g, k, none⟩) hg1 _).drew
  have hA5 := hA3.nx hB5
  have hR5 := hR3.nx hB5
  have hD5 := hD3.nx hB5 hD3.size
  obtain ⟨⟨x0, x1, x2⟩, -⟩ := id hA5.all3
  go_wp2_with fail
  go_still_tail 15, (by kernel_rfl)
  go_wp2_with fail
  generalize (w4.setCell ⟨g, k, none⟩ (.int .i64 (V.shape[k] * V.shape[k + 1]))).drew = w5 at *
  have hz5 := hB5.size
  refine (sReshape_any _ _ V (joinSh V.shape k) _ (hv0.ext hD5) (by rw [hHJ.out] at hO5; exact hO5.ints)).mono ?_; rintro e w6 ⟨s6, t6, rfl, ho6, hp6, hsep, hb6⟩
  obtain ⟨⟨r0, r1, r2⟩, rf0, rf1, rf2⟩ := (hR5.nx hb6).all3
  obtain ⟨A6, c6, e6⟩ := ho6.form
  obtain ⟨A7, c7, e7⟩ := hp6.form
  subst e6 e7
  have hz6 := hb6.size
  have hD6 := hD5.nx hb6 hD5.size
  clear q0 q1 q2 x0 x1 x2 hx0 hx1 hyf hyc
  go_wp2
  refine bodyPost_ret (v := .tuple #[.agg #[.int .i64 (reshL V (joinSh V.shape k)).base, .slice A6 (reshL V (joinSh V.shape k)).shape.length c6, .slice A7 (reshL V (joinSh V.shape k)).strides.length c7], .bool (okResh V (joinSh V.shape k))]) (by simp [results, Try.results53, go_sem, r0, r1, r2]) rfl ?_
  rw [HQ.out, HR.out]
  exact ⟨_, _, rfl, (own3b ho6 (by omega) _ _ _).mono (by omega), (own3b hp6 (by omega) _ _ _).mono (by omega), hsep, below3 hD6 (by omega) _ _ _⟩

end Go.Proofs.Ytmglcapjccbknaa
