/- Contracts: Reshape, both. No conditions. -/
import Derived.Test.YtmglcapjccbknaaK15
import Derived.Outline
namespace Go.Proofs.Ytmglcapjccbknaa
open Go.RowKit

theorem reshL_eq {V : VL} {shape : List Int} (h1 : isViewL V = true) (h2 : isShapeL shape = true) : okResh V shape = okReL V shape ∧ reshL V shape = reGood V shape := by
  have e : okResh V shape = okReL V shape := by simp [okResh, h1, h2]
  exact ⟨e, by unfold reshL reGood; rw [e]⟩
theorem reV_shape (V : VL) (shape : List Int) : (reV V shape).shape = shape ∧ (reV V shape).strides.length = shape.length := by
  unfold reV; split <;> simp [zerosL_length, reS_length]
theorem reshL_len (V : VL) (shape : List Int) : (reshL V shape).shape.length ≤ 60 ∧ (reshL V shape).strides.length ≤ 60 := by
  unfold reshL
  split
  · rename_i h
    simp only [okResh, Bool.and_eq_true] at h
    have := (shape_ext h.1.2).1
    have := reV_shape V shape
    rw [this.1]
    omega
  · simp [VL.zero]

set_option maxRecDepth 100000 in
set_option maxHeartbeats 800000 in
theorem Reshape_any (v sh : Value) (V : VL) (shape : List Int) (w : World) (hv : ViewV w v V) (hs : Ints w sh shape) :
    Calls Try.prog 51 #[v, sh] w (RetViewB w (reshL V shape) (okResh V shape)) := by
  have hv0 := hv
  have hs0 := hs
  obtain ⟨sv, tv, rfl, hsv, htv⟩ := hv
  have hA := (Blk.new w 28 #[.int .i64 V.base, sv, tv]).alloc (.cells #[.int .i64 0, .slice none 0 0, .slice none 0 0] 28)
  have hR := Blk.new (w.alloc (.cells #[.int .i64 V.base, sv, tv] 28)) 28 #[.int .i64 0, .slice none 0 0, .slice none 0 0]
  have hW : Below w.heap.size w ((w.alloc (.cells #[.int .i64 V.base, sv, tv] 28)).alloc (.cells #[.int .i64 0, .slice none 0 0, .slice none 0 0] 28)) := ((Below.refl _ _).alloc (Nat.le_refl _) _).alloc (by simp) _
  simp only [World.size_alloc] at hR
  have hn0 := hA.lt
  have hn1 := hR.lt
  cases c1 : isViewL V
  · have HQ := hid (show okResh V shape = false by simp [okResh, c1])
    have HR := hid (show reshL V shape = VL.zero by unfold reshL; rw [HQ.out]; rfl)
    have HC1 := hid c1
    clear c1
    go_enter Try.func51, Try.ntmps51
    go_wp2_with fail
    generalize (w.alloc (.cells #[.int .i64 V.base, sv, tv] 28)).alloc (.cells #[.int .i64 0, .slice none 0 0, .slice none 0 0] 28) = W1 at *
    refine (isView_any _ V _ (hv0.ext hW)).mono ?_; rintro e w1 ⟨rfl, hb1⟩
    rw [HC1.out]
    obtain ⟨⟨r0, r1, r2⟩, rf0, rf1, rf2⟩ := (hR.nx hb1).all3
    have hD := hW.nx hb1 hW.size
    go_wp2
    refine bodyPost_ret (v := .tuple #[.agg #[.int .i64 0, .slice none 0 0, .slice none 0 0], .bool false]) (by simp [results, Try.results51, go_sem, r0, r1, r2]) rfl ?_
    rw [HQ.out, HR.out]
    exact ⟨_, _, rfl, Own.nil _ _, Own.nil _ _, Sep.none_left _, below3 hD (by omega) _ _ _⟩
  · have HC1 := hid c1
    cases c2 : isShapeL shape
    · have HQ := hid (show okResh V shape = false by simp [okResh, c2])
      have HR := hid (show reshL V shape = VL.zero by unfold reshL; rw [HQ.out]; rfl)
      have HC2 := hid c2
      clear c1 c2
      go_enter Try.func51, Try.ntmps51
      go_wp2_with fail
      generalize (w.alloc (.cells #[.int .i64 V.base, sv, tv] 28)).alloc (.cells #[.int .i64 0, .slice none 0 0, .slice none 0 0] 28) = W1 at *
      refine (isView_any _ V _ (hv0.ext hW)).mono ?_; rintro e w1 ⟨rfl, hb1⟩
      rw [HC1.out]
      have hD := hW.nx hb1 hW.size
      go_wp2_with fail
      refine (isShape_any _ shape _ (hs0.ext hD)).mono ?_; rintro e w' ⟨rfl, rfl⟩
      rw [HC2.out]
      obtain ⟨⟨r0, r1, r2⟩, rf0, rf1, rf2⟩ := (hR.nx hb1).all3
      go_wp2
      refine bodyPost_ret (v := .tuple #[.agg #[.int .i64 0, .slice none 0 0, .slice none 0 0], .bool false]) (by simp [results, Try.results51, go_sem, r0, r1, r2]) rfl ?_
      rw [HQ.out, HR.out]
      exact ⟨_, _, rfl, Own.nil _ _, Own.nil _ _, Sep.none_left _, below3 hD (by omega) _ _ _⟩
    · have HQ := hid (reshL_eq c1 c2)
      have HC2 := hid c2
      clear c1 c2
      go_enter Try.func51, Try.ntmps51
      go_wp2_with fail
      generalize (w.alloc (.cells #[.int .i64 V.base, sv, tv] 28)).alloc (.cells #[.int .i64 0, .slice none 0 0, .slice none 0 0] 28) = W1 at *
      refine (isView_any _ V _ (hv0.ext hW)).mono ?_; rintro e w1 ⟨rfl, hb1⟩
      rw [HC1.out]
      have hD := hW.nx hb1 hW.size
      go_wp2_with fail
      refine (isShape_any _ shape _ (hs0.ext hD)).mono ?_; rintro e w' ⟨rfl, rfl⟩
      rw [HC2.out]
      obtain ⟨⟨q0, q1, q2⟩, -⟩ := (hA.nx hb1).all3
      go_wp2_with fail
      refine (reshape_any _ _ V shape _ (hv0.ext hD) (hs0.ext hD) HC1.out HC2.out).mono ?_; rintro e w2 ⟨s2, t2, rfl, ho1, ho2, hsep, hb2⟩
      obtain ⟨A1, c1, e1⟩ := ho1.form
      obtain ⟨A2, c2, e2⟩ := ho2.form
      subst e1 e2
      have hz1 := hb1.size
      have hz2 := hb2.size
      have hD2 := hD.nx hb2 hD.size
      clear q0 q1 q2
      obtain ⟨⟨r0, r1, r2⟩, rf0, rf1, rf2⟩ := ((hR.nx hb1).nx hb2).all3
      go_wp2
      refine bodyPost_ret (v := .tuple #[.agg #[.int .i64 (reGood V shape).base, .slice A1 (reGood V shape).shape.length c1, .slice A2 (reGood V shape).strides.length c2], .bool (okReL V shape)]) (by simp [results, Try.results51, go_sem, r0, r1, r2]) rfl ?_
      rw [HQ.out.1, HQ.out.2]
      exact ⟨_, _, rfl, (own3b ho1 (by omega) _ _ _).mono (by omega), (own3b ho2 (by omega) _ _ _).mono (by omega), hsep, below3 hD2 (by omega) _ _ _⟩

set_option maxRecDepth 100000 in
set_option maxHeartbeats 800000 in
theorem sReshape_any (v sh : Value) (V : VL) (shape : List Int) (w : World) (hv : ViewV w v V) (hs : Ints w sh shape) :
    Calls Try.prog 50 #[v, sh] w (RetViewB w (reshL V shape) (okResh V shape)) := by
  have hv0 := hv
  have hs0 := hs
  obtain ⟨sv, tv, rfl, hsv, htv⟩ := hv
  have hA := (Blk.new w 28 #[.int .i64 V.base, sv, tv]).alloc (.cells #[.int .i64 0, .slice none 0 0, .slice none 0 0] 28)
  have hR := Blk.new (w.alloc (.cells #[.int .i64 V.base, sv, tv] 28)) 28 #[.int .i64 0, .slice none 0 0, .slice none 0 0]
  have hW : Below w.heap.size w ((w.alloc (.cells #[.int .i64 V.base, sv, tv] 28)).alloc (.cells #[.int .i64 0, .slice none 0 0, .slice none 0 0] 28)) := ((Below.refl _ _).alloc (Nat.le_refl _) _).alloc (by simp) _
  simp only [World.size_alloc] at hR
  have hn0 := hA.lt
  have hn1 := hR.lt
  cases c1 : isViewL V
  · have HQ := hid (show okResh V shape = false by simp [okResh, c1])
    have HR := hid (show reshL V shape = VL.zero by unfold reshL; rw [HQ.out]; rfl)
    have HC1 := hid c1
    clear c1
    go_enter Try.func50, Try.ntmps50
    go_wp2_with fail
    generalize (w.alloc (.cells #[.int .i64 V.base, sv, tv] 28)).alloc (.cells #[.int .i64 0, .slice none 0 0, .slice none 0 0] 28) = W1 at *
    refine (validView_any _ V _ (hv0.ext hW)).mono ?_; rintro e w1 ⟨rfl, hb1⟩
    rw [HC1.out]
    obtain ⟨⟨r0, r1, r2⟩, rf0, rf1, rf2⟩ := (hR.nx hb1).all3
    have hD := hW.nx hb1 hW.size
    go_wp2
    refine bodyPost_ret (v := .tuple #[.agg #[.int .i64 0, .slice none 0 0, .slice none 0 0], .bool false]) (by simp [results, Try.results50, go_sem, r0, r1, r2]) rfl ?_
    rw [HQ.out, HR.out]
    exact ⟨_, _, rfl, Own.nil _ _, Own.nil _ _, Sep.none_left _, below3 hD (by omega) _ _ _⟩
  · have HC1 := hid c1
    cases c2 : isShapeL shape
    · have HQ := hid (show okResh V shape = false by simp [okResh, c2])
      have HR := hid (show reshL V shape = VL.zero by unfold reshL; rw [HQ.out]; rfl)
      have HC2 := hid c2
      clear c1 c2
      go_enter Try.func50, Try.ntmps50
      go_wp2_with fail
      generalize (w.alloc (.cells #[.int .i64 V.base, sv, tv] 28)).alloc (.cells #[.int .i64 0, .slice none 0 0, .slice none 0 0] 28) = W1 at *
      refine (validView_any _ V _ (hv0.ext hW)).mono ?_; rintro e w1 ⟨rfl, hb1⟩
      rw [HC1.out]
      have hD := hW.nx hb1 hW.size
      go_wp2_with fail
      refine (validShape_any _ shape _ (hs0.ext hD)).mono ?_; rintro e w' ⟨rfl, rfl⟩
      rw [HC2.out]
      obtain ⟨⟨r0, r1, r2⟩, rf0, rf1, rf2⟩ := (hR.nx hb1).all3
      go_wp2
      refine bodyPost_ret (v := .tuple #[.agg #[.int .i64 0, .slice none 0 0, .slice none 0 0], .bool false]) (by simp [results, Try.results50, go_sem, r0, r1, r2]) rfl ?_
      rw [HQ.out, HR.out]
      exact ⟨_, _, rfl, Own.nil _ _, Own.nil _ _, Sep.none_left _, below3 hD (by omega) _ _ _⟩
    · have HQ := hid (reshL_eq c1 c2)
      have HC2 := hid c2
      clear c1 c2
      cases c3 : okTryL V shape
      · have HX := hid (show okReL V shape = false by unfold okReL; rw [c3]; rfl)
        have HY := hid (show reGood V shape = VL.zero by unfold reGood; rw [HX.out]; rfl)
        have HC3 := hid c3
        clear c3
        go_enter Try.func50, Try.ntmps50
        go_wp2_with fail
        generalize (w.alloc (.cells #[.int .i64 V.base, sv, tv] 28)).alloc (.cells #[.int .i64 0, .slice none 0 0, .slice none 0 0] 28) = W1 at *
        refine (validView_any _ V _ (hv0.ext hW)).mono ?_; rintro e w1 ⟨rfl, hb1⟩
        rw [HC1.out]
        have hD := hW.nx hb1 hW.size
        go_wp2_with fail
        refine (validShape_any _ shape _ (hs0.ext hD)).mono ?_; rintro e w' ⟨rfl, rfl⟩
        rw [HC2.out]
        obtain ⟨⟨q0, q1, q2⟩, -⟩ := (hA.nx hb1).all3
        go_wp2_with fail
        refine (reshaped_any _ _ V shape _ (hv0.ext hD) (hs0.ext hD) HC1.out HC2.out).mono ?_; rintro e w2 ⟨U, s2, t2, rfl, ho1, ho2, -, hb2⟩
        rw [HC3.out]
        obtain ⟨A1, c1, e1⟩ := ho1.form
        obtain ⟨A2, c2, e2⟩ := ho2.form
        subst e1 e2
        have hz1 := hb1.size
        have hz2 := hb2.size
        have hD2 := hD.nx hb2 hD.size
        clear q0 q1 q2
        obtain ⟨⟨r0, r1, r2⟩, rf0, rf1, rf2⟩ := (((hR.nx hb1).nx hb2).alloc (.cells #[.int .i64 U.base, .slice A1 U.shape.length c1, .slice A2 U.strides.length c2] 28)).all3
        have hD3 := hD2.nx (below_alloc w2 (.cells #[.int .i64 U.base, .slice A1 U.shape.length c1, .slice A2 U.strides.length c2] 28)) hD2.size
        go_wp2
        refine bodyPost_ret (v := .tuple #[.agg #[.int .i64 0, .slice none 0 0, .slice none 0 0], .bool false]) (by simp [results, Try.results50, go_sem, r0, r1, r2]) rfl ?_
        rw [HQ.out.1, HQ.out.2, HX.out, HY.out]
        exact ⟨_, _, rfl, Own.nil _ _, Own.nil _ _, Sep.none_left _, below3 hD3 (by omega) _ _ _⟩
      · have HX := hid (show okReL V shape = isViewL (reV V shape) by unfold okReL; rw [c3]; simp)
        have HY := hid (show reGood V shape = madeL (reV V shape) by unfold reGood madeL; rw [HX.out])
        have HC3 := hid c3
        clear c3
        go_enter Try.func50, Try.ntmps50
        go_wp2_with fail
        generalize (w.alloc (.cells #[.int .i64 V.base, sv, tv] 28)).alloc (.cells #[.int .i64 0, .slice none 0 0, .slice none 0 0] 28) = W1 at *
        refine (validView_any _ V _ (hv0.ext hW)).mono ?_; rintro e w1 ⟨rfl, hb1⟩
        rw [HC1.out]
        have hD := hW.nx hb1 hW.size
        go_wp2_with fail
        refine (validShape_any _ shape _ (hs0.ext hD)).mono ?_; rintro e w' ⟨rfl, rfl⟩
        rw [HC2.out]
        obtain ⟨⟨q0, q1, q2⟩, -⟩ := (hA.nx hb1).all3
        go_wp2_with fail
        refine (reshaped_any _ _ V shape _ (hv0.ext hD) (hs0.ext hD) HC1.out HC2.out).mono ?_; rintro e w2 ⟨U, s2, t2, rfl, ho1, ho2, hU, hb2⟩
        rw [HC3.out]
        have hU1 := hU HC3.out
        subst hU1
        obtain ⟨A1, c1, e1⟩ := ho1.form
        obtain ⟨A2, c2, e2⟩ := ho2.form
        subst e1 e2
        have hz1 := hb1.size
        have hz2 := hb2.size
        have hD2 := hD.nx hb2 hD.size
        clear q0 q1 q2 hU
        have hD3 := hD2.nx (below_alloc w2 (.cells #[.int .i64 (reV V shape).base, .slice A1 (reV V shape).shape.length c1, .slice A2 (reV V shape).strides.length c2] 28)) hD2.size
        have hz3 := hD3.size
        go_wp2_with fail
        refine (made_any _ (reV V shape) _ (Own.view (ho1.alloc _) (ho2.alloc _))).mono ?_; rintro e w3 ⟨s3, t3, rfl, ho3, ho4, hsep, hb3⟩
        obtain ⟨A3, c3, e3⟩ := ho3.form
        obtain ⟨A4, c4, e4⟩ := ho4.form
        subst e3 e4
        have hD4 := hD3.nx hb3 hz3
        obtain ⟨⟨r0, r1, r2⟩, rf0, rf1, rf2⟩ := ((((hR.nx hb1).nx hb2).alloc (.cells #[.int .i64 (reV V shape).base, .slice A1 (reV V shape).shape.length c1, .slice A2 (reV V shape).strides.length c2] 28)).nx hb3).all3
        have ho3 := ho3.mono (B' := w.heap.size + 2) (by simp; omega)
        have ho4 := ho4.mono (B' := w.heap.size + 2) (by simp; omega)
        go_wp2
        refine bodyPost_ret (v := .tuple #[.agg #[.int .i64 (madeL (reV V shape)).base, .slice A3 (madeL (reV V shape)).shape.length c3, .slice A4 (madeL (reV V shape)).strides.length c4], .bool (isViewL (reV V shape))]) (by simp [results, Try.results50, go_sem, r0, r1, r2]) rfl ?_
        rw [HQ.out.1, HQ.out.2, HX.out, HY.out]
        exact ⟨_, _, rfl, (own3b ho3 (by omega) _ _ _).mono (by omega), (own3b ho4 (by omega) _ _ _).mono (by omega), hsep, below3 hD4 (by omega) _ _ _⟩

end Go.Proofs.Ytmglcapjccbknaa
