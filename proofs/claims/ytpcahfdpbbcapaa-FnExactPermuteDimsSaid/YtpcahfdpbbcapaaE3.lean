/- Contract: PermuteDims of the reference. No conditions. -/
import Derived.Test.YtpcahfdpbbcapaaE2
namespace Go.Proofs.Ytpcahfdpbbcapaa
open Go.RowKit

set_option maxRecDepth 100000 in
set_option maxHeartbeats 6400000 in
theorem sPermuteDims_any (v o : Value) (V : VL) (O : List Int) (w : World) (hv : ViewV w v V) (ho : Ints w o O) :
    Calls Try.prog 47 #[v, o] w (RetViewB w (permL V O) (permB V O)) := by
  have hv0 := hv
  have ho0 := ho
  obtain ⟨sv, tv, rfl, hsv, htv⟩ := hv
  obtain ⟨As, cs, es, -, hcs, -⟩ := id hsv
  subst es
  unfold maxLen at hcs
  have hA := (Blk.new w 36 #[.int .i64 V.base, .slice As V.shape.length cs, tv]).alloc (.cells #[.int .i64 0, .slice none 0 0, .slice none 0 0] 36)
  have hR := Blk.new (w.alloc (.cells #[.int .i64 V.base, .slice As V.shape.length cs, tv] 36)) 36 #[.int .i64 0, .slice none 0 0, .slice none 0 0]
  have hW : Below w.heap.size w ((w.alloc (.cells #[.int .i64 V.base, .slice As V.shape.length cs, tv] 36)).alloc (.cells #[.int .i64 0, .slice none 0 0, .slice none 0 0] 36)) := ((Below.refl _ _).alloc (Nat.le_refl _) _).alloc (by simp) _
  simp only [World.size_alloc] at hR
  have hn0 := hA.lt
  have hn1 := hR.lt
  cases c0 : isViewL V
  · have HC0 := hid c0
    have HQ := hid (show permL V O = VL.zero ∧ permB V O = false by simp [permL, permB, c0])
    clear c0
    go_enter Try.func47, Try.ntmps47
    go_wp2_with fail
    generalize (w.alloc (.cells #[.int .i64 V.base, .slice As V.shape.length cs, tv] 36)).alloc (.cells #[.int .i64 0, .slice none 0 0, .slice none 0 0] 36) = W1 at *
    refine (validView_any _ V _ (hv0.ext hW)).mono ?_; rintro e w1 ⟨rfl, hb1⟩
    rw [HC0.out]
    have hD1 := hW.nx hb1 hW.size
    have hz1 := hb1.size
    obtain ⟨⟨r0, r1, r2⟩, rf0, rf1, rf2⟩ := (hR.nx hb1).all3
    go_wp2
    refine bodyPost_ret (v := .tuple #[.agg #[.int .i64 0, .slice none 0 0, .slice none 0 0], .bool false]) (by simp [results, Try.results47, go_sem, r0, r1, r2]) rfl ?_
    rw [HQ.out.1, HQ.out.2]
    exact ⟨_, _, rfl, Own.nil _ _, Own.nil _ _, Sep.none_left _, below3 hD1 (by omega) _ _ _⟩
  have hl4 := (isViewL_lens c0).1
  have HC0 := hid c0
  have HTL := hid (isViewL_and c0).2.1
  cases c1 : orderL O V.shape.length
  · have HC1 := hid c1
    have HQ := hid (show permL V O = VL.zero ∧ permB V O = false by simp [permL, permB, c0, c1])
    clear c0 c1
    go_enter Try.func47, Try.ntmps47
    go_wp2_with fail
    generalize (w.alloc (.cells #[.int .i64 V.base, .slice As V.shape.length cs, tv] 36)).alloc (.cells #[.int .i64 0, .slice none 0 0, .slice none 0 0] 36) = W1 at *
    refine (validView_any _ V _ (hv0.ext hW)).mono ?_; rintro e w1 ⟨rfl, hb1⟩
    rw [HC0.out]
    have hD1 := hW.nx hb1 hW.size
    have hz1 := hb1.size
    obtain ⟨⟨q0, q1, q2⟩, -⟩ := (hA.nx hb1).all3
    go_wp2_with fail
    refine (validOrder_any _ O V.shape.length _ (ho0.ext hD1) hl4).mono ?_; rintro e w2 ⟨rfl, hb2⟩
    rw [HC1.out]
    have hD2 := hD1.nx hb2 hD1.size
    have hz2 := hb2.size
    obtain ⟨⟨r0, r1, r2⟩, rf0, rf1, rf2⟩ := ((hR.nx hb1).nx hb2).all3
    go_wp2
    refine bodyPost_ret (v := .tuple #[.agg #[.int .i64 0, .slice none 0 0, .slice none 0 0], .bool false]) (by simp [results, Try.results47, go_sem, r0, r1, r2]) rfl ?_
    rw [HQ.out.1, HQ.out.2]
    exact ⟨_, _, rfl, Own.nil _ _, Own.nil _ _, Sep.none_left _, below3 hD2 (by omega) _ _ _⟩
  · have HC1 := hid c1
    have HQ := hid (show permL V O = madeL (permV V O) ∧ permB V O = isViewL (permV V O) by simp [permL, permB, madeL, c0, c1, permV_valid c0 c1])
    have HALL := hid (show ∀ x ∈ O, 0 ≤ x ∧ x < V.shape.length by
      simp only [orderL, Bool.and_eq_true, decide_eq_true_eq, List.all_eq_true, inR_iff] at c1
      intro x hx
      have := c1.1.2 x hx
      omega)
    have HO4 := hid (show O.length ≤ 4 by
      simp only [orderL, Bool.and_eq_true, decide_eq_true_eq] at c1
      omega)
    clear c0 c1
    go_enter Try.func47, Try.ntmps47
    go_wp2_with fail
    generalize (w.alloc (.cells #[.int .i64 V.base, .slice As V.shape.length cs, tv] 36)).alloc (.cells #[.int .i64 0, .slice none 0 0, .slice none 0 0] 36) = W1 at *
    refine (validView_any _ V _ (hv0.ext hW)).mono ?_; rintro e w1 ⟨rfl, hb1⟩
    rw [HC0.out]
    have hD1 := hW.nx hb1 hW.size
    have hz1 := hb1.size
    obtain ⟨⟨q0, q1, q2⟩, -⟩ := (hA.nx hb1).all3
    go_wp2_with fail
    refine (validOrder_any _ O V.shape.length _ (ho0.ext hD1) hl4).mono ?_; rintro e w2 ⟨rfl, hb2⟩
    rw [HC1.out]
    have hD2 := hD1.nx hb2 hD1.size
    have hz2 := hb2.size
    obtain ⟨⟨qq0, qq1, qq2⟩, -⟩ := ((hA.nx hb1).nx hb2).all3
    go_wp2_with fail
    refine (permuted_any _ _ V O _ (hv0.ext hD2) (ho0.ext hD2) HALL.out HTL.out HO4.out).mono ?_; rintro e w3 ⟨s3, t3, rfl, ho3, ho4, hsep3, hb3⟩
    have hD3 := hD2.nx hb3 hD2.size
    have hz3 := hb3.size
    go_wp2_with fail
    refine (made_any _ (permV V O) _ (Own.view ho3 ho4)).mono ?_; rintro e w4 ⟨s4, t4, rfl, ho5, ho6, hsep, hb4⟩
    have hD4 := hD3.nx hb4 hD3.size
    have hz4 := hb4.size
    obtain ⟨⟨r0, r1, r2⟩, rf0, rf1, rf2⟩ := ((((hR.nx hb1).nx hb2).nx hb3).nx hb4).all3
    obtain ⟨A3, c3, e3⟩ := ho5.form
    obtain ⟨A4, c4, e4⟩ := ho6.form
    subst e3 e4
    have ho5 := ho5.mono (B' := w.heap.size + 2) (by omega)
    have ho6 := ho6.mono (B' := w.heap.size + 2) (by omega)
    go_wp2
    refine bodyPost_ret (v := .tuple #[.agg #[.int .i64 (madeL (permV V O)).base, .slice A3 (madeL (permV V O)).shape.length c3, .slice A4 (madeL (permV V O)).strides.length c4], .bool (isViewL (permV V O))]) (by simp [results, Try.results47, go_sem, r0, r1, r2]) rfl ?_
    rw [HQ.out.1, HQ.out.2]
    exact ⟨_, _, rfl, (own3b ho5 (by omega) _ _ _).mono (by omega), (own3b ho6 (by omega) _ _ _).mono (by omega), hsep, below3 hD4 (by omega) _ _ _⟩

end Go.Proofs.Ytpcahfdpbbcapaa
