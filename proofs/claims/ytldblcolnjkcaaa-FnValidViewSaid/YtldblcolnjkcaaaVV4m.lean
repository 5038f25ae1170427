/- Z1v8, E3v8, C10a, NV1, NV2, KR, HR, VV0, VV1, VV2, C5a, VV4 in one text. No conditions. (printed by merge.py) -/
import Derived.Test.YtldblcolnjkcaaaVVb
import Derived.Test.YtldblcolnjkcaaaY8
import Derived.Test.YtldblcolnjkcaaaD2v8
import Derived.Outline
import Derived.Test.YtldblcolnjkcaaaV1
import Derived.Test.YtldblcolnjkcaaaD1
import Derived.Test.YtldblcolnjkcaaaS1
import Derived.Deep.Cut
import Derived.Test.YtldblcolnjkcaaaT0
import Derived.Test.YtldblcolnjkcaaaC4
import Derived.Test.YtldblcolnjkcaaaHp
import Derived.Test.YtldblcolnjkcaaaDD
import Derived.Test.YtldblcolnjkcaaaH2v8
import Derived.Test.YtldblcolnjkcaaaGs
import Derived.Deep.DeepCutAuto
import Derived.Deep.CutBlock
import Derived.Deep.LoopGhost
import Derived.Test.YtldblcolnjkcaaaS2
import Derived.Test.YtldblcolnjkcaaaRDw

/-! ## Z1v8 -/
namespace Go.Proofs.Ytldblcolnjkcaaa
open Go.RowKit

def flipS : SL := ⟨0, 0, -1, false, false⟩
set_option maxRecDepth 100000 in
set_option maxHeartbeats 6400000 in
theorem sFlipDim_any (v : Value) (V : VL) (d : Int) (w : World) (hv : ViewV w v V) (wd : -9223372036854775808 ≤ d ∧ d ≤ 9223372036854775807) :
    Calls Try.prog 170 #[v, .int .i64 d] w (RetViewB w (sliceL V d flipS) (okCut V d flipS)) := by
  have hv0 := hv
  obtain ⟨sv, tv, rfl, hsv, htv⟩ := hv
  obtain ⟨As, cs, es, -, hcs, -⟩ := id hsv
  subst es
  obtain ⟨At, ct, et, -, hct, -⟩ := id htv
  subst et
  unfold maxLen at hcs hct
  have hA := (Blk.new w 43 #[.int .i64 V.base, .slice As V.shape.length cs, .slice At V.strides.length ct]).alloc (.cells #[.int .i64 0, .slice none 0 0, .slice none 0 0] 43)
  have hR := Blk.new (w.alloc (.cells #[.int .i64 V.base, .slice As V.shape.length cs, .slice At V.strides.length ct] 43)) 43 #[.int .i64 0, .slice none 0 0, .slice none 0 0]
  simp only [World.size_alloc] at hR
  have hW : Below w.heap.size w ((w.alloc (.cells #[.int .i64 V.base, .slice As V.shape.length cs, .slice At V.strides.length ct] 43)).alloc (.cells #[.int .i64 0, .slice none 0 0, .slice none 0 0] 43)) := ((Below.refl _ _).alloc (Nat.le_refl _) _).alloc (by simp <;> omega) _
  have hnA := hA.lt
  have hnR := hR.lt
  generalize hW1 : ((w.alloc (.cells #[.int .i64 V.base, .slice As V.shape.length cs, .slice At V.strides.length ct] 43)).alloc (.cells #[.int .i64 0, .slice none 0 0, .slice none 0 0] 43)) = W1 at *
  have HZ1 := hid (show W1.heap.size = w.heap.size + 2 by rw [← hW1]; simp)
  have HW1 := hid hW1
  clear hW1
  have HS : Hid (SliceV w (.agg #[.int .i64 0, .int .i64 0, .int .i64 (-1), .bool false, .bool false]) flipS) := hid ⟨rfl, by simp [SL.ok, flipS, inI64]⟩
  go_enter Try.func170, Try.ntmps170
  go_wp2_with fail
  rw [HW1.out]
  clear HW1
  have H0 := Hp.start W1
  obtain ⟨⟨q1_0, q1_1, q1_2⟩, r1_0, r1_1, r1_2⟩ := ((Blk.ext hA H0.below hA.lt)).all3
  go_wp2_with fail
  refine (sSliceDim_any _ _ V d flipS _ ((hv0.ext hW).ext H0.below) wd HS.out).mono ?_; rintro e w2 ⟨s4, t4, rfl, ho, hp, hsep, hb2⟩
  clear q1_0 q1_1 q1_2 r1_0 r1_1 r1_2
  have H2 := H0.nx hb2
  generalize sliceL V d flipS = Z at *
  generalize okCut V d flipS = bz at *
  obtain ⟨A8, c8, e8⟩ := ho.form
  obtain ⟨B8, d8, f8⟩ := hp.form
  subst e8 f8
  obtain ⟨⟨q2_0, q2_1, q2_2⟩, r2_0, r2_1, r2_2⟩ := ((Blk.ext hR H2.below hR.lt)).all3
  go_wp2
  refine bodyPost_ret (v := .tuple #[.agg #[.int .i64 Z.base, .slice A8 Z.shape.length c8, .slice B8 Z.strides.length d8], .bool bz]) (by simp [results, Try.results170, go_sem, q2_0, q2_1, q2_2]) rfl ?_
  have hzz := H0.size
  exact ⟨_, _, rfl, (own3b ho (by omega) _ _ _).mono (by omega), (own3b hp (by omega) _ _ _).mono (by omega), hsep, below3 (hW.trans (H2.below.mono hW.size)) (by omega) _ _ _⟩

end Go.Proofs.Ytldblcolnjkcaaa

/-! ## E3v8 -/
namespace Go.Proofs.Ytldblcolnjkcaaa
open Go.RowKit

set_option maxRecDepth 100000 in
set_option maxHeartbeats 6400000 in
theorem sPermuteDims_any (v o : Value) (V : VL) (O : List Int) (w : World) (hv : ViewV w v V) (ho : Ints w o O) :
    Calls Try.prog 171 #[v, o] w (RetViewB w (permL V O) (permB V O)) := by
  have hv0 := hv
  have ho0 := ho
  obtain ⟨sv, tv, rfl, hsv, htv⟩ := hv
  obtain ⟨As, cs, es, -, hcs, -⟩ := id hsv
  subst es
  unfold maxLen at hcs
  have hA := (Blk.new w 43 #[.int .i64 V.base, .slice As V.shape.length cs, tv]).alloc (.cells #[.int .i64 0, .slice none 0 0, .slice none 0 0] 43)
  have hR := Blk.new (w.alloc (.cells #[.int .i64 V.base, .slice As V.shape.length cs, tv] 43)) 43 #[.int .i64 0, .slice none 0 0, .slice none 0 0]
  have hW : Below w.heap.size w ((w.alloc (.cells #[.int .i64 V.base, .slice As V.shape.length cs, tv] 43)).alloc (.cells #[.int .i64 0, .slice none 0 0, .slice none 0 0] 43)) := ((Below.refl _ _).alloc (Nat.le_refl _) _).alloc (by simp) _
  simp only [World.size_alloc] at hR
  have hn0 := hA.lt
  have hn1 := hR.lt
  cases c0 : isViewL V
  · have HC0 := hid c0
    have HQ := hid (show permL V O = VL.zero ∧ permB V O = false by simp [permL, permB, c0])
    clear c0
    go_enter Try.func171, Try.ntmps171
    go_wp2_with fail
    generalize (w.alloc (.cells #[.int .i64 V.base, .slice As V.shape.length cs, tv] 43)).alloc (.cells #[.int .i64 0, .slice none 0 0, .slice none 0 0] 43) = W1 at *
    refine (validView_any _ V _ (hv0.ext hW)).mono ?_; rintro e w1 ⟨rfl, hb1⟩
    rw [HC0.out]
    have hD1 := hW.nx hb1 hW.size
    have hz1 := hb1.size
    obtain ⟨⟨r0, r1, r2⟩, rf0, rf1, rf2⟩ := (hR.nx hb1).all3
    go_wp2
    refine bodyPost_ret (v := .tuple #[.agg #[.int .i64 0, .slice none 0 0, .slice none 0 0], .bool false]) (by simp [results, Try.results171, go_sem, r0, r1, r2]) rfl ?_
    rw [HQ.out.1, HQ.out.2]
    exact ⟨_, _, rfl, Own.nil _ _, Own.nil _ _, Sep.none_left _, below3 hD1 (by omega) _ _ _⟩
  have hl4 := (isViewL_lens c0).1
  have HC0 := hid c0
  have HTL := hid (isViewL_and c0).2.1
  cases c1 : orderL O V.shape.length
  · have HC1 := hid c1
    have HQ := hid (show permL V O = VL.zero ∧ permB V O = false by simp [permL, permB, c0, c1])
    clear c0 c1
    go_enter Try.func171, Try.ntmps171
    go_wp2_with fail
    generalize (w.alloc (.cells #[.int .i64 V.base, .slice As V.shape.length cs, tv] 43)).alloc (.cells #[.int .i64 0, .slice none 0 0, .slice none 0 0] 43) = W1 at *
    refine (validView_any _ V _ (hv0.ext hW)).mono ?_; rintro e w1 ⟨rfl, hb1⟩
    rw [HC0.out]
    have hD1 := hW.nx hb1 hW.size
    have hz1 := hb1.size
    obtain ⟨⟨q0, q1, q2⟩, -⟩ := (hA.nx hb1).all3
    go_wp2_with fail
    refine (validOrder_any _ O V.shape.length _ (ho0.ext hD1) hl4).mono ?_; rintro e w2 ⟨rfl, hb2⟩
    rw [HC1.out]
    have hD2 := hD1.nx hb2 hD1.size
    have hz2 := hb2.size
    obtain ⟨⟨r0, r1, r2⟩, rf0, rf1, rf2⟩ := ((hR.nx hb1).nx hb2).all3
    go_wp2
    refine bodyPost_ret (v := .tuple #[.agg #[.int .i64 0, .slice none 0 0, .slice none 0 0], .bool false]) (by simp [results, Try.results171, go_sem, r0, r1, r2]) rfl ?_
    rw [HQ.out.1, HQ.out.2]
    exact ⟨_, _, rfl, Own.nil _ _, Own.nil _ _, Sep.none_left _, below3 hD2 (by omega) _ _ _⟩
  · have HC1 := hid c1
    have HQ := hid (show permL V O = madeL (permV V O) ∧ permB V O = isViewL (permV V O) by simp [permL, permB, madeL, c0, c1, permV_valid c0 c1])
    have HALL := hid (show ∀ x ∈ O, 0 ≤ x ∧ x < V.shape.length by
      simp only [orderL, Bool.and_eq_true, decide_eq_true_eq, List.all_eq_true, inR_iff] at c1
      intro x hx
      have := c1.1.2 x hx
      omega)
    have HO4 := hid (show O.length ≤ 4 by
      simp only [orderL, Bool.and_eq_true, decide_eq_true_eq] at c1
      omega)
    clear c0 c1
    go_enter Try.func171, Try.ntmps171
    go_wp2_with fail
    generalize (w.alloc (.cells #[.int .i64 V.base, .slice As V.shape.length cs, tv] 43)).alloc (.cells #[.int .i64 0, .slice none 0 0, .slice none 0 0] 43) = W1 at *
    refine (validView_any _ V _ (hv0.ext hW)).mono ?_; rintro e w1 ⟨rfl, hb1⟩
    rw [HC0.out]
    have hD1 := hW.nx hb1 hW.size
    have hz1 := hb1.size
    obtain ⟨⟨q0, q1, q2⟩, -⟩ := (hA.nx hb1).all3
    go_wp2_with fail
    refine (validOrder_any _ O V.shape.length _ (ho0.ext hD1) hl4).mono ?_; rintro e w2 ⟨rfl, hb2⟩
    rw [HC1.out]
    have hD2 := hD1.nx hb2 hD1.size
    have hz2 := hb2.size
    obtain ⟨⟨qq0, qq1, qq2⟩, -⟩ := ((hA.nx hb1).nx hb2).all3
    go_wp2_with fail
    refine (permuted_any _ _ V O _ (hv0.ext hD2) (ho0.ext hD2) HALL.out HTL.out HO4.out).mono ?_; rintro e w3 ⟨s3, t3, rfl, ho3, ho4, hsep3, hb3⟩
    have hD3 := hD2.nx hb3 hD2.size
    have hz3 := hb3.size
    go_wp2_with fail
    refine (made_any _ (permV V O) _ (Own.view ho3 ho4)).mono ?_; rintro e w4 ⟨s4, t4, rfl, ho5, ho6, hsep, hb4⟩
    have hD4 := hD3.nx hb4 hD3.size
    have hz4 := hb4.size
    obtain ⟨⟨r0, r1, r2⟩, rf0, rf1, rf2⟩ := ((((hR.nx hb1).nx hb2).nx hb3).nx hb4).all3
    obtain ⟨A3, c3, e3⟩ := ho5.form
    obtain ⟨A4, c4, e4⟩ := ho6.form
    subst e3 e4
    have ho5 := ho5.mono (B' := w.heap.size + 2) (by omega)
    have ho6 := ho6.mono (B' := w.heap.size + 2) (by omega)
    go_wp2
    refine bodyPost_ret (v := .tuple #[.agg #[.int .i64 (madeL (permV V O)).base, .slice A3 (madeL (permV V O)).shape.length c3, .slice A4 (madeL (permV V O)).strides.length c4], .bool (isViewL (permV V O))]) (by simp [results, Try.results171, go_sem, r0, r1, r2]) rfl ?_
    rw [HQ.out.1, HQ.out.2]
    exact ⟨_, _, rfl, (own3b ho5 (by omega) _ _ _).mono (by omega), (own3b ho6 (by omega) _ _ _).mono (by omega), hsep, below3 hD4 (by omega) _ _ _⟩

end Go.Proofs.Ytldblcolnjkcaaa

/-! ## C10a -/
namespace Go.Proofs.Ytldblcolnjkcaaa
open Go.RowKit
theorem wrap_step {xs : List Int} (hl : xs.length ≤ 4) (h : ∀ x ∈ xs, 0 ≤ x ∧ x ≤ 60) {k : Nat} (hk : k < xs.length) : wrap64 (prodI (xs.take k) * xs[k]) = prodI (xs.take (k + 1)) := by
  have e : prodI (xs.take (k + 1)) = prodI (xs.take k) * xs[k] := by rw [take_snocI xs k hk, prodI_snoc]
  have := (prodW_eq (xs := xs.take (k + 1)) (by simp; omega) (fun x hx => h x (List.mem_of_mem_take hx))).2
  rw [← e]
  exact wrap_small (by omega) (by omega)
theorem wrap_stepR {xs : List Int} (hl : xs.length ≤ 4) (h : ∀ x ∈ xs, 0 ≤ x ∧ x ≤ 60) {k : Nat} (hk : k < xs.length) : wrap64 (prodI (xs.drop (k + 1)) * xs[k]) = prodI (xs.drop k) := by
  have e : prodI (xs.drop k) = prodI (xs.drop (k + 1)) * xs[k] := by rw [List.drop_eq_getElem_cons hk, prodI, Int.mul_comm]
  have := (prodW_eq (xs := xs.drop k) (by simp; omega) (fun x hx => h x (List.mem_of_mem_drop hx))).2
  rw [← e]
  exact wrap_small (by omega) (by omega)

/-- What the loop of the row strides keeps. -/
def RowRel (shape : List Int) (j : Nat) (ys : List Int) : Prop := ys.length = shape.length ∧ ∀ t, j ≤ t → t < shape.length → ys[t]? = (rowS shape)[t]?
theorem RowRel.start (shape : List Int) : RowRel shape shape.length (List.replicate shape.length 0) := ⟨by simp, fun t h1 h2 => by omega⟩
theorem RowRel.step {shape ys : List Int} {m : Nat} (h : RowRel shape (m + 1) ys) (hm : m < shape.length) : RowRel shape m (ys.set m (prodI (shape.drop (m + 1)))) := by
  obtain ⟨h1, h2⟩ := h
  refine ⟨by simpa using h1, fun t ht htl => ?_⟩
  by_cases e : t = m
  · subst e
    rw [List.getElem?_set_self (by omega), List.getElem?_eq_getElem (by rw [rowS_length]; exact hm), rowS_get shape t hm]
  · rw [List.getElem?_set_ne (by omega)]
    exact h2 t (by omega) htl
theorem RowRel.end_ {shape ys : List Int} (h : RowRel shape 0 ys) : ys = rowS shape := by
  obtain ⟨h1, h2⟩ := h
  apply List.ext_getElem?
  intro t
  by_cases ht : t < shape.length
  · exact h2 t (Nat.zero_le _) ht
  · rw [List.getElem?_eq_none (by omega), List.getElem?_eq_none (by rw [rowS_length]; omega)]

set_option maxHeartbeats 400000 in
theorem srowStrides_any (v : Value) (shape : List Int) (w : World) (h : Ints w v shape) (hok : isShapeL shape = true) :
    Calls Try.prog 112 #[v] w (RetOwn w (rowS shape)) := by
  obtain ⟨hs1, hs2, hs3⟩ := shape_ext hok
  have HX := hid hs2; clear hs2 hok
  have HW := hid (fun k hk => wrap_stepR hs1 HX.out (k := k) hk)
  obtain ⟨A, c, rfl, h1, h2, h3⟩ := h
  unfold maxLen at h2
  go_enter Try.func112, Try.ntmps112
  go_wp2_with (at_make; refine mk0 _ rfl _ _ rfl shape.length rfl rfl (by omega) ?_)
  intro w0 hown0 hb0
  go_wp2
  go_loopw [4, 5] (fun n i wr => ∃ (j : Nat) (ys : List Int), j ≤ shape.length ∧ i = .int .i64 ((j : Int) - 1) ∧ n = .int .i64 (prodI (shape.drop j)) ∧ RowRel shape j ys ∧
      Own wr w.heap.size (.slice (some ⟨w.heap.size, 0, none⟩) shape.length shape.length) ys ∧ Below w.heap.size w wr) (fun _ i _ => (intOf i + 1).toNat)
  case atStart => exact ⟨shape.length, _, Nat.le_refl _, rfl, by simp [prodI], RowRel.start shape, hown0, hb0⟩
  case round =>
    obtain ⟨j, ys, hj, rfl, rfl, hrl, hown, hb⟩ := hrel
    rcases Nat.eq_zero_or_pos j with h0 | h0
    · subst h0
      have HE := hid hrl.end_
      clear hrl
      go_wp2
      go_ret
      exact ⟨_, rfl, by rw [← HE.out]; exact hown, hb⟩
    · obtain ⟨m, rfl⟩ : ∃ m, j = m + 1 := ⟨j - 1, by omega⟩
      have hm : m < shape.length := by omega
      have hyk : m < ys.length := by rw [hrl.1]; exact hm
      have HR := hid (hrl.step hm)
      obtain ⟨b, off, rfl, hltb, hc⟩ := h3 (by omega)
      have hx := (hb.cell (p := ⟨b, off + m, none⟩) hltb).trans (hc m shape[m] (by simp [hm]))
      have hy := hown.cell m hyk
      have hf := hown.free m
      have hne : b ≠ w.heap.size := by omega
      have HS := hid (HW.out m hm)
      have HO := hid (hown.put m (prodI (shape.drop (m + 1))))
      have HB := hid (hb.setCell (p := ⟨w.heap.size, m, none⟩) (Nat.le_refl _) (.int .i64 (prodI (shape.drop (m + 1)))))
      clear hc h3 hown hb hrl
      go_wp2
      go_roundw
      case rel => exact ⟨m, _, by omega, rfl, by rw [HS.out], HR.out, HO.out, HB.out⟩
      case measure => simp [intOf]

end Go.Proofs.Ytldblcolnjkcaaa

/-! ## NV1 -/
namespace Go.Proofs.Ytldblcolnjkcaaa
open Go.RowKit

/-- A view in its box, and the function's own memory, handed back. -/
theorem store_view {w w' : World} {B : Nat} {sv tv : Value} {V : VL} (hB : w.heap.size < B) (hs : Own w' B sv V.shape) (ht : Own w' B tv V.strides) (hsep : Sep sv tv) (hb : Below w.heap.size w w') (a b c : Value) :
    RetView w V (.returned (.agg #[.int .i64 V.base, sv, tv])) (((w'.setCell ⟨w.heap.size, 0, none⟩ a).setCell ⟨w.heap.size, 1, none⟩ b).setCell ⟨w.heap.size, 2, none⟩ c) :=
  ⟨sv, tv, rfl, ((own3b hs hB a b c).mono (by omega)), ((own3b ht hB a b c).mono (by omega)), hsep, below3 hb (Nat.le_refl _) a b c⟩

set_option maxRecDepth 100000 in
set_option maxHeartbeats 6400000 in
theorem NewView_any (v : Value) (s : List Int) (w : World) (h : Ints w v s) :
    Calls Try.prog 30 #[v] w (RetView w (newL s)) := by
  obtain ⟨A, c, e⟩ := h.form
  subst e
  have hb0 := below_alloc w (.cells #[.int .i64 0, .slice none 0 0, .slice none 0 0] 43)
  have hZ := Blk.new w 43 #[.int .i64 0, .slice none 0 0, .slice none 0 0]
  have h1 := h.nx hb0
  have hz0 : w.heap.size + 1 ≤ (w.alloc (.cells #[.int .i64 0, .slice none 0 0, .slice none 0 0] 43)).heap.size := by simp
  cases hs : isShapeL s
  · have HS := hid hs
    have HQ := hid (show newL s = VL.zero by simp [newL, hs])
    clear hs
    go_enter Try.func30, Try.ntmps30
    go_wp2_with fail
    generalize (w.alloc (.cells #[.int .i64 0, .slice none 0 0, .slice none 0 0] 43)) = w0 at *
    refine (isShape_any _ s _ h1).mono ?_; rintro e w' ⟨rfl, rfl⟩
    rw [HS.out]
    obtain ⟨⟨q0, q1, q2⟩, qf0, qf1, qf2⟩ := id hZ.all3
    obtain ⟨⟨t0, t1, t2⟩, -⟩ := (hZ.store3 (.int .i64 0) (.slice none 0 0) (.slice none 0 0)).all3
    go_wp2
    refine bodyPost_ret (v := .agg #[.int .i64 0, .slice none 0 0, .slice none 0 0]) (by simp [results, Try.results30, go_sem, t0, t1, t2]) rfl ?_
    rw [HQ.out]
    exact store_view (V := VL.zero) (B := w.heap.size + 1) (by omega) (Own.nil _ _) (Own.nil _ _) (Sep.none_left _) hb0 _ _ _
  · have HS := hid hs
    have HQ := hid (show newL s = tidyL ⟨0, s, rowS s⟩ by simp [newL, hs])
    have hsl := (shape_ext hs).1
    clear hs
    go_enter Try.func30, Try.ntmps30
    go_wp2_with fail
    generalize (w.alloc (.cells #[.int .i64 0, .slice none 0 0, .slice none 0 0] 43)) = w0 at *
    refine (isShape_any _ s _ h1).mono ?_; rintro e w' ⟨rfl, rfl⟩
    rw [HS.out]
    have hx := h1.nx (below_alloc w0 (.cells #[] 3))
    have ho := Own.empty w0 (B := w0.heap.size) rfl (Nat.le_refl _)
    have hz : ([] : List Int).length + s.length ≤ 1000000000000 := by simp; omega
    go_wp2_with (at_builtin; refine appI _ rfl _ _ rfl w0.heap.size _ [] rfl ho _ _ _ s rfl hx hz (by simp) ?_)
    intro v1 w2 ho2' hg hat
    have hb2 : Below w0.heap.size w0 w2 := (below_alloc w0 _).trans (ho.under hg (by simp))
    have ho2 : Own w2 w0.heap.size v1 s := by simpa using ho2'
    clear hx ho hat hg ho2'
    obtain ⟨A1, c1, rfl⟩ := ho2.form
    have h2 := h1.nx hb2
    go_wp2_with fail
    refine (irowStrides_any _ s _ h2 HS.out).mono ?_; rintro e w3 ⟨r, rfl, hr, hb3⟩
    have ho3 := ho2.nx hb3
    have hsep : Sep (.slice A1 s.length c1) r := ho2.seg.sep hr.seg (Nat.le_refl _)
    have hz2 := hb2.size
    have hz3 := hb3.size
    obtain ⟨A2, c2, rfl⟩ := hr.form
    go_wp2_with fail
    refine (cleared_any _ _ ⟨0, s, rowS s⟩ w0.heap.size _ ho3 (hr.mono (by omega)) hsep (by omega) (by show s.length ≤ 1000000; omega)).mono ?_; rintro e w4 ⟨sv, tv, rfl, hs4, ht4, hsep4, hb4⟩
    rw [← HQ.out] at hs4 ht4 ⊢
    have hB := (hb0.nx hb2 hb0.size).nx hb3 (by omega)
    have hB := hB.nx hb4 (by omega)
    have hZ4 := ((hZ.nx hb2).nx hb3).nx hb4
    obtain ⟨As, cs, rfl⟩ := hs4.form
    obtain ⟨At, ct, rfl⟩ := ht4.form
    obtain ⟨⟨q0, q1, q2⟩, qf0, qf1, qf2⟩ := id hZ4.all3
    obtain ⟨⟨t0, t1, t2⟩, -⟩ := (hZ4.store3 (.int .i64 (newL s).base) (.slice As (newL s).shape.length cs) (.slice At (newL s).strides.length ct)).all3
    clear hZ hZ4 ho2 ho3 hr h h1 h2 hb0 hb2 hb3 hb4
    have HS4 := hid hs4
    have HT4 := hid ht4
    clear hs4 ht4
    generalize newL s = V at *
    go_wp2
    refine bodyPost_ret (v := .agg #[.int .i64 V.base, .slice As V.shape.length cs, .slice At V.strides.length ct]) (by simp [results, Try.results30, go_sem, t0, t1, t2]) rfl ?_
    exact store_view (by omega) HS4.out HT4.out hsep4 hB _ _ _

end Go.Proofs.Ytldblcolnjkcaaa

/-! ## NV2 -/
namespace Go.Proofs.Ytldblcolnjkcaaa
open Go.RowKit

set_option maxRecDepth 100000 in
set_option maxHeartbeats 6400000 in
theorem sNewView_any (v : Value) (s : List Int) (w : World) (h : Ints w v s) :
    Calls Try.prog 32 #[v] w (RetView w (newL s)) := by
  obtain ⟨A, c, e⟩ := h.form
  subst e
  have hb0 := below_alloc w (.cells #[.int .i64 0, .slice none 0 0, .slice none 0 0] 43)
  have hZ := Blk.new w 43 #[.int .i64 0, .slice none 0 0, .slice none 0 0]
  have h1 := h.nx hb0
  have hz0 : w.heap.size + 1 ≤ (w.alloc (.cells #[.int .i64 0, .slice none 0 0, .slice none 0 0] 43)).heap.size := by simp
  cases hs : isShapeL s
  · have HS := hid hs
    have HQ := hid (show newL s = VL.zero by simp [newL, hs])
    clear hs
    go_enter Try.func32, Try.ntmps32
    go_wp2_with fail
    generalize (w.alloc (.cells #[.int .i64 0, .slice none 0 0, .slice none 0 0] 43)) = w0 at *
    refine (validShape_any _ s _ h1).mono ?_; rintro e w' ⟨rfl, rfl⟩
    rw [HS.out]
    obtain ⟨⟨q0, q1, q2⟩, qf0, qf1, qf2⟩ := id hZ.all3
    obtain ⟨⟨t0, t1, t2⟩, -⟩ := (hZ.store3 (.int .i64 0) (.slice none 0 0) (.slice none 0 0)).all3
    go_wp2
    refine bodyPost_ret (v := .agg #[.int .i64 0, .slice none 0 0, .slice none 0 0]) (by simp [results, Try.results32, go_sem, t0, t1, t2]) rfl ?_
    rw [HQ.out]
    exact store_view (V := VL.zero) (B := w.heap.size + 1) (by omega) (Own.nil _ _) (Own.nil _ _) (Sep.none_left _) hb0 _ _ _
  · have HS := hid hs
    have hsl := (shape_ext hs).1
    have hsp := shape_prod hs
    have HP := hid hsp.1
    by_cases hz : prodI s = 0
    · have hz1 : (prodI s == 0) = true := by simp [hz]
      have HQ := hid (show newL s = ⟨0, s, zerosL s.length⟩ by simp [newL, hs, tidyL, hsp.1, hz])
      clear hs hz hsp
      go_enter Try.func32, Try.ntmps32
      go_wp2_with fail
      generalize (w.alloc (.cells #[.int .i64 0, .slice none 0 0, .slice none 0 0] 43)) = w0 at *
      refine (validShape_any _ s _ h1).mono ?_; rintro e w' ⟨rfl, rfl⟩
      rw [HS.out]
      go_wp2_with fail
      refine (count_any _ s _ h1).mono ?_; rintro e w' ⟨rfl, rfl⟩
      rw [HP.out]
      have HC := hid (fun x : ExtW w0 => copyInts_any _ s x.v (h1.nx x.h) (by omega))
      go_upto_region 4 with fail
      refine region_mk 6 (by kernel_rfl) (by kernel_rfl) ?_
      apply Exists.intro
      simp only [List.take_succ_cons, List.take_zero, List.drop_succ_cons, List.drop_zero]
      repeat (first
        | (apply grow_val (by rfl); (focus (intro x; (go_simp; try with_reducible rfl); done)); simp only [Act.put, List.setIfInBounds_toArray, List.set_cons_zero, List.set_cons_succ])
        | (apply grow_skip (by rfl); simp only [Act.put, List.setIfInBounds_toArray, List.set_cons_zero, List.set_cons_succ]))
      apply grow_ints (s) (by rfl)
      · intro x hF K Q hK
        go_simp
        go_at_call 111;(with_reducible refine (HC.out x).mono ?_);rintro e w' ⟨v1, rfl, ho, hb⟩;exact hK _ _ hb ho
      intro A1 c1 F1 O1 hF1 hO1
      simp only [Act.put, List.setIfInBounds_toArray, List.set_cons_zero, List.set_cons_succ]
      repeat (first
        | (apply grow_val (by rfl); (focus (intro x; (go_simp; try with_reducible rfl); done)); simp only [Act.put, List.setIfInBounds_toArray, List.set_cons_zero, List.set_cons_succ])
        | (apply grow_skip (by rfl); simp only [Act.put, List.setIfInBounds_toArray, List.set_cons_zero, List.set_cons_succ]))
      apply grow_made s.length _ _ (by rfl) (by rfl) (by rfl) (by omega) (by rfl)
      intro g4 hg4 F4 O4 hF4 hO4
      simp only [Act.put, List.setIfInBounds_toArray, List.set_cons_zero, List.set_cons_succ]
      apply grow_fn (fun d => .agg #[.int .i64 0, d.getD 0 undef, d.getD 1 undef]) ([.slice A1 s.length c1, .slice (some ⟨g4, 0, none⟩) s.length s.length]) (by kernel_rfl) (by rfl)
      · intro x hF
        refine ⟨_, by (go_simp; try with_reducible rfl), rfl⟩
      intro v5 F5 hF5
      simp only [Act.put, List.setIfInBounds_toArray, List.set_cons_zero, List.set_cons_succ]
      repeat (first
        | (apply grow_val (by rfl); (focus (intro x; (go_simp; try with_reducible rfl); done)); simp only [Act.put, List.setIfInBounds_toArray, List.set_cons_zero, List.set_cons_succ])
        | (apply grow_skip (by rfl); simp only [Act.put, List.setIfInBounds_toArray, List.set_cons_zero, List.set_cons_succ]))
      refine grow_nil ?_
      intro x hF hS
      have e5 : v5 = .agg #[.int .i64 0, .slice A1 s.length c1, .slice (some ⟨g4, 0, none⟩) s.length s.length] := hF5 _ (hF 5 (by omega))
      subst e5
      have h1' := hF1 _ (hF 1 (by omega))
      have h4' := hF4 _ (hF 4 (by omega))
      have hsp' : Sep (.slice A1 s.length c1) (.slice (some ⟨g4, 0, none⟩) s.length s.length) := fun q e1 e2 => hS 1 4 (by omega) (by omega) (by omega) q (hO1 q e1) (by injection e2 with e2; subst e2; exact hO4)
      obtain ⟨w4, hb4⟩ := x
      simp only at h1' h4'
      have hZ4 := hZ.nx hb4
      have hB := hb0.nx hb4 hb0.size
      have HS4 := hid h1'
      have HT4 := hid h4'
      clear hF hS hF1 hO1 hF4 hO4 hF5 h1' h4' hZ hb0 h h1
      obtain ⟨⟨q0, q1, q2⟩, qf0, qf1, qf2⟩ := id hZ4.all3
      obtain ⟨⟨t0, t1, t2⟩, -⟩ := (hZ4.store3 (.int .i64 0) (.slice A1 s.length c1) (.slice (some ⟨g4, 0, none⟩) s.length s.length)).all3
      clear hZ4
      go_wp2
      refine bodyPost_ret (v := .agg #[.int .i64 0, .slice A1 s.length c1, .slice (some ⟨g4, 0, none⟩) s.length s.length]) (by simp [results, Try.results32, go_sem, t0, t1, t2]) rfl ?_
      rw [HQ.out]
      exact store_view (V := ⟨0, s, zerosL s.length⟩) (by omega) HS4.out HT4.out hsp' hB _ _ _
    · have hz1 : (prodI s == 0) = false := by simpa using hz
      have HQ := hid (newL_pos hs hz)
      clear hs hz hsp
      go_enter Try.func32, Try.ntmps32
      go_wp2_with fail
      generalize (w.alloc (.cells #[.int .i64 0, .slice none 0 0, .slice none 0 0] 43)) = w0 at *
      refine (validShape_any _ s _ h1).mono ?_; rintro e w' ⟨rfl, rfl⟩
      rw [HS.out]
      go_wp2_with fail
      refine (count_any _ s _ h1).mono ?_; rintro e w' ⟨rfl, rfl⟩
      rw [HP.out]
      go_wp2_with fail
      refine (copyInts_any _ s _ h1 (by omega)).mono ?_; rintro e w2 ⟨r1, rfl, ho2, hb2⟩
      have h2 := h1.nx hb2
      go_wp2_with fail
      refine (srowStrides_any _ s _ h2 HS.out).mono ?_; rintro e w3 ⟨r2, rfl, ho3, hb3⟩
      have hsep := ho2.seg.sep ho3.seg (Nat.le_refl _)
      have hy2 := hb2.size
      have hB := (hb0.nx hb2 hb0.size).nx hb3 (by omega)
      have hZ4 := (hZ.nx hb2).nx hb3
      have HS4 := hid (ho2.nx hb3)
      have HT4 := hid (ho3.mono (B' := w0.heap.size) (by omega))
      obtain ⟨As, cs, rfl⟩ := ho2.form
      obtain ⟨At, ct, rfl⟩ := ho3.form
      obtain ⟨⟨q0, q1, q2⟩, qf0, qf1, qf2⟩ := id hZ4.all3
      obtain ⟨⟨t0, t1, t2⟩, -⟩ := (hZ4.store3 (.int .i64 0) (.slice As s.length cs) (.slice At (rowS s).length ct)).all3
      clear hZ hZ4 ho2 ho3 h h1 h2 hb0 hb2 hb3
      generalize (rowS s).length = rl at *
      go_wp2
      refine bodyPost_ret (v := .agg #[.int .i64 0, .slice As s.length cs, .slice At rl ct]) (by simp [results, Try.results32, go_sem, t0, t1, t2]) rfl ?_
      rw [HQ.out]
      exact store_view (V := ⟨0, s, rowS s⟩) (by omega) HS4.out HT4.out hsep hB _ _ _

end Go.Proofs.Ytldblcolnjkcaaa

/-! ## KR -/
namespace Go.Proofs.Ytldblcolnjkcaaa
open Go.RowKit

theorem drop_rev (xs : List Int) (j : Nat) (h : j < xs.length) : (xs.drop j).reverse = (xs.drop (j + 1)).reverse ++ [xs[j]] := by
  rw [List.drop_eq_getElem_cons h, List.reverse_cons]

set_option maxHeartbeats 800000 in
theorem reversed_any (v : Value) (xs : List Int) (w : World) (h : Ints w v xs) (hn : xs.length ≤ 1000000) :
    Calls Try.prog 172 #[v] w (RetOwn w xs.reverse) := by
  obtain ⟨A, c, rfl, h1, h2, h3⟩ := h
  unfold maxLen at h2
  go_enter Try.func172, Try.ntmps172
  go_wp2
  go_loopw [3, 4] (fun out i wr => ∃ (k : Nat), k ≤ xs.length ∧ i = .int .i64 ((k : Int) - 1) ∧ Own wr w.heap.size out (xs.drop k).reverse ∧ Below w.heap.size w wr) (fun _ i _ => (intOf i + 1).toNat)
  case atStart => exact ⟨xs.length, Nat.le_refl _, by go_num, by rw [List.drop_length]; exact Own.empty w rfl (Nat.le_refl _), below_alloc w _⟩
  case round =>
    obtain ⟨k, hk, hi, hown, hb⟩ := hrel
    by_cases hlt : 0 < k
    · obtain ⟨j, rfl⟩ : ∃ j, k = j + 1 := ⟨k - 1, by omega⟩
      have hjl : j < xs.length := by omega
      rw [show (((j + 1 : Nat) : Int) - 1) = (j : Int) by omega] at hi
      subst hi
      obtain ⟨b, off, rfl, hltb, hc⟩ := h3 (by omega)
      have hx := (hb.cell (p := ⟨b, off + j, none⟩) hltb).trans (hc j xs[j] (by simp [hjl]))
      have HT := hid (drop_rev xs j hjl)
      have HL1 := hid (show (xs.drop (j + 1)).reverse.length ≤ 1000000000000 by simp; omega)
      have hsz : w.heap.size ≤ wr.heap.size := hb.size
      clear hc h3
      go_wp2_with (at_builtin; refine app1 _ rfl _ _ rfl w.heap.size _ (xs.drop (j + 1)).reverse rfl (hown.alloc _) ⟨wr.heap.size, 0, none⟩ 1 xs[j] rfl (cell_new1 _ _ _) HL1.out (le_alloc hsz _) ?_)
      intro v1 w1 ho1 hg1 hat1
      have hq := hb.trans (((below_alloc wr (.cells #[.int .i64 xs[j]] 3)).mono hsz).trans ((hown.alloc _).under hg1 (le_alloc hsz _)))
      go_wp2
      go_roundw
      case rel => exact ⟨j, by omega, by go_num, by rw [HT.out]; exact ho1, hq⟩
      case measure => simp [intOf] <;> omega
    · obtain rfl : k = 0 := by omega
      subst hi
      go_wp2
      go_ret
      exact ⟨_, rfl, by simpa using hown, hb⟩

end Go.Proofs.Ytldblcolnjkcaaa

/-! ## HR -/
namespace Go.Proofs.Ytldblcolnjkcaaa
open Go.RowKit

structure Hr (N g q : Nat) (w wx : World) (L : List Item) : Prop where
  hp : Hp w.heap.size wx wx L
  lt : g < w.heap.size
  rd : Rd N wx g q
  grew : w.grownBy wx (some g)
section
variable {N g q p : Nat} {w wx wy : World} {L L' : List Item}
theorem Hr.start (h : Rd N w g q) : Hr N g q w w [] := ⟨Hp.start w, h.lt.2, h, World.grownBy.refl w (some g)⟩
theorem Hr.op (h : Hr N g q w wx L) (hp : Hp w.heap.size wx wy L') : Hr N g q w wy L' :=
  ⟨⟨Below.refl _ _, hp.size, hp.ok, hp.sep⟩, h.lt, h.rd.keep (hp.below.mono (by have := h.rd.lt; have := h.lt; omega)) (hp.below.block g h.lt),
   hp.below.os.trans h.grew.os, hp.below.tape.trans h.grew.tape, hp.below.output.trans h.grew.output, hp.size, fun k hk hne => (hp.below.block k hk).trans (h.grew.block k hk hne)⟩
theorem Hr.nx (h : Hr N g q w wx L) (hb : Below wx.heap.size wx wy) : Hr N g q w wy L := h.op (h.hp.nx hb)
theorem Hr.ate (h : Hr N g q w wx L) (hR : Rd N wy g p) (hG : wx.grownBy wy (some g)) : Hr N g p w wy L :=
  ⟨⟨Below.refl _ _, Nat.le_trans h.hp.size hG.size, fun i hi => (h.hp.ok i hi).stay fun k hk ho => hG.block k hk fun e => by
      injection e with e
      have := (h.hp.ok i hi).lt ho
      have := h.lt
      omega, h.hp.sep⟩, h.lt, hR, h.grew.trans hG⟩
theorem Hr.blk (h : Hr N g q w wx L) (i : Nat) {b : Nat} {T : TypeId} {cs : Array Value} (hi : L[i]? = some (.blk b T cs)) : Blk wx b T cs := h.hp.blk i hi
theorem Hr.ints (h : Hr N g q w wx L) (i : Nat) {v : Value} {xs : List Int} (hi : L[i]? = some (.ints v xs)) : Own wx w.heap.size v xs := h.hp.ints i hi
theorem Hr.sz (h : Hr N g q w wx L) : w.heap.size ≤ wx.heap.size := h.hp.size
end
/-- What drawing a tensor leaves. -/
def RetTensorR (N g p n m : Nat) (w : World) (e : Ending) (w' : World) : Prop := ∃ (sv tv : Value) (T : TL) (q : Nat), e = .returned (.agg #[sv, tv]) ∧ T.shape.length ≤ n ∧ T.values.length ≤ n ∧
  Own w' w.heap.size sv T.shape ∧ Own w' w.heap.size tv T.values ∧ Sep sv tv ∧ q ≤ p + m ∧ Rd N w' g q ∧ w.grownBy w' (some g)

end Go.Proofs.Ytldblcolnjkcaaa

/-! ## VV0 -/
namespace Go.Proofs.Ytldblcolnjkcaaa
open Go.RowKit

/-- A view of the call's own and a bool. -/
def RetAnyB (w : World) (e : Ending) (w' : World) : Prop := ∃ (ok : Bool) (b : Int) (S T : List Int) (A : Option Addr) (c : Nat) (B : Option Addr) (d : Nat),
  e = .returned (.tuple #[.agg #[.int .i64 b, .slice A S.length c, .slice B T.length d], .bool ok]) ∧ Own w' w.heap.size (.slice A S.length c) S ∧ Own w' w.heap.size (.slice B T.length d) T ∧ Sep (.slice A S.length c) (.slice B T.length d) ∧ Below w.heap.size w w'
theorem RetViewB.any {w : World} {V : VL} {b : Bool} {e : Ending} {w' : World} (h : RetViewB w V b e w') : RetAnyB w e w' := by
  obtain ⟨sv, tv, rfl, h1, h2, h3, h4⟩ := h
  obtain ⟨A, c, rfl⟩ := h1.form
  obtain ⟨B, d, rfl⟩ := h2.form
  exact ⟨b, V.base, V.shape, V.strides, A, c, B, d, rfl, h1, h2, h3, h4⟩
/-- What a view that is drawn is known for. -/
def gST (S T : List Int) : Prop := T.length = S.length ∧ S.length ≤ 4
theorem gST_valid {V : VL} (h : isViewL V = true) : gST V.shape V.strides := by
  simp only [isViewL, Bool.and_eq_true, decide_eq_true_eq] at h
  exact ⟨h.1.1.1.2, (shape_ext h.1.1.1.1).1⟩
theorem gST_new {s : List Int} (h : isShapeL s = true) : gST (newL s).shape (newL s).strides := by
  rw [newL, if_pos h]
  unfold tidyL
  split
  · exact ⟨by simp [zerosL], (shape_ext h).1⟩
  · exact ⟨by simp [rowS], (shape_ext h).1⟩
/-- What drawing a view leaves. -/
def RetViewR (N g p m k : Nat) (w : World) (e : Ending) (w' : World) : Prop := ∃ (b : Int) (S T : List Int) (A : Option Addr) (c : Nat) (B : Option Addr) (d q : Nat),
  e = .returned (.agg #[.int .i64 b, .slice A S.length c, .slice B T.length d]) ∧ S.length ≤ 4 ∧ T.length ≤ k ∧ Own w' w.heap.size (.slice A S.length c) S ∧ Own w' w.heap.size (.slice B T.length d) T ∧ Sep (.slice A S.length c) (.slice B T.length d) ∧
  q ≤ p + m ∧ Rd N w' g q ∧ w.grownBy w' (some g)
section
variable {N g q : Nat} {w wx : World} {L : List Item}
theorem Hr.view (h : Hr N g q w wx L) (i j : Nat) {s t : Value} {S T : List Int} (hi : L[i]? = some (.ints s S)) (hj : L[j]? = some (.ints t T)) (b : Int) : ViewV wx (.agg #[.int .i64 b, s, t]) ⟨b, S, T⟩ :=
  ⟨s, t, rfl, (h.ints i hi).ints, (h.ints j hj).ints⟩
theorem Hr.drawn {p : Nat} {wy : World} {s t : Value} {S T : List Int} (h : Hr N g q w wx L) (ho : Own wy wx.heap.size s S) (ht : Own wy wx.heap.size t T) (hs : Sep s t) (hR : Rd N wy g p) (hG : wx.grownBy wy (some g)) :
    Hr N g p w wy (L ++ [.ints s S, .ints t T]) := by
  have h1 := h.ate hR hG
  refine ⟨⟨Below.refl _ _, h1.hp.size, fun i hi => ?_, List.pairwise_append.2 ⟨h1.hp.sep, List.pairwise_pair.2 hs, fun a ha b hb k h2 h3 => ?_⟩⟩, h1.lt, h1.rd, h1.grew⟩
  · rcases List.mem_append.1 hi with hi | hi
    · exact h1.hp.ok i hi
    · simp at hi
      rcases hi with rfl | rfl
      · exact Own.mono ho h.sz
      · exact Own.mono ht h.sz
  · have := (h.hp.ok a ha).lt h2
    have : wx.heap.size ≤ k := by
      simp at hb
      rcases hb with rfl | rfl
      · exact (ho.lt k h3).1
      · exact (ht.lt k h3).1
    omega
end
theorem slBd_ok {S : SL} (h : slBd S) : S.ok := by
  obtain ⟨h1, h2, h3⟩ := h
  unfold SL.ok inI64
  omega

end Go.Proofs.Ytldblcolnjkcaaa

/-! ## VV1 -/
namespace Go.Proofs.Ytldblcolnjkcaaa
open Go.RowKit

set_option maxRecDepth 100000 in
set_option maxHeartbeats 6400000 in
theorem goodView_any (N g p : Nat) (w : World) (h : Rd N w g p) (hp : p ≤ 700000) :
    Calls Try.prog 156 #[.pointer (some ⟨g, 0, none⟩)] w (RetViewR N g p 80 5 w) := by
  have HM0 := hid ((Hr.start h).op ((Hr.start h).hp.alloc 43 #[.int .i64 0, .slice none 0 0, .slice none 0 0]))
  simp only [List.nil_append] at HM0
  go_enter Try.func156, Try.ntmps156
  go_upto_region 1 with fail
  clear h
  generalize (w.alloc (.cells #[.int .i64 0, .slice none 0 0, .slice none 0 0] 43)) = w0 at *
  go_wp2_with fail
  refine (goodShape_any N g p _ HM0.out.rd (by omega)).mono ?_; rintro e w1 ⟨u, xs, q, rfl, hsh, hx5, hO, hq, hR, hG⟩
  have HM1 := hid (HM0.out.ate hR hG)
  have HI := hid hO.ints
  have HGS := hid (gST_new hsh)
  clear hsh hx5 hO hR hG HM0
  go_wp2_with fail
  refine (sNewView_any _ xs _ HI.out).mono ?_; rintro e w2 ⟨sv, tv, rfl, ho, ht, hs, hb⟩
  have HM2 := hid (HM1.out.op (HM1.out.hp.rows ho ht hs hb))
  obtain ⟨A1, c1, e1⟩ := ho.form
  subst e1
  obtain ⟨A2, c2, e2⟩ := ht.form
  subst e2
  clear ho ht hs hb HM1 HI
  generalize (newL xs).base = b0 at *
  generalize (newL xs).shape = S0 at *
  generalize (newL xs).strides = T0 at *
  have HM3 := hid (HM2.out.op (HM2.out.hp.alloc 43 #[.int .i64 b0, .slice A1 S0.length c1, .slice A2 T0.length c2]))
  simp only [List.cons_append, List.nil_append] at HM3
  clear HM2
  go_upto_region 2 with fail
  generalize (w2.alloc (.cells #[.int .i64 b0, .slice A1 S0.length c1, .slice A2 T0.length c2] 43)) = w3 at *
  generalize w2.heap.size = g3 at *
  go_wp2_with fail
  refine (pick_any _ _ (q) 10 _ HM3.out.rd (by omega) (by omega)).mono ?_; rintro e w4 ⟨r0, rfl, hr0, hR, hG⟩
  have HM4 := hid (HM3.out.ate hR hG)
  clear hR hG
  have hL : Own (w4.alloc (.cells #[.int .i64 0, .int .i64 0, .int .i64 1, .int .i64 3, .int .i64 (r0 : Int)] 3)) w4.heap.size (.slice (some ⟨w4.heap.size, 0, none⟩) 5 5) [0, 0, 1, 3, (r0 : Int)] := own_lit w4 [0, 0, 1, 3, (r0 : Int)] (by simp)
  have HA := hid (HM4.out.nx (below_alloc w4 (.cells #[.int .i64 0, .int .i64 0, .int .i64 1, .int .i64 3, .int .i64 (r0 : Int)] 3)))
  have HE := hid (HM4.out.rd.lit 5 5)
  go_wp2_with fail
  refine (one_any _ _ (q + 1) _ _ _ _ HA.out.rd (by omega) hL (by simp) HE.out).mono ?_; rintro e w5 ⟨r, hr, rfl, hR, hG⟩
  have HM5 := hid (HA.out.ate hR hG)
  obtain ⟨b, ey, hb⟩ : ∃ y : Int, [0, 0, 1, 3, (r0 : Int)][r] = y ∧ y ∈ ([0, 0, 1, 3, (r0 : Int)] : List Int) := ⟨_, rfl, List.getElem_mem hr⟩
  rw [ey]
  clear hR hG ey hr hL HA HE
  obtain ⟨⟨x0, x1, x2⟩, xf0, xf1, xf2⟩ := (HM5.out.blk 3 rfl).all3
  have HM6 := hid (HM5.out.op (HM5.out.hp.store 3 rfl 0 (.int .i64 b)))
  go_upto_region 3 with fail
  simp only [List.set_cons_succ, List.set_cons_zero, List.setIfInBounds_toArray] at HM6
  clear x0 x1 x2 xf0 xf1 xf2 HM3 HM4 HM5 hb
  generalize w5.setCell ⟨g3, 0, none⟩ (.int .i64 b) = w6 at *
  go_wp2_with fail
  refine (pick_any _ _ (q + 1 + 1) 4 _ HM6.out.rd (by omega) (by omega)).mono ?_; rintro e w7 ⟨n, rfl, hn, hR, hG⟩
  have HM7 := hid (HM6.out.ate hR hG)
  clear hR hG
  go_upto_region 4 with fail
  clear HM6
  go_loopg [4] n (fun m i wr => ∃ (c q1 : Nat) (b : Int) (S T : List Int) (s t : Value), m = c ∧ i = .int .i64 c ∧ c ≤ 3 ∧ q1 + 20 * c ≤ p + 70 ∧ Hid (gST S T) ∧
    Hr N g q1 w wr [.blk w.heap.size 43 #[.int .i64 0, .slice none 0 0, .slice none 0 0], .ints s S, .ints t T, .blk g3 43 #[.int .i64 b, s, t]])
  case atStart => exact ⟨n, q + 1 + 1 + 1, b, S0, T0, _, _, rfl, rfl, by omega, by omega, HGS, HM7.out⟩
  case round =>
    obtain ⟨c, q1, b, S, T, s, t, hm, rfl, hc3, hq1, HST, H⟩ := hrel
    have HM8 := hid H
    have HMC := hid hm
    clear H hm HM7 HGS
    obtain ⟨w8, rfl⟩ : ∃ w8, w8 = wr := ⟨_, rfl⟩
    obtain ⟨A1, c1, e1⟩ := (HM8.out.ints 1 rfl).form
    subst e1
    obtain ⟨A2, c2, e2⟩ := (HM8.out.ints 2 rfl).form
    subst e2
    have hS4 : S.length ≤ 4 := HST.out.2
    by_cases hc : 0 < c
    · have hci : (0 : Int) < (c : Int) := by omega
      have hwc : IntKind.i64.wrap ((c : Int) - 1) = (c : Int) - 1 := IntWalk.i64_in _ (by omega)
      obtain ⟨⟨x0, x1, x2⟩, -⟩ := (HM8.out.blk 3 rfl).all3
      by_cases hs : 0 < S.length
      · have hsi : (0 : Int) < (S.length : Int) := by omega
        go_wp2_with fail
        refine (pick_any _ _ (q1) S.length _ HM8.out.rd (by omega) (by omega)).mono ?_; rintro e w9 ⟨d, rfl, hd, hR, hG⟩
        have HM9 := hid (HM8.out.ate hR hG)
        clear hR hG
        clear HM8 x0 x1 x2
        have hdT : d < T.length := by have := HST.out.1; omega
        obtain ⟨⟨x0, x1, x2⟩, -⟩ := (HM9.out.blk 3 rfl).all3
        have HM10 := hid (HM9.out.op (HM9.out.hp.alloc 43 #[.int .i64 b, .slice A1 S.length c1, .slice A2 T.length c2]))
        simp only [List.cons_append, List.nil_append] at HM10
        go_upto_region 9 with fail
        clear HM9 x0 x1 x2
        generalize (w9.alloc (.cells #[.int .i64 b, .slice A1 S.length c1, .slice A2 T.length c2] 43)) = w10 at *
        generalize w9.heap.size = g6 at *
        go_wp2_with fail
        refine (pick_any _ _ (q1 + 1) 6 _ HM10.out.rd (by omega) (by omega)).mono ?_; rintro e w11 ⟨r, rfl, hr, hR, hG⟩
        have HM11 := hid (HM10.out.ate hR hG)
        clear hR hG
        clear HM10
        go_upto_block 2 with fail
        go_cut [7] (fun sok wx => ∃ (ok : Bool) (q2 : Nat) (b2 : Int) (S2 T2 : List Int) (A5 : Option Addr) (c5 : Nat) (A6 : Option Addr) (c6 : Nat), sok = .bool ok ∧ q2 ≤ q1 + 15 ∧
          Hid (Hr N g q2 w wx [.blk w.heap.size 43 #[.int .i64 0, .slice none 0 0, .slice none 0 0], .ints (.slice A1 S.length c1) S, .ints (.slice A2 T.length c2) T, .blk g3 43 #[.int .i64 b, .slice A1 S.length c1, .slice A2 T.length c2], .blk g6 43 #[.int .i64 b2, .slice A5 S2.length c5, .slice A6 T2.length c6], .ints (.slice A5 S2.length c5) S2, .ints (.slice A6 T2.length c6) T2]))
        case first =>
          by_cases h0 : r = 0
          · have h0i : ((r : Int) == 0) = true := by simp [h0]
            clear h0
            obtain ⟨⟨x0, x1, x2⟩, -⟩ := (HM11.out.blk 3 rfl).all3
            have HMd := hid (HM11.out.nx (below_drew w11))
            go_upto_region 14 with fail
            go_region_law (first
              | (rw [if_pos (wanted_of (by rfl))]; go_simp; go_at_call 98; refine (someSlice_any N g (q1 + 1 + 1) _ HMd.out.rd (by omega)).mono ?_; rintro e w16 ⟨SS, q2, rfl, hsb, hq2, hR, hG⟩
                 have HM16 := hid (HMd.out.ate hR hG)
                 obtain ⟨⟨z0, z1, z2⟩, -⟩ := (HM16.out.blk 3 rfl).all3
                 have HSB := hid (slBd_ok hsb)
                 clear hR hG hsb
                 go_simp)
              | (rw [if_pos (wanted_of (by rfl))]; go_simp; go_at_call 169; refine (sSliceDim_any _ SS.val ⟨b, S, T⟩ (d : Int) SS _ (HM16.out.view 1 2 rfl rfl b) (by omega) ⟨rfl, HSB.out⟩).mono ?_; rintro e w17 hX
                 obtain ⟨ok, b2, S2, T2, A5, c5, A6, c6, rfl, ho, ht, hs2, hb⟩ := hX.any
                 have HM17 := hid (HM16.out.op (HM16.out.hp.rows ho ht hs2 hb))
                 obtain ⟨⟨y0, y1, y2⟩, yf0, yf1, yf2⟩ := (HM17.out.blk 4 rfl).all3
                 clear ho ht hs2 hb hX
                 go_simp))
            all_goals
              have HM18 := hid (HM17.out.op (HM17.out.hp.store3 4 rfl (.int .i64 b2) (.slice A5 S2.length c5) (.slice A6 T2.length c6)))
              simp only [List.set_cons_succ, List.set_cons_zero, List.cons_append, List.nil_append] at HM18
              go_wp2
              go_meet
              exact ⟨ok, q2, b2, S2, T2, A5, c5, A6, c6, rfl, by omega, HM18⟩
          · have h0i : ((r : Int) == 0) = false := by simp; omega
            by_cases h1 : r = 1
            · have h1i : ((r : Int) == 1) = true := by simp [h1]
              clear h0 h1
              obtain ⟨⟨x0, x1, x2⟩, -⟩ := (HM11.out.blk 3 rfl).all3
              go_wp2_with fail
              refine (sFlipDim_any _ ⟨b, S, T⟩ (d : Int) _ (HM11.out.view 1 2 rfl rfl b) (by omega)).mono ?_; rintro e w17 hX
              obtain ⟨ok, b2, S2, T2, A5, c5, A6, c6, rfl, ho, ht, hs2, hb⟩ := hX.any
              have HM17 := hid (HM11.out.op (HM11.out.hp.rows ho ht hs2 hb))
              obtain ⟨⟨y0, y1, y2⟩, yf0, yf1, yf2⟩ := (HM17.out.blk 4 rfl).all3
              clear ho ht hs2 hb hX x0 x1 x2
              have HM18 := hid (HM17.out.op (HM17.out.hp.store3 4 rfl (.int .i64 b2) (.slice A5 S2.length c5) (.slice A6 T2.length c6)))
              simp only [List.set_cons_succ, List.set_cons_zero, List.cons_append, List.nil_append] at HM18
              go_wp2
              go_meet
              exact ⟨ok, q1 + 1 + 1, b2, S2, T2, A5, c5, A6, c6, rfl, by omega, HM18⟩
            · have h1i : ((r : Int) == 1) = false := by simp; omega
              by_cases h2 : r = 2
              · have h2i : ((r : Int) == 2) = true := by simp [h2]
                clear h0 h1 h2
                obtain ⟨⟨x0, x1, x2⟩, -⟩ := (HM11.out.blk 3 rfl).all3
                have HMd := hid (HM11.out.nx (below_drew w11))
                go_upto_region 18 with fail
                go_region_law (first
                  | (rw [if_pos (wanted_of (by rfl))]; go_simp; go_at_call 147; refine (sUpTo_any S.length _ (by omega)).mono ?_; rintro e w15 ⟨v5, rfl, ho5, hb5⟩
                     have HM15 := hid (HMd.out.nx hb5)
                     obtain ⟨⟨z0, z1, z2⟩, -⟩ := (HM15.out.blk 3 rfl).all3
                     have HO5 := hid ho5.ints
                     clear ho5 hb5
                     go_simp)
                  | (rw [if_pos (wanted_of (by rfl))]; go_simp; go_at_call 172; refine (reversed_any _ _ _ HO5.out (by rw [upI_length]; omega)).mono ?_; rintro e w16 ⟨v6, rfl, ho6, hb6⟩
                     have HM16 := hid (HM15.out.nx hb6)
                     obtain ⟨⟨zz0, zz1, zz2⟩, -⟩ := (HM16.out.blk 3 rfl).all3
                     have HO6 := hid ho6.ints
                     clear ho6 hb6
                     go_simp)
                  | (rw [if_pos (wanted_of (by rfl))]; go_simp; go_at_call 171; refine (sPermuteDims_any _ _ ⟨b, S, T⟩ _ _ (HM16.out.view 1 2 rfl rfl b) HO6.out).mono ?_; rintro e w17 hX
                     obtain ⟨ok, b2, S2, T2, A5, c5, A6, c6, rfl, ho, ht, hs2, hb⟩ := hX.any
                     have HM17 := hid (HM16.out.op (HM16.out.hp.rows ho ht hs2 hb))
                     obtain ⟨⟨y0, y1, y2⟩, yf0, yf1, yf2⟩ := (HM17.out.blk 4 rfl).all3
                     clear ho ht hs2 hb hX
                     go_simp))
                all_goals
                  have HM18 := hid (HM17.out.op (HM17.out.hp.store3 4 rfl (.int .i64 b2) (.slice A5 S2.length c5) (.slice A6 T2.length c6)))
                  simp only [List.set_cons_succ, List.set_cons_zero, List.cons_append, List.nil_append] at HM18
                  go_wp2
                  go_meet
                  exact ⟨ok, q1 + 1 + 1, b2, S2, T2, A5, c5, A6, c6, rfl, by omega, HM18⟩
              · have h2i : ((r : Int) == 2) = false := by simp; omega
                by_cases h3 : r = 3
                · have h3i : ((r : Int) == 3) = true := by simp [h3]
                  clear h0 h1 h2 h3
                  obtain ⟨⟨x0, x1, x2⟩, -⟩ := (HM11.out.blk 3 rfl).all3
                  have HMd := hid (HM11.out.nx (below_drew w11))
                  go_upto_region 20 with fail
                  go_region_law (first
                    | (rw [if_pos (wanted_of (by rfl))]; go_simp; go_at_call 89; refine (pick_any N g (q1 + 1 + 1) 3 _ HMd.out.rd (by omega) (by omega)).mono ?_; rintro e w16 ⟨r9, rfl, hr9, hR, hG⟩
                       have HM16 := hid (HMd.out.ate hR hG)
                       obtain ⟨⟨z0, z1, z2⟩, -⟩ := (HM16.out.blk 3 rfl).all3
                       have hw9 : IntKind.i64.wrap (1 + (r9 : Int)) = 1 + (r9 : Int) := IntWalk.i64_in _ (by omega)
                       clear hR hG
                       go_simp)
                    | (rw [if_pos (wanted_of (by rfl))]; go_simp; go_at_call 173; refine (sWindowsOf_any _ ⟨b, S, T⟩ (d : Int) (1 + (r9 : Int)) _ (HM16.out.view 1 2 rfl rfl b) (by omega) (by omega)).mono ?_; rintro e w17 hX
                       obtain ⟨ok, b2, S2, T2, A5, c5, A6, c6, rfl, ho, ht, hs2, hb⟩ := hX.any
                       have HM17 := hid (HM16.out.op (HM16.out.hp.rows ho ht hs2 hb))
                       obtain ⟨⟨y0, y1, y2⟩, yf0, yf1, yf2⟩ := (HM17.out.blk 4 rfl).all3
                       clear ho ht hs2 hb hX
                       go_simp))
                  all_goals
                    have HM18 := hid (HM17.out.op (HM17.out.hp.store3 4 rfl (.int .i64 b2) (.slice A5 S2.length c5) (.slice A6 T2.length c6)))
                    simp only [List.set_cons_succ, List.set_cons_zero, List.cons_append, List.nil_append] at HM18
                    go_wp2
                    go_meet
                    exact ⟨ok, q1 + 1 + 1 + 1, b2, S2, T2, A5, c5, A6, c6, rfl, by omega, HM18⟩
                · have h3i : ((r : Int) == 3) = false := by simp; omega
                  by_cases h4 : r = 4
                  · have h4i : ((r : Int) == 4) = true := by simp [h4]
                    clear h0 h1 h2 h3 h4
                    obtain ⟨⟨x0, x1, x2⟩, -⟩ := (HM11.out.blk 3 rfl).all3
                    go_wp2_with fail
                    refine (sAddDim_any _ ⟨b, S, T⟩ (d : Int) _ (HM11.out.view 1 2 rfl rfl b) (by omega)).mono ?_; rintro e w17 hX
                    obtain ⟨ok, b2, S2, T2, A5, c5, A6, c6, rfl, ho, ht, hs2, hb⟩ := hX.any
                    have HM17 := hid (HM11.out.op (HM11.out.hp.rows ho ht hs2 hb))
                    obtain ⟨⟨y0, y1, y2⟩, yf0, yf1, yf2⟩ := (HM17.out.blk 4 rfl).all3
                    clear ho ht hs2 hb hX x0 x1 x2
                    have HM18 := hid (HM17.out.op (HM17.out.hp.store3 4 rfl (.int .i64 b2) (.slice A5 S2.length c5) (.slice A6 T2.length c6)))
                    simp only [List.set_cons_succ, List.set_cons_zero, List.cons_append, List.nil_append] at HM18
                    go_wp2
                    go_meet
                    exact ⟨ok, q1 + 1 + 1, b2, S2, T2, A5, c5, A6, c6, rfl, by omega, HM18⟩
                  · have h4i : ((r : Int) == 4) = false := by simp; omega
                    clear h0 h1 h2 h3 h4
                    obtain ⟨⟨x0, x1, x2⟩, -⟩ := (HM11.out.blk 3 rfl).all3
                    go_wp2_with fail
                    refine (scopyView_any _ ⟨b, S, T⟩ _ (HM11.out.view 1 2 rfl rfl b) (by show S.length ≤ 100000000; omega) (by have := HST.out.1; show T.length ≤ 100000000; omega)).mono ?_; rintro e w12 ⟨sv, tv, rfl, ho, ht, hs2, hb⟩
                    have HM12 := hid (HM11.out.op (HM11.out.hp.rows ho ht hs2 hb))
                    obtain ⟨A5, c5, e5⟩ := ho.form
                    subst e5
                    obtain ⟨gt, c6, e6, -, -⟩ := ht.row (by show 0 < T.length; omega)
                    subst e6
                    clear ho ht hs2 hb x0 x1 x2
                    obtain ⟨⟨y0, y1, y2⟩, yf0, yf1, yf2⟩ := (HM12.out.blk 4 rfl).all3
                    have HM13 : Hid (Hr N g (q1 + 1 + 1) w (((w12.setCell ⟨g6, 0, none⟩ (.int .i64 b)).setCell ⟨g6, 1, none⟩ (.slice A5 S.length c5)).setCell ⟨g6, 2, none⟩ (.slice (some ⟨gt, 0, none⟩) T.length c6)) [.blk w.heap.size 43 #[.int .i64 0, .slice none 0 0, .slice none 0 0], .ints (.slice A1 S.length c1) S, .ints (.slice A2 T.length c2) T, .blk g3 43 #[.int .i64 b, .slice A1 S.length c1, .slice A2 T.length c2], .blk g6 43 #[.int .i64 b, .slice A5 S.length c5, .slice (some ⟨gt, 0, none⟩) T.length c6], .ints (.slice A5 S.length c5) S, .ints (.slice (some ⟨gt, 0, none⟩) T.length c6) T]) :=
                      hid (HM12.out.op (HM12.out.hp.store3 4 rfl (.int .i64 b) (.slice A5 S.length c5) (.slice (some ⟨gt, 0, none⟩) T.length c6)))
                    go_upto_region 11 with fail
                    clear y0 y1 y2 yf0 yf1 yf2 HM12 HM11
                    generalize (((w12.setCell ⟨g6, 0, none⟩ (.int .i64 b)).setCell ⟨g6, 1, none⟩ (.slice A5 S.length c5)).setCell ⟨g6, 2, none⟩ (.slice (some ⟨gt, 0, none⟩) T.length c6)) = w13 at *
                    obtain ⟨⟨y0, y1, y2⟩, -⟩ := (HM13.out.blk 4 rfl).all3
                    obtain ⟨⟨yy0, yy1, yy2⟩, -⟩ := ((HM13.out.blk 4 rfl).alloc (.cells #[.int .i64 0, .int .i64 2, .int .i64 3, .int .i64 1, .int .i64 (-1), .int .i64 5] 3)).all3
                    have hL : Own (w13.alloc (.cells #[.int .i64 0, .int .i64 2, .int .i64 3, .int .i64 1, .int .i64 (-1), .int .i64 5] 3)).drew w13.heap.size (.slice (some ⟨w13.heap.size, 0, none⟩) 6 6) [0, 2, 3, 1, -1, 5] := (own_lit w13 [0, 2, 3, 1, -1, 5] (by simp)).drew
                    have HMA := hid (HM13.out.nx ((below_alloc w13 (.cells #[.int .i64 0, .int .i64 2, .int .i64 3, .int .i64 1, .int .i64 (-1), .int .i64 5] 3)).drew))
                    have HE := hid (HM13.out.rd.lit 6 6)
                    have hdi : (d : Int) < (T.length : Int) := by omega
                    have hd0 : (0 : Int) ≤ (d : Int) := by omega
                    go_region_law (first
                      | (rw [if_pos (wanted_of (by rfl))]; go_simp; go_at_call 88; refine (one_any N g (q1 + 1 + 1) _ _ _ _ HMA.out.rd (by omega) hL (by simp) HE.out).mono ?_; rintro e w14 ⟨r9, hr9, rfl, hR, hG⟩
                         obtain ⟨y, ey⟩ : ∃ y : Int, [0, 2, 3, 1, -1, 5][r9] = y := ⟨_, rfl⟩
                         rw [ey]
                         have HM14 := hid (HMA.out.ate hR hG)
                         obtain ⟨⟨z0, z1, z2⟩, -⟩ := (HM14.out.blk 4 rfl).all3
                         have hv0 := (HM14.out.ints 6 rfl).cell d hdT
                         have hvf := (HM14.out.ints 6 rfl).free d
                         clear hR hG ey hr9
                         go_simp))
                    all_goals
                      have HM15 := hid (HM14.out.op (HM14.out.hp.put 6 rfl d y))
                      simp only [List.set_cons_succ, List.set_cons_zero] at HM15
                      go_wp2
                      go_meet
                      exact ⟨true, q1 + 1 + 1 + 1, b, S, T.set d y, A5, c5, some ⟨gt, 0, none⟩, c6, rfl, by omega, by rw [List.length_set]; exact HM15⟩
        case rest =>
          obtain ⟨ok, q2, b2, S2, T2, A5, c5, A6, c6, rfl, hq2, HM12⟩ := hcut
          obtain ⟨w12, rfl⟩ : ∃ w12, w12 = wc := ⟨_, rfl⟩
          clear HM11
          cases ok
          · have HM13 := hid (HM12.out.op (HM12.out.hp.pick [0, 1, 2, 3] (by decide)))
            go_wp2
            go_roundg (c - 1)
            case measure => have := HMC.out; omega
            case rel => exact ⟨c - 1, q2, b, S, T, _, _, rfl, by congr 1; omega, by omega, by omega, HST, HM13.out⟩
          · obtain ⟨⟨x0, x1, x2⟩, -⟩ := (HM12.out.blk 4 rfl).all3
            go_wp2_with fail
            refine (validView_any _ ⟨b2, S2, T2⟩ _ (HM12.out.view 5 6 rfl rfl b2)).mono ?_; rintro e w13 ⟨rfl, hb⟩
            have HM13 := hid (HM12.out.nx hb)
            obtain ⟨v, hv⟩ : ∃ v, isViewL ⟨b2, S2, T2⟩ = v := ⟨_, rfl⟩
            have HV := hid hv
            rw [hv]
            clear hv hb HM12 x0 x1 x2
            cases v
            · have HM14 := hid (HM13.out.op (HM13.out.hp.pick [0, 1, 2, 3] (by decide)))
              go_wp2
              go_roundg (c - 1)
              case measure => have := HMC.out; omega
              case rel => exact ⟨c - 1, q2, b, S, T, _, _, rfl, by congr 1; omega, by omega, by omega, HST, HM14.out⟩
            · have HST2 := hid (gST_valid HV.out)
              obtain ⟨⟨x0, x1, x2⟩, -⟩ := (HM13.out.blk 4 rfl).all3
              obtain ⟨⟨y0, y1, y2⟩, yf0, yf1, yf2⟩ := (HM13.out.blk 3 rfl).all3
              have HM14 := HM13.out.op (HM13.out.hp.store3 3 rfl (.int .i64 b2) (.slice A5 S2.length c5) (.slice A6 T2.length c6))
              have HM15 := hid (HM14.op (HM14.hp.pick [0, 5, 6, 3] (by decide)))
              clear HM14
              go_wp2
              go_roundg (c - 1)
              case measure => have := HMC.out; omega
              case rel => exact ⟨c - 1, q2, b2, S2, T2, _, _, rfl, by congr 1; omega, by omega, by omega, HST2, HM15.out⟩
      · have hsi : ¬ (0 : Int) < (S.length : Int) := by omega
        obtain ⟨⟨x0, x1, x2⟩, -⟩ := (HM8.out.blk 3 rfl).all3
        go_wp2_with fail
        refine (validView_any _ ⟨b, S, T⟩ _ (HM8.out.view 1 2 rfl rfl b)).mono ?_; rintro e w13 ⟨rfl, hb⟩
        have HM13 := hid (HM8.out.nx hb)
        have hT5 : T.length ≤ 5 := by have := HST.out.1; omega
        have HT5 := hid hT5
        have HS4 := hid hS4
        have HQ := hid (show q1 ≤ p + 80 by omega)
        obtain ⟨v, hv⟩ : ∃ v, isViewL ⟨b, S, T⟩ = v := ⟨_, rfl⟩
        rw [hv]
        clear hv hb HM8 x0 x1 x2 hT5
        cases v
        · obtain ⟨⟨x0, x1, x2⟩, xf0, xf1, xf2⟩ := (HM13.out.blk 3 rfl).all3
          have HM14 := HM13.out.op (HM13.out.hp.store 3 rfl 0 (.int .i64 0))
          have HM15 : Hid (Hr N g q1 w (w13.setCell ⟨g3, 0, none⟩ (.int .i64 0)) [.blk w.heap.size 43 #[.int .i64 0, .slice none 0 0, .slice none 0 0], .ints (.slice A1 S.length c1) S, .ints (.slice A2 T.length c2) T, .blk g3 43 #[.int .i64 0, .slice A1 S.length c1, .slice A2 T.length c2]]) := hid HM14
          clear HM14
          go_upto_region 27 with fail
          clear x0 x1 x2 xf0 xf1 xf2 HM13
          generalize w13.setCell ⟨g3, 0, none⟩ (.int .i64 0) = w14 at *
          obtain ⟨⟨x0, x1, x2⟩, -⟩ := (HM15.out.blk 3 rfl).all3
          obtain ⟨⟨y0, y1, y2⟩, yf0, yf1, yf2⟩ := (HM15.out.blk 0 rfl).all3
          have HM16 := hid (HM15.out.op (HM15.out.hp.store3 0 rfl (.int .i64 0) (.slice A1 S.length c1) (.slice A2 T.length c2)))
          obtain ⟨⟨r0, r1, r2⟩, -⟩ := (HM16.out.blk 0 rfl).all3
          go_wp2
          refine bodyPost_ret (v := .agg #[.int .i64 0, .slice A1 S.length c1, .slice A2 T.length c2]) (by simp [results, Try.results156, go_sem, r0, r1, r2]) rfl ?_
          exact ⟨0, S, T, A1, c1, A2, c2, q1, rfl, HS4.out, HT5.out, HM16.out.ints 1 rfl, HM16.out.ints 2 rfl, HM16.out.hp.apart 1 2 rfl rfl (by omega), HQ.out, HM16.out.rd, HM16.out.grew⟩
        · obtain ⟨⟨x0, x1, x2⟩, -⟩ := (HM13.out.blk 3 rfl).all3
          obtain ⟨⟨y0, y1, y2⟩, yf0, yf1, yf2⟩ := (HM13.out.blk 0 rfl).all3
          have HM16 := hid (HM13.out.op (HM13.out.hp.store3 0 rfl (.int .i64 b) (.slice A1 S.length c1) (.slice A2 T.length c2)))
          obtain ⟨⟨r0, r1, r2⟩, -⟩ := (HM16.out.blk 0 rfl).all3
          go_wp2
          refine bodyPost_ret (v := .agg #[.int .i64 b, .slice A1 S.length c1, .slice A2 T.length c2]) (by simp [results, Try.results156, go_sem, r0, r1, r2]) rfl ?_
          exact ⟨b, S, T, A1, c1, A2, c2, q1, rfl, HS4.out, HT5.out, HM16.out.ints 1 rfl, HM16.out.ints 2 rfl, HM16.out.hp.apart 1 2 rfl rfl (by omega), HQ.out, HM16.out.rd, HM16.out.grew⟩
    · have hci : ¬ (0 : Int) < (c : Int) := by omega
      obtain ⟨⟨x0, x1, x2⟩, -⟩ := (HM8.out.blk 3 rfl).all3
      go_wp2_with fail
      refine (validView_any _ ⟨b, S, T⟩ _ (HM8.out.view 1 2 rfl rfl b)).mono ?_; rintro e w13 ⟨rfl, hb⟩
      have HM13 := hid (HM8.out.nx hb)
      have hT5 : T.length ≤ 5 := by have := HST.out.1; omega
      have HT5 := hid hT5
      have HS4 := hid hS4
      have HQ := hid (show q1 ≤ p + 80 by omega)
      obtain ⟨v, hv⟩ : ∃ v, isViewL ⟨b, S, T⟩ = v := ⟨_, rfl⟩
      rw [hv]
      clear hv hb HM8 x0 x1 x2 hT5
      cases v
      · obtain ⟨⟨x0, x1, x2⟩, xf0, xf1, xf2⟩ := (HM13.out.blk 3 rfl).all3
        have HM14 := HM13.out.op (HM13.out.hp.store 3 rfl 0 (.int .i64 0))
        have HM15 : Hid (Hr N g q1 w (w13.setCell ⟨g3, 0, none⟩ (.int .i64 0)) [.blk w.heap.size 43 #[.int .i64 0, .slice none 0 0, .slice none 0 0], .ints (.slice A1 S.length c1) S, .ints (.slice A2 T.length c2) T, .blk g3 43 #[.int .i64 0, .slice A1 S.length c1, .slice A2 T.length c2]]) := hid HM14
        clear HM14
        go_upto_region 27 with fail
        clear x0 x1 x2 xf0 xf1 xf2 HM13
        generalize w13.setCell ⟨g3, 0, none⟩ (.int .i64 0) = w14 at *
        obtain ⟨⟨x0, x1, x2⟩, -⟩ := (HM15.out.blk 3 rfl).all3
        obtain ⟨⟨y0, y1, y2⟩, yf0, yf1, yf2⟩ := (HM15.out.blk 0 rfl).all3
        have HM16 := hid (HM15.out.op (HM15.out.hp.store3 0 rfl (.int .i64 0) (.slice A1 S.length c1) (.slice A2 T.length c2)))
        obtain ⟨⟨r0, r1, r2⟩, -⟩ := (HM16.out.blk 0 rfl).all3
        go_wp2
        refine bodyPost_ret (v := .agg #[.int .i64 0, .slice A1 S.length c1, .slice A2 T.length c2]) (by simp [results, Try.results156, go_sem, r0, r1, r2]) rfl ?_
        exact ⟨0, S, T, A1, c1, A2, c2, q1, rfl, HS4.out, HT5.out, HM16.out.ints 1 rfl, HM16.out.ints 2 rfl, HM16.out.hp.apart 1 2 rfl rfl (by omega), HQ.out, HM16.out.rd, HM16.out.grew⟩
      · obtain ⟨⟨x0, x1, x2⟩, -⟩ := (HM13.out.blk 3 rfl).all3
        obtain ⟨⟨y0, y1, y2⟩, yf0, yf1, yf2⟩ := (HM13.out.blk 0 rfl).all3
        have HM16 := hid (HM13.out.op (HM13.out.hp.store3 0 rfl (.int .i64 b) (.slice A1 S.length c1) (.slice A2 T.length c2)))
        obtain ⟨⟨r0, r1, r2⟩, -⟩ := (HM16.out.blk 0 rfl).all3
        go_wp2
        refine bodyPost_ret (v := .agg #[.int .i64 b, .slice A1 S.length c1, .slice A2 T.length c2]) (by simp [results, Try.results156, go_sem, r0, r1, r2]) rfl ?_
        exact ⟨b, S, T, A1, c1, A2, c2, q1, rfl, HS4.out, HT5.out, HM16.out.ints 1 rfl, HM16.out.ints 2 rfl, HM16.out.hp.apart 1 2 rfl rfl (by omega), HQ.out, HM16.out.rd, HM16.out.grew⟩

end Go.Proofs.Ytldblcolnjkcaaa

/-! ## VV2 -/
namespace Go.Proofs.Ytldblcolnjkcaaa
open Go.RowKit

set_option maxRecDepth 100000 in
set_option maxHeartbeats 6400000 in
theorem someView_any (N g p : Nat) (w : World) (h : Rd N w g p) (hp : p ≤ 600000) :
    Calls Try.prog 116 #[.pointer (some ⟨g, 0, none⟩)] w (RetViewR N g p 100 6 w) := by
  have HM0 := hid ((Hr.start h).op ((Hr.start h).hp.alloc 43 #[.int .i64 0, .slice none 0 0, .slice none 0 0]))
  simp only [List.nil_append] at HM0
  go_enter Try.func116, Try.ntmps116
  go_upto_region 1 with fail
  clear h
  generalize (w.alloc (.cells #[.int .i64 0, .slice none 0 0, .slice none 0 0] 43)) = w0 at *
  go_wp2_with fail
  refine (goodView_any N g p _ HM0.out.rd (by omega)).mono ?_; rintro e w1 ⟨b, S, T, A1, c1, A2, c2, q, rfl, hS, hT, ho, ht, hs, hq, hR, hG⟩
  have HM1 := hid (HM0.out.drawn ho ht hs hR hG)
  have HST := hid (And.intro hS (Nat.le_succ_of_le hT))
  have HT5 := hid hT
  clear ho ht hs hR hG HM0 hS hT
  have HM2 := hid (HM1.out.op (HM1.out.hp.alloc 43 #[.int .i64 b, .slice A1 S.length c1, .slice A2 T.length c2]))
  simp only [List.cons_append, List.nil_append] at HM2
  clear HM1
  go_upto_region 2 with fail
  generalize (w1.alloc (.cells #[.int .i64 b, .slice A1 S.length c1, .slice A2 T.length c2] 43)) = w2 at *
  generalize w1.heap.size = g3 at *
  go_wp2_with fail
  refine (pick_any _ _ (q) 24 _ HM2.out.rd (by omega) (by omega)).mono ?_; rintro e w3 ⟨r, rfl, hr, hR, hG⟩
  have HM3 := hid (HM2.out.ate hR hG)
  clear hR hG
  clear HM2
  obtain ⟨⟨x0, x1, x2⟩, xf0, xf1, xf2⟩ := (HM3.out.blk 3 rfl).all3
  by_cases h0 : r = 0
  · have h0i : ((r : Int) == 0) = true := by simp [h0]
    clear h0 x0 x1 x2 xf0 xf1 xf2
    have hL : Own (w3.alloc (.cells #[.int .i64 (-1), .int .i64 60, .int .i64 61] 3)) w3.heap.size (.slice (some ⟨w3.heap.size, 0, none⟩) 3 3) [-1, 60, 61] := own_lit w3 [-1, 60, 61] (by simp)
    have HA := hid (HM3.out.nx (below_alloc w3 (.cells #[.int .i64 (-1), .int .i64 60, .int .i64 61] 3)))
    have HE := hid (HM3.out.rd.lit 3 3)
    go_wp2_with fail
    refine (one_any _ _ (q + 1) _ _ _ _ HA.out.rd (by omega) hL (by simp) HE.out).mono ?_; rintro e w4 ⟨r, hr, rfl, hR, hG⟩
    have HM4 := hid (HA.out.ate hR hG)
    obtain ⟨y, ey, hy⟩ : ∃ y : Int, [-1, 60, 61][r] = y ∧ y ∈ ([-1, 60, 61] : List Int) := ⟨_, rfl, List.getElem_mem hr⟩
    rw [ey]
    clear hR hG ey hr hL HA HE
    obtain ⟨⟨x0, x1, x2⟩, xf0, xf1, xf2⟩ := (HM4.out.blk 3 rfl).all3
    have HM5 := hid (HM4.out.op (HM4.out.hp.store 3 rfl 0 (.int .i64 y)))
    simp only [List.set_cons_succ, List.set_cons_zero, List.setIfInBounds_toArray] at HM5
    go_upto_region 10 with fail
    clear x0 x1 x2 xf0 xf1 xf2 HM3 HM4 hy
    generalize w4.setCell ⟨g3, 0, none⟩ (.int .i64 y) = w5 at *
    obtain ⟨⟨x0, x1, x2⟩, -⟩ := (HM5.out.blk 3 rfl).all3
    obtain ⟨⟨y0, y1, y2⟩, yf0, yf1, yf2⟩ := (HM5.out.blk 0 rfl).all3
    have HF := hid (HM5.out.op (HM5.out.hp.store3 0 rfl (.int .i64 y) (.slice A1 S.length c1) (.slice A2 T.length c2)))
    obtain ⟨⟨r0, r1, r2⟩, -⟩ := (HF.out.blk 0 rfl).all3
    go_wp2
    refine bodyPost_ret (v := .agg #[.int .i64 y, .slice A1 S.length c1, .slice A2 T.length c2]) (by simp [results, Try.results116, go_sem, r0, r1, r2]) rfl ?_
    exact ⟨y, S, T, A1, c1, A2, c2, q + 1 + 1, rfl, HST.out.1, HST.out.2, HF.out.ints 1 rfl, HF.out.ints 2 rfl, HF.out.hp.apart 1 2 rfl rfl (by omega), by omega, HF.out.rd, HF.out.grew⟩
  · have h0i : ((r : Int) == 0) = false := by simp; omega
    by_cases h1 : r = 1
    · have h1i : ((r : Int) == 1) = true := by simp [h1]
      clear h0 h1
      have HLN := hid (show T.length ≤ 1000000000000 by have := HST.out.2; omega)
      obtain ⟨⟨xx0, xx1, xx2⟩, -⟩ := ((HM3.out.blk 3 rfl).alloc (.cells #[.int .i64 1] 3)).all3
      go_wp2_with (at_builtin; refine app1 _ rfl _ _ rfl w.heap.size _ T rfl ((HM3.out.ints 2 rfl).alloc _) ⟨w3.heap.size, 0, none⟩ 1 1 rfl (cell_new1 _ _ _) HLN.out (le_alloc HM3.out.sz _) ?_)
      intro v9 w9 ho9 hg9 hat9
      rw [← World.size_alloc w3 (.cells #[.int .i64 1] 3)] at hat9
      have H9 := HM3.out.nx (below_alloc w3 (.cells #[.int .i64 1] 3))
      have HM9 := hid (H9.op (H9.hp.grown 2 rfl ho9 hg9 hat9))
      simp only [List.set_cons_succ, List.set_cons_zero] at HM9
      obtain ⟨A9, c9, e9⟩ := ho9.form
      rw [List.length_append, List.length_singleton] at e9
      subst e9
      clear ho9 hg9 hat9 H9 x0 x1 x2 xf0 xf1 xf2 xx0 xx1 xx2 HM3
      obtain ⟨⟨x0, x1, x2⟩, xf0, xf1, xf2⟩ := (HM9.out.blk 3 rfl).all3
      have HM5 := hid (HM9.out.op (HM9.out.hp.store 3 rfl 2 (.slice A9 (T.length + 1) c9)))
      simp only [List.set_cons_succ, List.set_cons_zero, List.setIfInBounds_toArray] at HM5
      go_upto_region 10 with fail
      clear x0 x1 x2 xf0 xf1 xf2 HM9
      generalize w9.setCell ⟨g3, 2, none⟩ (.slice A9 (T.length + 1) c9) = w5 at *
      obtain ⟨⟨x0, x1, x2⟩, -⟩ := (HM5.out.blk 3 rfl).all3
      obtain ⟨⟨y0, y1, y2⟩, yf0, yf1, yf2⟩ := (HM5.out.blk 0 rfl).all3
      have HF := hid (HM5.out.op (HM5.out.hp.store3 0 rfl (.int .i64 b) (.slice A1 S.length c1) (.slice A9 (T.length + 1) c9)))
      obtain ⟨⟨r0, r1, r2⟩, -⟩ := (HF.out.blk 0 rfl).all3
      go_wp2
      refine bodyPost_ret (v := .agg #[.int .i64 b, .slice A1 S.length c1, .slice A9 (T.length + 1) c9]) (by simp [results, Try.results116, go_sem, r0, r1, r2]) rfl ?_
      have HL5 := hid (show S.length ≤ 4 ∧ (T ++ [(1 : Int)]).length = T.length + 1 ∧ T.length ≤ 5 from ⟨HST.out.1, by simp, HT5.out⟩)
      exact ⟨b, S, T ++ [1], A1, c1, A9, c9, q + 1, by rw [HL5.out.2.1], HST.out.1, by have := HL5.out; omega, HF.out.ints 1 rfl, by rw [HL5.out.2.1]; exact HF.out.ints 2 rfl, by rw [HL5.out.2.1]; exact HF.out.hp.apart 1 2 rfl rfl (by omega), by omega, HF.out.rd, HF.out.grew⟩
    · have h1i : ((r : Int) == 1) = false := by simp; omega
      by_cases h2 : r = 2
      · have h2i : ((r : Int) == 2) = true := by simp [h2]
        clear h0 h1 h2
        by_cases hT0 : 0 < T.length
        · have hTi : (0 : Int) < (T.length : Int) := by omega
          obtain ⟨gt, c6, e6, -, -⟩ := (HM3.out.ints 2 rfl).row hT0
          simp only [Value.slice.injEq, true_and] at e6
          obtain ⟨rfl, rfl⟩ := e6
          go_upto_region 9 with fail
          obtain ⟨⟨yy0, yy1, yy2⟩, -⟩ := ((HM3.out.blk 3 rfl).alloc (.cells #[.int .i64 61, .int .i64 (-61), .int .i64 60] 3)).all3
          have hL : Own (w3.alloc (.cells #[.int .i64 61, .int .i64 (-61), .int .i64 60] 3)).drew w3.heap.size (.slice (some ⟨w3.heap.size, 0, none⟩) 3 3) [61, -61, 60] := (own_lit w3 [61, -61, 60] (by simp)).drew
          have HMA := hid (HM3.out.nx ((below_alloc w3 (.cells #[.int .i64 61, .int .i64 (-61), .int .i64 60] 3)).drew))
          have HE := hid (HM3.out.rd.lit 3 3)
          go_region_law (first
            | (rw [if_pos (wanted_of (by rfl))]; go_simp; go_at_call 88; refine (one_any N g (q + 1) _ _ _ _ HMA.out.rd (by omega) hL (by simp) HE.out).mono ?_; rintro e w14 ⟨r9, hr9, rfl, hR, hG⟩
               obtain ⟨y, ey⟩ : ∃ y : Int, [61, -61, 60][r9] = y := ⟨_, rfl⟩
               rw [ey]
               have HM14 := hid (HMA.out.ate hR hG)
               obtain ⟨⟨z0, z1, z2⟩, -⟩ := (HM14.out.blk 3 rfl).all3
               have hv0 := (HM14.out.ints 2 rfl).cell 0 hT0
               have hvf := (HM14.out.ints 2 rfl).free 0
               clear hR hG ey hr9
               go_simp))
          all_goals
            have HM5 := hid (HM14.out.op (HM14.out.hp.put 2 rfl 0 y))
            simp only [List.set_cons_succ, List.set_cons_zero] at HM5
            clear x0 x1 x2 xf0 xf1 xf2 yy0 yy1 yy2
            obtain ⟨⟨x0, x1, x2⟩, -⟩ := (HM5.out.blk 3 rfl).all3
            obtain ⟨⟨y0, y1, y2⟩, yf0, yf1, yf2⟩ := (HM5.out.blk 0 rfl).all3
            have HF := hid (HM5.out.op (HM5.out.hp.store3 0 rfl (.int .i64 b) (.slice A1 S.length c1) (.slice (some ⟨gt, 0, none⟩) T.length c2)))
            obtain ⟨⟨r0, r1, r2⟩, -⟩ := (HF.out.blk 0 rfl).all3
            go_wp2
            refine bodyPost_ret (v := .agg #[.int .i64 b, .slice A1 S.length c1, .slice (some ⟨gt, 0, none⟩) T.length c2]) (by simp [results, Try.results116, go_sem, r0, r1, r2]) rfl ?_
            exact ⟨b, S, T.set 0 y, A1, c1, some ⟨gt, 0, none⟩, c2, q + 1 + 1, by rw [List.length_set], HST.out.1, by rw [List.length_set]; exact HST.out.2, HF.out.ints 1 rfl, by rw [List.length_set]; exact HF.out.ints 2 rfl, by rw [List.length_set]; exact HF.out.hp.apart 1 2 rfl rfl (by omega), by omega, HF.out.rd, HF.out.grew⟩
        · have hTi : ¬ (0 : Int) < (T.length : Int) := by omega
          clear x0 x1 x2 xf0 xf1 xf2
          obtain ⟨⟨x0, x1, x2⟩, -⟩ := (HM3.out.blk 3 rfl).all3
          obtain ⟨⟨y0, y1, y2⟩, yf0, yf1, yf2⟩ := (HM3.out.blk 0 rfl).all3
          have HF := hid (HM3.out.op (HM3.out.hp.store3 0 rfl (.int .i64 b) (.slice A1 S.length c1) (.slice A2 T.length c2)))
          obtain ⟨⟨r0, r1, r2⟩, -⟩ := (HF.out.blk 0 rfl).all3
          go_wp2
          refine bodyPost_ret (v := .agg #[.int .i64 b, .slice A1 S.length c1, .slice A2 T.length c2]) (by simp [results, Try.results116, go_sem, r0, r1, r2]) rfl ?_
          exact ⟨b, S, T, A1, c1, A2, c2, q + 1, rfl, HST.out.1, HST.out.2, HF.out.ints 1 rfl, HF.out.ints 2 rfl, HF.out.hp.apart 1 2 rfl rfl (by omega), by omega, HF.out.rd, HF.out.grew⟩
      · have h2i : ((r : Int) == 2) = false := by simp; omega
        clear h0 h1 h2 x0 x1 x2 xf0 xf1 xf2
        obtain ⟨⟨x0, x1, x2⟩, -⟩ := (HM3.out.blk 3 rfl).all3
        obtain ⟨⟨y0, y1, y2⟩, yf0, yf1, yf2⟩ := (HM3.out.blk 0 rfl).all3
        have HF := hid (HM3.out.op (HM3.out.hp.store3 0 rfl (.int .i64 b) (.slice A1 S.length c1) (.slice A2 T.length c2)))
        obtain ⟨⟨r0, r1, r2⟩, -⟩ := (HF.out.blk 0 rfl).all3
        go_wp2
        refine bodyPost_ret (v := .agg #[.int .i64 b, .slice A1 S.length c1, .slice A2 T.length c2]) (by simp [results, Try.results116, go_sem, r0, r1, r2]) rfl ?_
        exact ⟨b, S, T, A1, c1, A2, c2, q + 1, rfl, HST.out.1, HST.out.2, HF.out.ints 1 rfl, HF.out.ints 2 rfl, HF.out.hp.apart 1 2 rfl rfl (by omega), by omega, HF.out.rd, HF.out.grew⟩

/-- What DrawValidView leaves. -/
def RetDrawV (w : World) (e : Ending) (w' : World) : Prop := ∃ (b : Int) (S T : List Int) (A : Option Addr) (c : Nat) (B : Option Addr) (d : Nat),
  e = .returned (.agg #[.int .i64 b, .slice A S.length c, .slice B T.length d]) ∧ S.length ≤ 4 ∧ T.length ≤ 6 ∧ Ints w' (.slice A S.length c) S ∧ Ints w' (.slice B T.length d) T ∧ Below w.heap.size w w'
theorem drawv_done {g q : Nat} {w w1 wx : World} {b : Int} {S T : List Int} {A : Option Addr} {c : Nat} {B : Option Addr} {d : Nat} (hB : Below w.heap.size w w1) (H : Hr g g q w1 wx [.ints (.slice A S.length c) S, .ints (.slice B T.length d) T]) (hg : w.heap.size < g)
    (h1 : S.length ≤ 4) (h2 : T.length ≤ 6) (x y z : Value) : RetDrawV w (.returned (.agg #[.int .i64 b, .slice A S.length c, .slice B T.length d])) (((wx.setCell ⟨w.heap.size, 0, none⟩ x).setCell ⟨w.heap.size, 1, none⟩ y).setCell ⟨w.heap.size, 2, none⟩ z) := by
  have hlt := H.lt
  have k : ∀ {u : Value} {xs : List Int}, Own wx w1.heap.size u xs → Ints (((wx.setCell ⟨w.heap.size, 0, none⟩ x).setCell ⟨w.heap.size, 1, none⟩ y).setCell ⟨w.heap.size, 2, none⟩ z) u xs := fun h =>
    (((h.far (p := ⟨w.heap.size, 0, none⟩) (by show w.heap.size < w1.heap.size; omega) x).far (p := ⟨w.heap.size, 1, none⟩) (by show w.heap.size < w1.heap.size; omega) y).far (p := ⟨w.heap.size, 2, none⟩) (by show w.heap.size < w1.heap.size; omega) z).ints
  exact ⟨b, S, T, A, c, B, d, rfl, h1, h2, k (H.ints 0 rfl), k (H.ints 1 rfl), below3 (hB.trans (Own.below H.grew (by omega) (fun k e => by injection e with e; omega))) (Nat.le_refl _) _ _ _⟩

set_option maxRecDepth 100000 in
set_option maxHeartbeats 6400000 in
theorem DrawValidView_any (v : Value) (n : Nat) (w : World) (h : BytesV w v n) :
    Calls Try.prog 38 #[v] w (RetDrawV w) := by
  have hb0 := below_alloc w (.cells #[.int .i64 0, .slice none 0 0, .slice none 0 0] 43)
  have hZ := Blk.new w 43 #[.int .i64 0, .slice none 0 0, .slice none 0 0]
  have h1 := h.ext hb0
  have hz0 : w.heap.size + 1 ≤ (w.alloc (.cells #[.int .i64 0, .slice none 0 0, .slice none 0 0] 43)).heap.size := by simp
  go_enter Try.func38, Try.ntmps38
  go_wp2_with fail
  generalize (w.alloc (.cells #[.int .i64 0, .slice none 0 0, .slice none 0 0] 43)) = w0 at *
  refine (newReader_any _ n _ h1).mono ?_; rintro e w1 ⟨rfl, hR, hb1, hlt⟩
  have hZ1 := hZ.nx hb1
  have HB1 := hid (hb0.nx hb1 hb0.size)
  have HM0 := hid (Hr.start hR)
  generalize w0.heap.size = g at *
  have HZ1 := hid hZ1
  have hgz : w.heap.size < g := by omega
  clear hZ hZ1 hb0 hb1 h1 hz0 h hR hlt
  go_wp2_with fail
  refine (someView_any g g 0 _ HM0.out.rd (by omega)).mono ?_; rintro e w2 ⟨b, S, T, A1, c1, A2, c2, q, rfl, hS, hT, ho, ht, hs, hq, hR, hG⟩
  have HM1 := hid (HM0.out.drawn ho ht hs hR hG)
  have HST := hid (And.intro hS hT)
  obtain ⟨⟨y0, y1, y2⟩, yf0, yf1, yf2⟩ := (HZ1.out.grown HM1.out.grew (by omega)).all3
  obtain ⟨⟨r0, r1, r2⟩, -⟩ := ((HZ1.out.grown HM1.out.grew (by omega)).store3 (.int .i64 b) (.slice A1 S.length c1) (.slice A2 T.length c2)).all3
  have HF := hid (drawv_done (b := b) HB1.out HM1.out hgz HST.out.1 HST.out.2 (.int .i64 b) (.slice A1 S.length c1) (.slice A2 T.length c2))
  clear ho ht hs hR hG HM0 hS hT HM1
  go_wp2
  refine bodyPost_ret (v := .agg #[.int .i64 b, .slice A1 S.length c1, .slice A2 T.length c2]) (by simp [results, Try.results38, go_sem, r0, r1, r2]) rfl ?_
  exact HF.out

end Go.Proofs.Ytldblcolnjkcaaa

/-! ## C5a -/
namespace Go.Proofs.Ytldblcolnjkcaaa
open Go.RowKit
set_option maxHeartbeats 400000 in
theorem OffsetsOf_any (v : Value) (V : VL) (w : World) (hv : ViewV w v V) :
    Calls Try.prog 34 #[v] w (RetOwn w (offsOf V)) := by
  have hv0 := hv
  obtain ⟨sv, tv, rfl, hsv, htv⟩ := hv
  have hB := Blk.new w 43 #[.int .i64 V.base, sv, tv]
  have hv1 := hv0.ext (below_alloc w (.cells #[.int .i64 V.base, sv, tv] 43))
  cases c : isViewL V
  · have HQ := hid (show offsOf V = [] by simp [offsOf, c])
    go_enter Try.func34, Try.ntmps34
    go_wp2_with fail
    refine (isView_any _ V _ hv1).mono ?_; rintro e w1 ⟨rfl, hb1⟩
    go_wp2
    go_ret
    exact ⟨_, rfl, by rw [HQ.out]; exact Own.nil _ _, (below_alloc w _).trans (hb1.mono (by simp))⟩
  · have HQ := hid (show offsOf V = offs V by simp [offsOf, c])
    have HV := hid (isViewL_and c)
    go_enter Try.func34, Try.ntmps34
    go_wp2_with fail
    refine (isView_any _ V _ hv1).mono ?_; rintro e w1 ⟨rfl, hb1⟩
    obtain ⟨⟨q0, q1, q2⟩, -⟩ := (hB.ext hb1 (by simp)).all3
    go_wp2_with fail
    refine (offsetsOf_any _ V _ (hv1.ext hb1) HV.out.1 HV.out.2.1).mono ?_; rintro e w2 ⟨r, rfl, ho, hb2⟩
    go_wp2
    go_ret
    have hb01 : Below w.heap.size w w1 := (below_alloc w _).trans (hb1.mono (by simp))
    exact ⟨_, rfl, by rw [HQ.out]; exact ho.mono hb01.size, bstep hb01 hb2 hb01.size⟩

end Go.Proofs.Ytldblcolnjkcaaa

/-! ## VV4 -/
namespace Go.Proofs.Ytldblcolnjkcaaa
open Go.RowKit

set_option maxRecDepth 100000 in
set_option maxHeartbeats 6400000 in
theorem iValidView_any (v : Value) (V : VL) (w : World) (h : ViewV w v V) :
    Calls Try.prog 37 #[v] w fun e w' => e = .returned (.bool (isViewL V)) ∧ Below w.heap.size w w' := by
  have h0 := h
  obtain ⟨s1, t1, rfl, hs1, ht1⟩ := h
  have hb0 := below_alloc w (.cells #[.int .i64 V.base, s1, t1] 43)
  have hZ := Blk.new w 43 #[.int .i64 V.base, s1, t1]
  go_enter Try.func37, Try.ntmps37
  go_upto_region 1 with fail
  generalize w.alloc (.cells #[.int .i64 V.base, s1, t1] 43) = w0 at *
  obtain ⟨⟨q0, q1, q2⟩, -⟩ := id hZ.all3
  go_wp2_with fail
  refine (isView_any _ V _ (h0.nx hb0)).mono ?_; rintro e w1 ⟨rfl, hb⟩
  go_wp2
  go_ret
  exact ⟨rfl, hb0.nx hb hb0.size⟩
set_option maxRecDepth 100000 in
set_option maxHeartbeats 6400000 in
theorem sValidView_any (v : Value) (V : VL) (w : World) (h : ViewV w v V) :
    Calls Try.prog 39 #[v] w fun e w' => e = .returned (.bool (isViewL V)) ∧ Below w.heap.size w w' := by
  have h0 := h
  obtain ⟨s1, t1, rfl, hs1, ht1⟩ := h
  have hb0 := below_alloc w (.cells #[.int .i64 V.base, s1, t1] 43)
  have hZ := Blk.new w 43 #[.int .i64 V.base, s1, t1]
  go_enter Try.func39, Try.ntmps39
  go_upto_region 1 with fail
  generalize w.alloc (.cells #[.int .i64 V.base, s1, t1] 43) = w0 at *
  obtain ⟨⟨q0, q1, q2⟩, -⟩ := id hZ.all3
  go_wp2_with fail
  refine (validView_any _ V _ (h0.nx hb0)).mono ?_; rintro e w1 ⟨rfl, hb⟩
  go_wp2
  go_ret
  exact ⟨rfl, hb0.nx hb hb0.size⟩
theorem count_offs {V : VL} (h : isViewL V = true) : countL V.shape = ((offs V).length : Int) := by
  have hs := (isViewL_and h).1
  have hp := shape_prod hs
  rw [countL, if_pos hs, offs_length]
  omega

set_option maxRecDepth 100000 in
set_option maxHeartbeats 6400000 in
theorem FnValidView_walk (v : Value) (n : Nat) (w : World) (h : BytesV w v n) :
    Calls Try.prog 6 #[v] w fun e w' => e = .returned (.bool true) ∧ Below w.heap.size w w' := by
  have hv := h
  obtain ⟨A, c, rfl, h1, h2, -⟩ := h
  by_cases hn : 1048576 < n
  · have hni : (1048576 : Int) < (n : Int) := by omega
    go_enter Try.func6, Try.ntmps6
    go_wp2
    go_ret
    exact ⟨rfl, Below.refl _ _⟩
  have hni : ¬ (1048576 : Int) < (n : Int) := by omega
  go_enter Try.func6, Try.ntmps6
  go_wp2_with fail
  refine (DrawValidView_any _ n _ hv).mono ?_; rintro e w1 ⟨b, S, T, A1, c1, A2, c2, rfl, hS, hT, hIS, hIT, hz⟩
  clear h1 h2 hv
  have hb := below_alloc w1 (.cells #[.int .i64 b, .slice A1 S.length c1, .slice A2 T.length c2] 43)
  have HZ := hid (hz.nx hb hz.size)
  have HV2 := hid ((show ViewV w1 (.agg #[.int .i64 b, .slice A1 S.length c1, .slice A2 T.length c2]) ⟨b, S, T⟩ from ⟨_, _, rfl, hIS, hIT⟩).ext hb)
  have HIS := hid (hIS.ext hb)
  have hA := Blk.new w1 43 #[.int .i64 b, .slice A1 S.length c1, .slice A2 T.length c2]
  clear hz hIS hIT hb hS hT
  go_upto_region 4 with fail
  generalize (w1.alloc (.cells #[.int .i64 b, .slice A1 S.length c1, .slice A2 T.length c2] 43)) = w2 at *
  generalize w1.heap.size = g3 at *
  have HA := hid hA
  obtain ⟨⟨q0, q1, q2⟩, -⟩ := id hA.all3
  clear hA
  go_wp2_with fail
  refine (iValidView_any _ ⟨b, S, T⟩ _ HV2.out).mono ?_; rintro e w3 ⟨rfl, hb⟩
  have HB3 := hid hb
  obtain ⟨v, hv⟩ : ∃ v, isViewL ⟨b, S, T⟩ = v := ⟨_, rfl⟩
  have HV := hid hv
  rw [hv]
  clear hv hb q0 q1 q2
  obtain ⟨⟨q0, q1, q2⟩, -⟩ := id (HA.out.nx HB3.out).all3
  go_wp2_with fail
  refine (sValidView_any _ ⟨b, S, T⟩ _ (HV2.out.ext HB3.out)).mono ?_; rintro e w4 ⟨rfl, hb⟩
  have HB4 := hid (HB3.out.nx hb HB3.out.size)
  rw [HV.out]
  clear hb q0 q1 q2 HB3
  obtain ⟨⟨q0, q1, q2⟩, -⟩ := id (HA.out.nx HB4.out).all3
  cases v
  · go_wp2_with fail
    refine (sValidView_any _ ⟨b, S, T⟩ _ (HV2.out.ext HB4.out)).mono ?_; rintro e w5 ⟨rfl, hb⟩
    have HB5 := hid (HZ.out.nx (HB4.out.nx hb HB4.out.size) HZ.out.size)
    rw [HV.out]
    clear hb
    go_wp2
    go_ret
    exact ⟨rfl, HB5.out⟩
  · have HCO := hid (count_offs HV.out)
    have HIN := hid (isViewL_and HV.out).2.2.2.2
    have HL60 := hid (show (offs ⟨b, S, T⟩).length ≤ 60 by rw [offs_length]; have := shape_prod (isViewL_and HV.out).1; omega)
    go_wp2_with fail
    refine (OffsetsOf_any _ ⟨b, S, T⟩ _ (HV2.out.ext HB4.out)).mono ?_; rintro e w5 ⟨u, rfl, ho, hb⟩
    have ho : Own w5 w4.heap.size u (offs ⟨b, S, T⟩) := by rw [show offs ⟨b, S, T⟩ = offsOf ⟨b, S, T⟩ by rw [offsOf, if_pos HV.out]]; exact ho
    obtain ⟨L, hL⟩ : ∃ L, offs ⟨b, S, T⟩ = L := ⟨_, rfl⟩
    rw [hL] at ho HIN HCO HL60
    have HB5 := hid (HB4.out.nx hb HB4.out.size)
    have HO := hid ho.ints
    obtain ⟨A5, c5, e5⟩ := ho.form
    subst e5
    clear hb ho hL q0 q1 q2
    obtain ⟨⟨q0, q1, q2⟩, -⟩ := id (HA.out.nx HB5.out).all3
    go_upto_region 9 with fail
    go_loopg [6] L.length (fun m i wr => ∃ k : Nat, k ≤ L.length ∧ m = L.length - k ∧ i = .int .i64 k ∧ wr = w5)
    case atStart => exact ⟨0, Nat.zero_le _, rfl, rfl, rfl⟩
    case round =>
      obtain ⟨k, hk, rfl, rfl, rfl⟩ := hrel
      by_cases hlt : k < L.length
      · have hki : (k : Int) < (L.length : Int) := by omega
        obtain ⟨bL, oL, rfl, x0⟩ := HO.out.elem k hlt
        have hin := inR_iff.1 (List.all_eq_true.1 HIN.out _ (List.getElem_mem hlt))
        obtain ⟨E, hE⟩ : ∃ E, L[k] = E := ⟨_, rfl⟩
        rw [hE] at x0 hin
        clear hE
        have hE0 : ¬ E < 0 := by omega
        have hE6 : E < 60 := by omega
        have hwk : IntKind.i64.wrap ((k : Int) + 1) = (k : Int) + 1 := IntWalk.i64_in _ (by have := HL60.out; omega)
        go_wp2
        go_roundg (L.length - (k + 1))
        case measure => omega
        case rel => exact ⟨k + 1, by omega, rfl, by congr 1, rfl⟩
      · have hki : ¬ (k : Int) < (L.length : Int) := by omega
        go_wp2_with fail
        refine (CountOf_any _ S _ (HIS.out.ext HB5.out)).mono ?_; rintro e w6 ⟨rfl, rfl⟩
        rw [show countL S = (L.length : Int) from HCO.out]
        have HF := hid (HZ.out.nx HB5.out HZ.out.size)
        go_wp2
        go_ret
        exact ⟨by simp, HF.out⟩

end Go.Proofs.Ytldblcolnjkcaaa
