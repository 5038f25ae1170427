/- Contracts: bounds of views, bounds that meet. No conditions. -/
import Derived.Test.YtpcahfdpbbcapaaC7
import Derived.Outline
namespace Go.Proofs.Ytpcahfdpbbcapaa
open Go.RowKit

set_option maxRecDepth 100000 in
set_option maxHeartbeats 400000 in
theorem BoundsOf_any (v : Value) (V : VL) (w : World) (hv : ViewV w v V) :
    Calls Try.prog 37 #[v] w fun e w' => e = .returned (.tuple #[.int .i64 (loB V), .int .i64 (hiB V)]) ∧ Below w.heap.size w w' := by
  have hv0 := hv
  obtain ⟨sv, tv, rfl, hsv, htv⟩ := hv
  have hB := Blk.new w 36 #[.int .i64 V.base, sv, tv]
  have hW := below_alloc w (.cells #[.int .i64 V.base, sv, tv] 36)
  cases c : isViewL V
  · have HQ := hid (show loB V = -1 ∧ hiB V = -1 by simp [loB, hiB, hasCells, c])
    go_enter Try.func37, Try.ntmps37
    go_wp2_with fail
    refine (isView_any _ V _ (hv0.ext hW)).mono ?_; rintro e w1 ⟨rfl, hb1⟩
    go_wp2
    go_ret2
    exact ⟨by rw [HQ.out.1, HQ.out.2]; rfl, hW.trans (hb1.mono hW.size)⟩
  have HV := hid (isViewL_and c)
  have HP := hid (shape_prod HV.out.1)
  cases d : (prodW V.shape == 0)
  rotate_left
  · have HQ := hid (show loB V = -1 ∧ hiB V = -1 by simp [loB, hiB, hasCells, c, d])
    go_enter Try.func37, Try.ntmps37
    go_wp2_with fail
    refine (isView_any _ V _ (hv0.ext hW)).mono ?_; rintro e w1 ⟨rfl, hb1⟩
    obtain ⟨⟨q0, q1, q2⟩, -⟩ := (hB.ext hb1 (by simp)).all3
    have hb01 : Below w.heap.size w w1 := hW.trans (hb1.mono hW.size)
    go_wp2_with fail
    refine (countOf_any _ V.shape _ (hsv.ext hb01)).mono ?_; rintro e w2 ⟨rfl, rfl⟩
    go_wp2
    go_ret2
    exact ⟨by rw [HQ.out.1, HQ.out.2]; rfl, hb01⟩
  · have HQ := hid (show loB V = minI (offs V) ∧ hiB V = maxI (offs V) by simp [loB, hiB, hasCells, c, d])
    have hn : 0 < (offs V).length := by
      have h1 := HP.out
      have h2 : prodW V.shape ≠ 0 := by simpa using d
      simp [offs]; omega
    go_enter Try.func37, Try.ntmps37
    go_wp2_with fail
    refine (isView_any _ V _ (hv0.ext hW)).mono ?_; rintro e w1 ⟨rfl, hb1⟩
    have hB1 := hB.ext hb1 (by simp)
    obtain ⟨⟨q0, q1, q2⟩, -⟩ := hB1.all3
    have hb01 : Below w.heap.size w w1 := hW.trans (hb1.mono hW.size)
    go_wp2_with fail
    refine (countOf_any _ V.shape _ (hsv.ext hb01)).mono ?_; rintro e w2 ⟨rfl, rfl⟩
    go_wp2_with fail
    refine (offsetsOf_any _ V _ (hv0.ext hb01) HV.out.1 HV.out.2.1).mono ?_; rintro e w2 ⟨r, rfl, ho, hb2⟩
    have hb02 := bstep hb01 hb2 hb01.size
    go_wp2_with fail
    refine (Min_any _ (offs V) _ ho.ints hn).mono ?_; rintro e w3 ⟨rfl, rfl⟩
    go_wp2_with fail
    refine (Max_any _ (offs V) _ ho.ints hn).mono ?_; rintro e w3 ⟨rfl, rfl⟩
    go_wp2
    go_ret2
    exact ⟨by rw [HQ.out.1, HQ.out.2]; rfl, hb02⟩

set_option maxRecDepth 100000 in
set_option maxHeartbeats 400000 in
theorem sBoundsOf_any (v : Value) (V : VL) (w : World) (hv : ViewV w v V) :
    Calls Try.prog 36 #[v] w fun e w' => e = .returned (.tuple #[.int .i64 (loB V), .int .i64 (hiB V)]) ∧ Below w.heap.size w w' := by
  have hv0 := hv
  obtain ⟨sv, tv, rfl, hsv, htv⟩ := hv
  have hB := Blk.new w 36 #[.int .i64 V.base, sv, tv]
  have hW := below_alloc w (.cells #[.int .i64 V.base, sv, tv] 36)
  cases c : isViewL V
  · have HQ := hid (show loB V = -1 ∧ hiB V = -1 by simp [loB, hiB, hasCells, c])
    go_enter Try.func36, Try.ntmps36
    go_wp2_with fail
    refine (validView_any _ V _ (hv0.ext hW)).mono ?_; rintro e w1 ⟨rfl, hb1⟩
    go_wp2
    go_ret2
    exact ⟨by rw [HQ.out.1, HQ.out.2]; rfl, hW.trans (hb1.mono hW.size)⟩
  have HV := hid (isViewL_and c)
  have HP := hid (shape_prod HV.out.1)
  cases d : (prodW V.shape == 0)
  rotate_left
  · have HQ := hid (show loB V = -1 ∧ hiB V = -1 by simp [loB, hiB, hasCells, c, d])
    go_enter Try.func36, Try.ntmps36
    go_wp2_with fail
    refine (validView_any _ V _ (hv0.ext hW)).mono ?_; rintro e w1 ⟨rfl, hb1⟩
    obtain ⟨⟨q0, q1, q2⟩, -⟩ := (hB.ext hb1 (by simp)).all3
    have hb01 : Below w.heap.size w w1 := hW.trans (hb1.mono hW.size)
    go_wp2_with fail
    refine (count_any _ V.shape _ (hsv.ext hb01)).mono ?_; rintro e w2 ⟨rfl, rfl⟩
    go_wp2
    go_ret2
    exact ⟨by rw [HQ.out.1, HQ.out.2]; rfl, hb01⟩
  · have HQ := hid (show loB V = minI (offs V) ∧ hiB V = maxI (offs V) by simp [loB, hiB, hasCells, c, d])
    have hn : 0 < (offs V).length := by
      have h1 := HP.out
      have h2 : prodW V.shape ≠ 0 := by simpa using d
      simp [offs]; omega
    go_enter Try.func36, Try.ntmps36
    go_wp2_with fail
    refine (validView_any _ V _ (hv0.ext hW)).mono ?_; rintro e w1 ⟨rfl, hb1⟩
    have hB1 := hB.ext hb1 (by simp)
    obtain ⟨⟨q0, q1, q2⟩, -⟩ := hB1.all3
    have hb01 : Below w.heap.size w w1 := hW.trans (hb1.mono hW.size)
    go_wp2_with fail
    refine (count_any _ V.shape _ (hsv.ext hb01)).mono ?_; rintro e w2 ⟨rfl, rfl⟩
    go_wp2_with fail
    refine (offsets_any _ V _ (hv0.ext hb01) HV.out.1 HV.out.2.1).mono ?_; rintro e w2 ⟨r, rfl, ho, hb2⟩
    have hb02 := bstep hb01 hb2 hb01.size
    obtain ⟨A, c', rfl, h1, h2, h3⟩ := ho.ints
    unfold maxLen at h2
    obtain ⟨b, off, rfl, hb, hc⟩ := h3 hn
    have h0 := hc 0 (offs V)[0] (by simp [hn])
    simp only [Nat.add_zero] at h0
    have HC := hid hc; clear hc h3 ho
    have HM := hid (hd0_get (offs V) hn)
    go_wp2
    go_loop [5, 6, 7] (fun m n i => ∃ k : Nat, k ≤ (offs V).length ∧ i = .int .i64 k ∧ m = .int .i64 (((offs V).take k).foldl mn (hd0 (offs V))) ∧ n = .int .i64 (((offs V).take k).foldl mx (hd0 (offs V)))) (fun _ _ i => (offs V).length - (intOf i).toNat)
    case atStart => exact ⟨0, Nat.zero_le _, rfl, by rw [HM.out]; rfl, by rw [HM.out]; rfl⟩
    case round =>
      obtain ⟨k, hk, rfl, rfl, rfl⟩ := hrel
      by_cases hlt : k < (offs V).length
      · have hx := HC.out k (offs V)[k] (by simp [hlt])
        have HS := hid (minI_snoc (offs V) k hlt)
        have HT := hid (maxI_snoc (offs V) k hlt)
        go_wp2
        go_round
        case rel => exact ⟨k + 1, by omega, by go_num, by rw [HS.out]; rfl, by rw [HT.out]; rfl⟩
        case measure => simp [intOf]; omega
      · have HE := hid (show k = (offs V).length by omega)
        go_wp2
        go_ret2
        refine ⟨?_, hb02⟩
        rw [HQ.out.1, HQ.out.2, List.take_of_length_le (by rw [HE.out]; exact Nat.le_refl _)]
        rfl

theorem foldl_mn_le (xs : List Int) (a : Int) : xs.foldl mn a ≤ a ∧ a ≤ xs.foldl mx a := by
  induction xs generalizing a with
  | nil => exact ⟨Int.le_refl _, Int.le_refl _⟩
  | cons x xs ih =>
    have h1 := (ih (mn a x)).1
    have h2 := (ih (mx a x)).2
    simp only [List.foldl_cons]
    constructor
    · have : mn a x ≤ a := by unfold mn; split <;> omega
      omega
    · have : a ≤ mx a x := by unfold mx; split <;> omega
      omega
theorem bnd_of (V : VL) : 0 ≤ loB V → loB V ≤ hiB V := by
  intro h
  unfold loB hiB at *
  split at h
  · rename_i hc
    rw [if_pos hc, if_pos hc]
    have := foldl_mn_le (offs V) (hd0 (offs V))
    unfold minI maxI
    omega
  · omega
theorem mayL_spec (A B : VL) : mayL A B = (decide (0 ≤ loB A) && decide (0 ≤ loB B) && decide (loB A ≤ hiB B) && decide (loB B ≤ hiB A)) := rfl
theorem mayL_impl (A B : VL) : mayL A B = (decide (0 ≤ loB A) && decide (0 ≤ loB B) && decide ((if loB A < loB B then loB B else loB A) ≤ (if hiB B < hiB A then hiB B else hiB A))) := by
  have h1 := bnd_of A
  have h2 := bnd_of B
  unfold mayL
  rw [Bool.eq_iff_iff]
  simp only [Bool.and_eq_true, decide_eq_true_eq]
  constructor
  · rintro ⟨⟨⟨a, b⟩, c⟩, d⟩
    have := h1 a; have := h2 b
    exact ⟨⟨a, b⟩, by split <;> split <;> omega⟩
  · rintro ⟨⟨a, b⟩, c⟩
    have := h1 a; have := h2 b
    refine ⟨⟨⟨a, b⟩, ?_⟩, ?_⟩ <;> (split at c <;> split at c <;> omega)

set_option maxRecDepth 100000 in
set_option maxHeartbeats 400000 in
theorem MayOverlap_any (a b : Value) (A B : VL) (w : World) (ha : ViewV w a A) (hb : ViewV w b B) :
    Calls Try.prog 39 #[a, b] w fun e w' => e = .returned (.bool (mayL A B)) ∧ Below w.heap.size w w' := by
  have ha0 := ha
  have hb0 := hb
  obtain ⟨sa, ta, rfl, -, -⟩ := ha
  obtain ⟨sb, tb, rfl, -, -⟩ := hb
  have hW : Below w.heap.size w ((w.alloc (.cells #[.int .i64 A.base, sa, ta] 36)).alloc (.cells #[.int .i64 B.base, sb, tb] 36)) := ((Below.refl _ _).alloc (Nat.le_refl _) _).alloc (by simp) _
  have hB := Blk.new (w.alloc (.cells #[.int .i64 A.base, sa, ta] 36)) 36 #[.int .i64 B.base, sb, tb]
  simp only [World.size_alloc] at hB
  have HF := hid (mayL_impl A B)
  have HL := hid (bnd_of A)
  have HM := hid (bnd_of B)
  by_cases h1 : 0 ≤ loB A
  · by_cases h2 : 0 ≤ loB B
    · go_enter Try.func39, Try.ntmps39
      go_wp2_with fail
      refine (BoundsOf_any _ A _ (ha0.ext hW)).mono ?_; rintro e w1 ⟨rfl, hb1⟩
      obtain ⟨⟨q0, q1, q2⟩, -⟩ := (hB.ext hb1 (by simp)).all3
      have hb01 : Below w.heap.size w w1 := hW.trans (hb1.mono hW.size)
      go_wp2_with fail
      refine (BoundsOf_any _ B _ (hb0.ext hb01)).mono ?_; rintro e w2 ⟨rfl, hb2⟩
      go_wp2
      all_goals go_ret
      all_goals exact ⟨ret_bool (by rw [HF.out]; first | (simp [*]; done) | (simp [*]; intros; omega) | (simp [*]; split <;> (constructor <;> intro <;> omega))), bstep hb01 hb2 hb01.size⟩
    · have hq := hid (show mayL A B = false by simp [mayL, h2])
      go_enter Try.func39, Try.ntmps39
      go_wp2_with fail
      refine (BoundsOf_any _ A _ (ha0.ext hW)).mono ?_; rintro e w1 ⟨rfl, hb1⟩
      obtain ⟨⟨q0, q1, q2⟩, -⟩ := (hB.ext hb1 (by simp)).all3
      have hb01 : Below w.heap.size w w1 := hW.trans (hb1.mono hW.size)
      go_wp2_with fail
      refine (BoundsOf_any _ B _ (hb0.ext hb01)).mono ?_; rintro e w2 ⟨rfl, hb2⟩
      go_wp2
      go_ret
      exact ⟨ret_bool hq.out.symm, bstep hb01 hb2 hb01.size⟩
  · have hq := hid (show mayL A B = false by simp [mayL, h1])
    go_enter Try.func39, Try.ntmps39
    go_wp2_with fail
    refine (BoundsOf_any _ A _ (ha0.ext hW)).mono ?_; rintro e w1 ⟨rfl, hb1⟩
    obtain ⟨⟨q0, q1, q2⟩, -⟩ := (hB.ext hb1 (by simp)).all3
    have hb01 : Below w.heap.size w w1 := hW.trans (hb1.mono hW.size)
    go_wp2_with fail
    refine (BoundsOf_any _ B _ (hb0.ext hb01)).mono ?_; rintro e w2 ⟨rfl, hb2⟩
    go_wp2
    go_ret
    exact ⟨ret_bool hq.out.symm, bstep hb01 hb2 hb01.size⟩

set_option maxRecDepth 100000 in
set_option maxHeartbeats 400000 in
theorem sMayOverlap_any (a b : Value) (A B : VL) (w : World) (ha : ViewV w a A) (hb : ViewV w b B) :
    Calls Try.prog 38 #[a, b] w fun e w' => e = .returned (.bool (mayL A B)) ∧ Below w.heap.size w w' := by
  have ha0 := ha
  have hb0 := hb
  obtain ⟨sa, ta, rfl, -, -⟩ := ha
  obtain ⟨sb, tb, rfl, -, -⟩ := hb
  have hW : Below w.heap.size w ((w.alloc (.cells #[.int .i64 A.base, sa, ta] 36)).alloc (.cells #[.int .i64 B.base, sb, tb] 36)) := ((Below.refl _ _).alloc (Nat.le_refl _) _).alloc (by simp) _
  have hB := Blk.new (w.alloc (.cells #[.int .i64 A.base, sa, ta] 36)) 36 #[.int .i64 B.base, sb, tb]
  simp only [World.size_alloc] at hB
  have HF := hid (mayL_spec A B)
  have HL := hid (bnd_of A)
  have HM := hid (bnd_of B)
  by_cases h1 : 0 ≤ loB A
  · by_cases h2 : 0 ≤ loB B
    · go_enter Try.func38, Try.ntmps38
      go_wp2_with fail
      refine (sBoundsOf_any _ A _ (ha0.ext hW)).mono ?_; rintro e w1 ⟨rfl, hb1⟩
      obtain ⟨⟨q0, q1, q2⟩, -⟩ := (hB.ext hb1 (by simp)).all3
      have hb01 : Below w.heap.size w w1 := hW.trans (hb1.mono hW.size)
      go_wp2_with fail
      refine (sBoundsOf_any _ B _ (hb0.ext hb01)).mono ?_; rintro e w2 ⟨rfl, hb2⟩
      go_wp2
      all_goals go_ret
      all_goals exact ⟨ret_bool (by rw [HF.out]; first | (simp [*]; done) | (simp [*]; intros; omega) | (simp [*]; split <;> (constructor <;> intro <;> omega))), bstep hb01 hb2 hb01.size⟩
    · have hq := hid (show mayL A B = false by simp [mayL, h2])
      go_enter Try.func38, Try.ntmps38
      go_wp2_with fail
      refine (sBoundsOf_any _ A _ (ha0.ext hW)).mono ?_; rintro e w1 ⟨rfl, hb1⟩
      obtain ⟨⟨q0, q1, q2⟩, -⟩ := (hB.ext hb1 (by simp)).all3
      have hb01 : Below w.heap.size w w1 := hW.trans (hb1.mono hW.size)
      go_wp2_with fail
      refine (sBoundsOf_any _ B _ (hb0.ext hb01)).mono ?_; rintro e w2 ⟨rfl, hb2⟩
      go_wp2
      go_ret
      exact ⟨ret_bool hq.out.symm, bstep hb01 hb2 hb01.size⟩
  · have hq := hid (show mayL A B = false by simp [mayL, h1])
    go_enter Try.func38, Try.ntmps38
    go_wp2_with fail
    refine (sBoundsOf_any _ A _ (ha0.ext hW)).mono ?_; rintro e w1 ⟨rfl, hb1⟩
    obtain ⟨⟨q0, q1, q2⟩, -⟩ := (hB.ext hb1 (by simp)).all3
    have hb01 : Below w.heap.size w w1 := hW.trans (hb1.mono hW.size)
    go_wp2_with fail
    refine (sBoundsOf_any _ B _ (hb0.ext hb01)).mono ?_; rintro e w2 ⟨rfl, hb2⟩
    go_wp2
    go_ret
    exact ⟨ret_bool hq.out.symm, bstep hb01 hb2 hb01.size⟩

end Go.Proofs.Ytpcahfdpbbcapaa
