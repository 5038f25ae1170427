/- Contract: DiagonalOf of the reference. No conditions. (printed by mkj.py) -/
import Derived.Test.YtbcmhjhiofpnlaaJ1
import Derived.Test.YtbcmhjhiofpnlaaV6
import Derived.Test.YtbcmhjhiofpnlaaV8
import Derived.Test.YtbcmhjhiofpnlaaHp
import Derived.Test.YtbcmhjhiofpnlaaGw
import Derived.StillTailTactics
import Derived.Deep.Cut
namespace Go.Proofs.Ytbcmhjhiofpnlaa
open Go.RowKit

set_option maxRecDepth 100000 in
set_option maxHeartbeats 6400000 in
theorem sDiagonalOf_any (v : Value) (V : VL) (a b : Int) (w : World) (hv : ViewV w v V) (wa : -9223372036854775808 ≤ a ∧ a ≤ 9223372036854775807) (wb : -9223372036854775808 ≤ b ∧ b ≤ 9223372036854775807) :
    Calls Try.prog 27 #[v, .int .i64 a, .int .i64 b] w (RetViewB w (diagL V a b) (okDiag V a b)) := by
  have hv0 := hv
  obtain ⟨sv, tv, rfl, hsv, htv⟩ := hv
  obtain ⟨As, cs, es, -, hcs, -⟩ := id hsv
  subst es
  obtain ⟨At, ct, et, -, hct, -⟩ := id htv
  subst et
  unfold maxLen at hcs hct
  have hA := (Blk.new w 28 #[.int .i64 V.base, .slice As V.shape.length cs, .slice At V.strides.length ct]).alloc (.cells #[.int .i64 0, .slice none 0 0, .slice none 0 0] 28)
  have hR := Blk.new (w.alloc (.cells #[.int .i64 V.base, .slice As V.shape.length cs, .slice At V.strides.length ct] 28)) 28 #[.int .i64 0, .slice none 0 0, .slice none 0 0]
  simp only [World.size_alloc] at hR
  have hW : Below w.heap.size w ((w.alloc (.cells #[.int .i64 V.base, .slice As V.shape.length cs, .slice At V.strides.length ct] 28)).alloc (.cells #[.int .i64 0, .slice none 0 0, .slice none 0 0] 28)) := ((Below.refl _ _).alloc (Nat.le_refl _) _).alloc (by simp <;> omega) _
  have hnA := hA.lt
  have hnR := hR.lt
  generalize hW1 : ((w.alloc (.cells #[.int .i64 V.base, .slice As V.shape.length cs, .slice At V.strides.length ct] 28)).alloc (.cells #[.int .i64 0, .slice none 0 0, .slice none 0 0] 28)) = W1 at *
  have HW1 := hid hW1
  clear hW1
  cases cV : isViewL V
  · have HQ := hid (show diagL V a b = VL.zero ∧ okDiag V a b = false by
      have : okDiag V a b = false := by simp [okDiag, hasDimL, cV]
      exact ⟨diag_no this, this⟩)
    go_enter Try.func27, Try.ntmps27
    go_wp2_with fail
    rw [HW1.out]
    clear HW1
    have H0 := Hp.start W1
    have qqA := fun x : ExtW W1 => (Blk.ext (Blk.ext hA H0.below hA.lt) x.h (Blk.ext hA H0.below hA.lt).lt).all3.1
    refine region_mk 33 (by kernel_rfl) (by kernel_rfl) ?_
    apply Exists.intro
    simp only [List.take_succ_cons, List.take_zero, List.drop_succ_cons, List.drop_zero]
    repeat (first
      | (apply grow_val (by rfl); (focus (intro x; (go_simp; try with_reducible rfl); done)); simp only [Act.put, List.setIfInBounds_toArray, List.set_cons_zero, List.set_cons_succ])
      | (apply grow_skip (by rfl); simp only [Act.put, List.setIfInBounds_toArray, List.set_cons_zero, List.set_cons_succ])
      | (apply grow_call (by rfl); (focus (intro x K Q hK; go_simp; (first | (go_at_call 78; (with_reducible refine (validView_any _ V _ (((hv0.ext hW).ext H0.below).ext x.h)).mono ?_); rintro e w' ⟨rfl, hb⟩; simp only [cV]; exact hK _ hb)); done)); simp only [Act.put, List.setIfInBounds_toArray, List.set_cons_zero, List.set_cons_succ]))
    refine grow_nil ?_
    rintro ⟨w2, hb2⟩ - -
    have hb2 : Below W1.heap.size W1 w2 := hb2
    clear qqA
    have H2 := H0.nx hb2
    obtain ⟨⟨q1_0, q1_1, q1_2⟩, r1_0, r1_1, r1_2⟩ := ((Blk.ext hR H2.below hR.lt)).all3
    go_wp2
    refine bodyPost_ret (v := .tuple #[.agg #[.int .i64 0, .slice none 0 0, .slice none 0 0], .bool false]) (by simp [results, Try.results27, go_sem, q1_0, q1_1, q1_2]) rfl ?_
    rw [HQ.out.1, HQ.out.2]
    exact ⟨_, _, rfl, Own.nil _ _, Own.nil _ _, Sep.none_left _, below3 (hW.trans (H2.below.mono hW.size)) (by omega) _ _ _⟩
  cases c0 : inR a 0 ((V.shape.length : Int) - 1)
  · have HQ := hid (show diagL V a b = VL.zero ∧ okDiag V a b = false by
      have : okDiag V a b = false := by 
        cases h : okDiag V a b
        · rfl
        · simp only [okDiag, hasDimL, Bool.and_eq_true, decide_eq_true_eq] at h
          rw [inR_yes (by omega) (by omega)] at c0; cases c0
      exact ⟨diag_no this, this⟩)
    go_enter Try.func27, Try.ntmps27
    go_wp2_with fail
    rw [HW1.out]
    clear HW1
    have H0 := Hp.start W1
    have qqA := fun x : ExtW W1 => (Blk.ext (Blk.ext hA H0.below hA.lt) x.h (Blk.ext hA H0.below hA.lt).lt).all3.1
    refine region_mk 33 (by kernel_rfl) (by kernel_rfl) ?_
    apply Exists.intro
    simp only [List.take_succ_cons, List.take_zero, List.drop_succ_cons, List.drop_zero]
    repeat (first
      | (apply grow_val (by rfl); (focus (intro x; (go_simp; try with_reducible rfl); done)); simp only [Act.put, List.setIfInBounds_toArray, List.set_cons_zero, List.set_cons_succ])
      | (apply grow_skip (by rfl); simp only [Act.put, List.setIfInBounds_toArray, List.set_cons_zero, List.set_cons_succ])
      | (apply grow_call (by rfl); (focus (intro x K Q hK; go_simp; (first | (go_at_call 78; (with_reducible refine (validView_any _ V _ (((hv0.ext hW).ext H0.below).ext x.h)).mono ?_); rintro e w' ⟨rfl, hb⟩; simp only [cV]; exact hK _ hb) | (go_at_call 79; (with_reducible refine (isDim_any _ V a _ (((hv0.ext hW).ext H0.below).ext x.h)).mono ?_); rintro e w' ⟨rfl, hb⟩; simp only [c0]; exact hK _ hb)); done)); simp only [Act.put, List.setIfInBounds_toArray, List.set_cons_zero, List.set_cons_succ]))
    refine grow_nil ?_
    rintro ⟨w2, hb2⟩ - -
    have hb2 : Below W1.heap.size W1 w2 := hb2
    clear qqA
    have H2 := H0.nx hb2
    obtain ⟨⟨q1_0, q1_1, q1_2⟩, r1_0, r1_1, r1_2⟩ := ((Blk.ext hR H2.below hR.lt)).all3
    go_wp2
    refine bodyPost_ret (v := .tuple #[.agg #[.int .i64 0, .slice none 0 0, .slice none 0 0], .bool false]) (by simp [results, Try.results27, go_sem, q1_0, q1_1, q1_2]) rfl ?_
    rw [HQ.out.1, HQ.out.2]
    exact ⟨_, _, rfl, Own.nil _ _, Own.nil _ _, Sep.none_left _, below3 (hW.trans (H2.below.mono hW.size)) (by omega) _ _ _⟩
  cases c1 : inR b 0 ((V.shape.length : Int) - 1)
  · have HQ := hid (show diagL V a b = VL.zero ∧ okDiag V a b = false by
      have : okDiag V a b = false := by 
        cases h : okDiag V a b
        · rfl
        · simp only [okDiag, hasDimL, Bool.and_eq_true, decide_eq_true_eq] at h
          rw [inR_yes (by omega) (by omega)] at c1; cases c1
      exact ⟨diag_no this, this⟩)
    go_enter Try.func27, Try.ntmps27
    go_wp2_with fail
    rw [HW1.out]
    clear HW1
    have H0 := Hp.start W1
    have qqA := fun x : ExtW W1 => (Blk.ext (Blk.ext hA H0.below hA.lt) x.h (Blk.ext hA H0.below hA.lt).lt).all3.1
    refine region_mk 33 (by kernel_rfl) (by kernel_rfl) ?_
    apply Exists.intro
    simp only [List.take_succ_cons, List.take_zero, List.drop_succ_cons, List.drop_zero]
    repeat (first
      | (apply grow_val (by rfl); (focus (intro x; (go_simp; try with_reducible rfl); done)); simp only [Act.put, List.setIfInBounds_toArray, List.set_cons_zero, List.set_cons_succ])
      | (apply grow_skip (by rfl); simp only [Act.put, List.setIfInBounds_toArray, List.set_cons_zero, List.set_cons_succ])
      | (apply grow_call (by rfl); (focus (intro x K Q hK; go_simp; (first | (go_at_call 78; (with_reducible refine (validView_any _ V _ (((hv0.ext hW).ext H0.below).ext x.h)).mono ?_); rintro e w' ⟨rfl, hb⟩; simp only [cV]; exact hK _ hb) | (go_at_call 79; (with_reducible refine (isDim_any _ V a _ (((hv0.ext hW).ext H0.below).ext x.h)).mono ?_); rintro e w' ⟨rfl, hb⟩; simp only [c0]; exact hK _ hb) | (go_at_call 79; (with_reducible refine (isDim_any _ V b _ (((hv0.ext hW).ext H0.below).ext x.h)).mono ?_); rintro e w' ⟨rfl, hb⟩; simp only [c1]; exact hK _ hb)); done)); simp only [Act.put, List.setIfInBounds_toArray, List.set_cons_zero, List.set_cons_succ]))
    refine grow_nil ?_
    rintro ⟨w2, hb2⟩ - -
    have hb2 : Below W1.heap.size W1 w2 := hb2
    clear qqA
    have H2 := H0.nx hb2
    obtain ⟨⟨q1_0, q1_1, q1_2⟩, r1_0, r1_1, r1_2⟩ := ((Blk.ext hR H2.below hR.lt)).all3
    go_wp2
    refine bodyPost_ret (v := .tuple #[.agg #[.int .i64 0, .slice none 0 0, .slice none 0 0], .bool false]) (by simp [results, Try.results27, go_sem, q1_0, q1_1, q1_2]) rfl ?_
    rw [HQ.out.1, HQ.out.2]
    exact ⟨_, _, rfl, Own.nil _ _, Own.nil _ _, Sep.none_left _, below3 (hW.trans (H2.below.mono hW.size)) (by omega) _ _ _⟩
  have da := inR_iff.1 c0
  have db := inR_iff.1 c1
  have C0 : hasDimL V a = true := by simp [hasDimL, cV]; omega
  have C1 : hasDimL V b = true := by simp [hasDimL, cV]; omega
  obtain ⟨ka, rfl⟩ : ∃ k : Nat, a = (k : Int) := ⟨a.toNat, by omega⟩
  obtain ⟨kb, rfl⟩ : ∃ k : Nat, b = (k : Int) := ⟨b.toNat, by omega⟩
  have hl4 := (isViewL_lens cV).1
  have hl4t := (isViewL_lens cV).2
  have hka : ka < V.shape.length := by omega
  have hkb : kb < V.shape.length := by omega
  have hkat : ka < V.strides.length := by have := (isViewL_and cV).2.1; omega
  have hkbt : kb < V.strides.length := by have := (isViewL_and cV).2.1; omega
  have sba := shape_le' cV hka
  have tba := stride_le cV hkat
  have tbb := stride_le cV hkbt
  have ga : V.shape.getD ka 0 = V.shape[ka] := by simp [hka]
  have gb : V.shape.getD kb 0 = V.shape[kb] := by simp [hkb]
  have ta : V.strides.getD ka 0 = V.strides[ka] := by simp [hkat]
  have tb : V.strides.getD kb 0 = V.strides[kb] := by simp [hkbt]
  have HP := hid (show okDiag V ka kb = (!((ka : Int) == (kb : Int)) && (V.shape[ka] == V.shape[kb])) by
    simp only [okDiag, C0, C1, Int.toNat_natCast, ga, gb, Bool.true_and])
  have HC := hid cV
  clear da db C0 C1
  obtain ⟨A', c', e', -, -, hr⟩ := id hsv
  simp only [Value.slice.injEq, true_and] at e'
  obtain ⟨rfl, rfl⟩ := e'
  obtain ⟨bs, os, rfl, hbs, hcs1⟩ := hr (by omega)
  have hxa := hcs1 ka V.shape[ka] (by simp [hka])
  have hxb := hcs1 kb V.shape[kb] (by simp [hkb])
  clear hr hcs1
  obtain ⟨A', c', e', -, -, hr⟩ := id htv
  simp only [Value.slice.injEq, true_and] at e'
  obtain ⟨rfl, rfl⟩ := e'
  obtain ⟨bt, ot, rfl, hbt, hct1⟩ := hr (by omega)
  have hya := hct1 ka V.strides[ka] (by simp [hkat])
  have hyb := hct1 kb V.strides[kb] (by simp [hkbt])
  clear hr hct1
  have hia : (ka : Int) < (V.shape.length : Int) := by omega
  have hib : (kb : Int) < (V.shape.length : Int) := by omega
  have hja : (ka : Int) < (V.strides.length : Int) := by omega
  have hjb : (kb : Int) < (V.strides.length : Int) := by omega
  by_cases hab : ka = kb
  · subst hab
    have HQ := hid (show diagL V ka ka = VL.zero ∧ okDiag V ka ka = false by
      have : okDiag V ka ka = false := by rw [HP.out]; simp
      exact ⟨diag_no this, this⟩)
    clear ga gb ta tb
    go_enter Try.func27, Try.ntmps27
    go_wp2_with fail
    rw [HW1.out]
    clear HW1
    have H0 := Hp.start W1
    have qqA := fun x : ExtW W1 => (Blk.ext (Blk.ext hA H0.below hA.lt) x.h (Blk.ext hA H0.below hA.lt).lt).all3.1
    refine region_mk 33 (by kernel_rfl) (by kernel_rfl) ?_
    apply Exists.intro
    simp only [List.take_succ_cons, List.take_zero, List.drop_succ_cons, List.drop_zero]
    repeat (first
      | (apply grow_val (by rfl); (focus (intro x; (go_simp; try with_reducible rfl); done)); simp only [Act.put, List.setIfInBounds_toArray, List.set_cons_zero, List.set_cons_succ])
      | (apply grow_skip (by rfl); simp only [Act.put, List.setIfInBounds_toArray, List.set_cons_zero, List.set_cons_succ])
      | (apply grow_call (by rfl); (focus (intro x K Q hK; go_simp; (first | (go_at_call 78; (with_reducible refine (validView_any _ V _ (((hv0.ext hW).ext H0.below).ext x.h)).mono ?_); rintro e w' ⟨rfl, hb⟩; simp only [cV]; exact hK _ hb) | (go_at_call 79; (with_reducible refine (isDim_any _ V ka _ (((hv0.ext hW).ext H0.below).ext x.h)).mono ?_); rintro e w' ⟨rfl, hb⟩; simp only [c0]; exact hK _ hb) | (go_at_call 79; (with_reducible refine (isDim_any _ V kb _ (((hv0.ext hW).ext H0.below).ext x.h)).mono ?_); rintro e w' ⟨rfl, hb⟩; simp only [c1]; exact hK _ hb)); done)); simp only [Act.put, List.setIfInBounds_toArray, List.set_cons_zero, List.set_cons_succ]))
    refine grow_nil ?_
    rintro ⟨w2, hb2⟩ - -
    have hb2 : Below W1.heap.size W1 w2 := hb2
    clear qqA
    have H2 := H0.nx hb2
    obtain ⟨⟨q1_0, q1_1, q1_2⟩, r1_0, r1_1, r1_2⟩ := ((Blk.ext hR H2.below hR.lt)).all3
    go_wp2
    refine bodyPost_ret (v := .tuple #[.agg #[.int .i64 0, .slice none 0 0, .slice none 0 0], .bool false]) (by simp [results, Try.results27, go_sem, q1_0, q1_1, q1_2]) rfl ?_
    rw [HQ.out.1, HQ.out.2]
    exact ⟨_, _, rfl, Own.nil _ _, Own.nil _ _, Sep.none_left _, below3 (hW.trans (H2.below.mono hW.size)) (by omega) _ _ _⟩
  have hne : ((ka : Int) == (kb : Int)) = false := by simp; omega
  have hne2 : ¬ (ka : Int) = (kb : Int) := by omega
  by_cases hsh : V.shape[ka] = V.shape[kb]
  rotate_left
  · have hs1 : (V.shape[ka] == V.shape[kb]) = false := by simpa using hsh
    have hs2 : (V.shape[ka] != V.shape[kb]) = true := by simpa using hsh
    have HQ := hid (show diagL V ka kb = VL.zero ∧ okDiag V ka kb = false by
      have : okDiag V ka kb = false := by rw [HP.out, hs1]; simp
      exact ⟨diag_no this, this⟩)
    clear hsh ga gb ta tb
    go_enter Try.func27, Try.ntmps27
    go_wp2_with fail
    rw [HW1.out]
    clear HW1
    have H0 := Hp.start W1
    have qqA := fun x : ExtW W1 => (Blk.ext (Blk.ext hA H0.below hA.lt) x.h (Blk.ext hA H0.below hA.lt).lt).all3.1
    have qf0 := fun x : ExtW W1 => ((hW.trans ((H0.below.trans (x.h.mono H0.size)).mono hW.size)).cell (p := ⟨bs, os + ka, none⟩) hbs).trans hxa
    have qf1 := fun x : ExtW W1 => ((hW.trans ((H0.below.trans (x.h.mono H0.size)).mono hW.size)).cell (p := ⟨bs, os + kb, none⟩) hbs).trans hxb
    refine region_mk 33 (by kernel_rfl) (by kernel_rfl) ?_
    apply Exists.intro
    simp only [List.take_succ_cons, List.take_zero, List.drop_succ_cons, List.drop_zero]
    repeat (first
      | (apply grow_val (by rfl); (focus (intro x; (go_simp; try with_reducible rfl); done)); simp only [Act.put, List.setIfInBounds_toArray, List.set_cons_zero, List.set_cons_succ])
      | (apply grow_skip (by rfl); simp only [Act.put, List.setIfInBounds_toArray, List.set_cons_zero, List.set_cons_succ])
      | (apply grow_call (by rfl); (focus (intro x K Q hK; go_simp; (first | (go_at_call 78; (with_reducible refine (validView_any _ V _ (((hv0.ext hW).ext H0.below).ext x.h)).mono ?_); rintro e w' ⟨rfl, hb⟩; simp only [cV]; exact hK _ hb) | (go_at_call 79; (with_reducible refine (isDim_any _ V ka _ (((hv0.ext hW).ext H0.below).ext x.h)).mono ?_); rintro e w' ⟨rfl, hb⟩; simp only [c0]; exact hK _ hb) | (go_at_call 79; (with_reducible refine (isDim_any _ V kb _ (((hv0.ext hW).ext H0.below).ext x.h)).mono ?_); rintro e w' ⟨rfl, hb⟩; simp only [c1]; exact hK _ hb)); done)); simp only [Act.put, List.setIfInBounds_toArray, List.set_cons_zero, List.set_cons_succ]))
    refine grow_nil ?_
    rintro ⟨w2, hb2⟩ - -
    have hb2 : Below W1.heap.size W1 w2 := hb2
    clear qqA qf0 qf1
    have H2 := H0.nx hb2
    obtain ⟨⟨q1_0, q1_1, q1_2⟩, r1_0, r1_1, r1_2⟩ := ((Blk.ext hR H2.below hR.lt)).all3
    go_wp2
    refine bodyPost_ret (v := .tuple #[.agg #[.int .i64 0, .slice none 0 0, .slice none 0 0], .bool false]) (by simp [results, Try.results27, go_sem, q1_0, q1_1, q1_2]) rfl ?_
    rw [HQ.out.1, HQ.out.2]
    exact ⟨_, _, rfl, Own.nil _ _, Own.nil _ _, Sep.none_left _, below3 (hW.trans (H2.below.mono hW.size)) (by omega) _ _ _⟩
  have hs1 : (V.shape[ka] == V.shape[kb]) = true := by simpa using hsh
  have hs2 : (V.shape[ka] != V.shape[kb]) = false := by simpa using hsh
  have HV := hid (diag_valid cV hka hkb hab hsh)
  have HD := hid (show okDiag V ka kb = true ∧ diagL V ka kb = tidyL (diagV V ka kb) by
    have h : okDiag V ka kb = true := by rw [HP.out, hne, hs1]; rfl
    exact ⟨h, by simp [diagL, h]⟩)
  have hwsum : IntKind.i64.wrap (V.strides[ka] + V.strides[kb]) = V.strides[ka] + V.strides[kb] := IntWalk.i64_in _ (by omega)
  have HG := hid (And.intro ga (And.intro ta tb))
  have HE := hid hsh
  clear hsh ga gb ta tb
  by_cases c5 : V.shape[ka] < 2
  · go_enter Try.func27, Try.ntmps27
    go_wp2_with fail
    rw [HW1.out]
    clear HW1
    have H0 := Hp.start W1
    have qqA := fun x : ExtW W1 => (Blk.ext (Blk.ext hA H0.below hA.lt) x.h (Blk.ext hA H0.below hA.lt).lt).all3.1
    have qf0 := fun x : ExtW W1 => ((hW.trans ((H0.below.trans (x.h.mono H0.size)).mono hW.size)).cell (p := ⟨bs, os + ka, none⟩) hbs).trans hxa
    have qf1 := fun x : ExtW W1 => ((hW.trans ((H0.below.trans (x.h.mono H0.size)).mono hW.size)).cell (p := ⟨bs, os + kb, none⟩) hbs).trans hxb
    refine region_mk 33 (by kernel_rfl) (by kernel_rfl) ?_
    apply Exists.intro
    simp only [List.take_succ_cons, List.take_zero, List.drop_succ_cons, List.drop_zero]
    repeat (first
      | (apply grow_val (by rfl); (focus (intro x; (go_simp; try with_reducible rfl); done)); simp only [Act.put, List.setIfInBounds_toArray, List.set_cons_zero, List.set_cons_succ])
      | (apply grow_skip (by rfl); simp only [Act.put, List.setIfInBounds_toArray, List.set_cons_zero, List.set_cons_succ])
      | (apply grow_call (by rfl); (focus (intro x K Q hK; go_simp; (first | (go_at_call 78; (with_reducible refine (validView_any _ V _ (((hv0.ext hW).ext H0.below).ext x.h)).mono ?_); rintro e w' ⟨rfl, hb⟩; simp only [cV]; exact hK _ hb) | (go_at_call 79; (with_reducible refine (isDim_any _ V ka _ (((hv0.ext hW).ext H0.below).ext x.h)).mono ?_); rintro e w' ⟨rfl, hb⟩; simp only [c0]; exact hK _ hb) | (go_at_call 79; (with_reducible refine (isDim_any _ V kb _ (((hv0.ext hW).ext H0.below).ext x.h)).mono ?_); rintro e w' ⟨rfl, hb⟩; simp only [c1]; exact hK _ hb)); done)); simp only [Act.put, List.setIfInBounds_toArray, List.set_cons_zero, List.set_cons_succ]))
    refine grow_nil ?_
    rintro ⟨w2, hb2⟩ - -
    have hb2 : Below W1.heap.size W1 w2 := hb2
    clear qqA qf0 qf1
    have H2 := H0.nx hb2
    obtain ⟨⟨q1_0, q1_1, q1_2⟩, r1_0, r1_1, r1_2⟩ := ((Blk.ext hA H2.below hA.lt)).all3
    go_wp2_with fail
    refine (scopyView_any _ V _ ((hv0.ext hW).ext H2.below) (by omega) (by omega)).mono ?_; rintro e w3 ⟨s4, t4, rfl, ho, hp, hsep, hb3⟩
    clear q1_0 q1_1 q1_2 r1_0 r1_1 r1_2
    have H3 := H2.rows ho hp hsep hb3
    simp only [List.nil_append] at H3
    obtain ⟨gs, caps, rfl, -, -⟩ := ho.row (by omega)
    obtain ⟨gt, capt, rfl, -, -⟩ := hp.row (by omega)
    have hcs9 : caps ≤ 9223372036854775807 := by obtain ⟨_, _, e, _, h, _⟩ := ho.ints; simp only [Value.slice.injEq] at e; obtain ⟨-, -, rfl⟩ := e; unfold maxLen at h; omega
    have hct9 : capt ≤ 9223372036854775807 := by obtain ⟨_, _, e, _, h, _⟩ := hp.ints; simp only [Value.slice.injEq] at e; obtain ⟨-, -, rfl⟩ := e; unfold maxLen at h; omega
    clear ho hp hsep
    have H4 := H3.alloc 28 #[.int .i64 V.base, .slice (some ⟨gs, 0, none⟩) V.shape.length caps, .slice (some ⟨gt, 0, none⟩) V.strides.length capt]
    simp only [List.cons_append, List.nil_append] at H4
    go_upto_region 4 with fail
    generalize w3.alloc (.cells #[.int .i64 V.base, .slice (some ⟨gs, 0, none⟩) V.shape.length caps, .slice (some ⟨gt, 0, none⟩) V.strides.length capt] 28) = w4 at *
    generalize w3.heap.size = g4 at H4 ⊢
    obtain ⟨⟨q2_0, q2_1, q2_2⟩, r2_0, r2_1, r2_2⟩ := ((Blk.ext hA H4.below hA.lt)).all3
    obtain ⟨⟨q3_0, q3_1, q3_2⟩, r3_0, r3_1, r3_2⟩ := (H4.blk 2 rfl).all3
    have q4 := ((hW.trans (H4.below.mono hW.size)).cell (p := ⟨bt, ot + ka, none⟩) hbt).trans hya
    have q5 := ((hW.trans (H4.below.mono hW.size)).cell (p := ⟨bt, ot + kb, none⟩) hbt).trans hyb
    have q6 := (H4.ints 1 rfl).cell ka hkat
    have q7 := (H4.ints 1 rfl).free ka
    go_still_tail 15, (by kernel_rfl)
    have H5 := (H4.put 1 rfl ka (V.strides[ka] + V.strides[kb])).drew
    simp only [List.set_cons_zero, List.set_cons_succ] at H5
    go_upto_region 5 with fail
    generalize (w4.setCell ⟨gt, ka, none⟩ (.int .i64 (V.strides[ka] + V.strides[kb]))).drew = w5 at *
    clear q2_0 q2_1 q2_2 r2_0 r2_1 r2_2 q3_0 q3_1 q3_2 r3_0 r3_1 r3_2 q4 q5 q6 q7
    obtain ⟨⟨q8_0, q8_1, q8_2⟩, r8_0, r8_1, r8_2⟩ := ((Blk.ext hA H5.below hA.lt)).all3
    obtain ⟨⟨q9_0, q9_1, q9_2⟩, r9_0, r9_1, r9_2⟩ := (H5.blk 2 rfl).all3
    have q10 := ((hW.trans (H5.below.mono hW.size)).cell (p := ⟨bs, os + ka, none⟩) hbs).trans hxa
    have q11 := (H5.ints 1 rfl).free ka
    have q12 := (H5.ints 1 rfl).cell ka (by simpa using hkat)
    have hle1 : V.shape[ka] ≤ 1 := by omega
    go_upto_region 7 with fail
    have H6 := H5.put 1 rfl ka (0)
    simp only [List.set_cons_zero, List.set_cons_succ] at H6
    generalize (w5.setCell ⟨gt, ka, none⟩ (.int .i64 (0))) = w6 at *
    clear q8_0 q8_1 q8_2 r8_0 r8_1 r8_2 q9_0 q9_1 q9_2 r9_0 r9_1 r9_2 q10 q11 q12
    rw [List.set_set] at H6
    have hdv : diagV V ka kb = ⟨V.base, V.shape.eraseIdx kb, (V.strides.set ka 0).eraseIdx kb⟩ := by simp only [diagV, diagS, HG.out.1]; rw [if_pos (by omega)]
    have HDV := hid hdv
    clear hdv
    obtain ⟨S, hS⟩ : ∃ S, S = V.strides.set ka 0 := ⟨_, rfl⟩
    have hSl := hid (show S.length = V.strides.length by rw [hS]; simp)
    rw [← hS] at H6
    have HS := hid hS
    clear hS
    obtain ⟨⟨q13_0, q13_1, q13_2⟩, r13_0, r13_1, r13_2⟩ := (H6.blk 2 rfl).all3
    go_wp2_with fail
    refine (without_any _ V.shape kb _ (H6.ints 0 rfl).ints hkb (by omega)).mono ?_; rintro e w7 ⟨v6, rfl, ho, hb7⟩
    clear q13_0 q13_1 q13_2 r13_0 r13_1 r13_2
    obtain ⟨Av6, cv6, ev6⟩ := ho.form
    subst ev6
    have H7 := H6.row ho hb7
    simp only [List.cons_append, List.nil_append] at H7
    clear ho
    obtain ⟨⟨q14_0, q14_1, q14_2⟩, r14_0, r14_1, r14_2⟩ := (H7.blk 2 rfl).all3
    have H8 := H7.store 2 rfl 1 (.slice Av6 (V.shape.eraseIdx kb).length cv6)
    simp only [List.set_cons_zero, List.set_cons_succ, List.setIfInBounds_toArray] at H8
    go_upto_region 8 with fail
    generalize (w7.setCell ⟨g4, 1, none⟩ (.slice Av6 (V.shape.eraseIdx kb).length cv6)) = w8 at *
    clear q14_0 q14_1 q14_2 r14_0 r14_1 r14_2
    obtain ⟨⟨q15_0, q15_1, q15_2⟩, r15_0, r15_1, r15_2⟩ := (H8.blk 2 rfl).all3
    go_wp2_with fail
    refine (without_any _ S kb _ (H8.ints 1 rfl).ints (by rw [hSl.out]; omega) (by rw [hSl.out]; omega)).mono ?_; rintro e w9 ⟨v7, rfl, ho, hb9⟩
    clear q15_0 q15_1 q15_2 r15_0 r15_1 r15_2
    obtain ⟨Av7, cv7, ev7⟩ := ho.form
    subst ev7
    have H9 := H8.row ho hb9
    simp only [List.cons_append, List.nil_append] at H9
    clear ho
    obtain ⟨⟨q16_0, q16_1, q16_2⟩, r16_0, r16_1, r16_2⟩ := (H9.blk 2 rfl).all3
    have H10 := H9.store 2 rfl 2 (.slice Av7 (S.eraseIdx kb).length cv7)
    simp only [List.set_cons_zero, List.set_cons_succ, List.setIfInBounds_toArray] at H10
    go_upto_region 9 with fail
    generalize (w9.setCell ⟨g4, 2, none⟩ (.slice Av7 (S.eraseIdx kb).length cv7)) = w10 at *
    clear q16_0 q16_1 q16_2 r16_0 r16_1 r16_2
    obtain ⟨⟨q17_0, q17_1, q17_2⟩, r17_0, r17_1, r17_2⟩ := (H10.blk 2 rfl).all3
    have hsp := H10.apart 3 4 rfl rfl (by omega)
    go_wp2_with fail
    refine (stidy_any _ _ ⟨V.base, V.shape.eraseIdx kb, S.eraseIdx kb⟩ W1.heap.size _ (H10.ints 3 rfl) (H10.ints 4 rfl) hsp H10.size (by have := List.length_eraseIdx_le V.shape kb; show (V.shape.eraseIdx kb).length ≤ 1000000000000; omega)).mono ?_; rintro e w11 ⟨s8, t8, rfl, ho, hp, hsep8, hb11⟩
    clear q17_0 q17_1 q17_2 r17_0 r17_1 r17_2
    have H11 := H10.nx hb11
    have hD : diagV V ka kb = ⟨V.base, V.shape.eraseIdx kb, S.eraseIdx kb⟩ := by rw [HDV.out, HS.out]
    rw [← hD] at ho hp
    rw [← hD]
    have HD2 := hid hD
    clear hD
    obtain ⟨A8, c8, e8⟩ := ho.form
    obtain ⟨B8, d8, f8⟩ := hp.form
    subst e8 f8
    go_wp2_with fail
    refine (made_any _ (tidyL (diagV V ka kb)) _ ⟨_, _, rfl, ho.ints, hp.ints⟩).mono ?_; rintro e w12 ⟨s9, t9, rfl, ho9, hp9, hsep9, hb12⟩
    have hz12 := hb12.size
    have H12 := H11.nx hb12
    have em : madeL (tidyL (diagV V ka kb)) = tidyL (diagV V ka kb) := by simp [madeL, HV.out]
    rw [em] at ho9 hp9
    rw [em, HV.out]
    clear em
    obtain ⟨A9, c9, e9⟩ := ho9.form
    obtain ⟨B9, d9, f9⟩ := hp9.form
    subst e9 f9
    obtain ⟨⟨q18_0, q18_1, q18_2⟩, r18_0, r18_1, r18_2⟩ := ((Blk.ext hR H12.below hR.lt)).all3
    go_wp2
    refine bodyPost_ret (v := .tuple #[.agg #[.int .i64 (tidyL (diagV V ka kb)).base, .slice A9 (tidyL (diagV V ka kb)).shape.length c9, .slice B9 (tidyL (diagV V ka kb)).strides.length d9], .bool true]) (by simp [results, Try.results27, go_sem, q18_0, q18_1, q18_2]) rfl ?_
    rw [HD.out.1, HD.out.2]
    have hzz := H11.size
    exact ⟨_, _, rfl, (own3b ho9 (by omega) _ _ _).mono (by omega), (own3b hp9 (by omega) _ _ _).mono (by omega), hsep9, below3 (hW.trans (H12.below.mono hW.size)) (by omega) _ _ _⟩
  go_enter Try.func27, Try.ntmps27
  go_wp2_with fail
  rw [HW1.out]
  clear HW1
  have H0 := Hp.start W1
  have qqA := fun x : ExtW W1 => (Blk.ext (Blk.ext hA H0.below hA.lt) x.h (Blk.ext hA H0.below hA.lt).lt).all3.1
  have qf0 := fun x : ExtW W1 => ((hW.trans ((H0.below.trans (x.h.mono H0.size)).mono hW.size)).cell (p := ⟨bs, os + ka, none⟩) hbs).trans hxa
  have qf1 := fun x : ExtW W1 => ((hW.trans ((H0.below.trans (x.h.mono H0.size)).mono hW.size)).cell (p := ⟨bs, os + kb, none⟩) hbs).trans hxb
  refine region_mk 33 (by kernel_rfl) (by kernel_rfl) ?_
  apply Exists.intro
  simp only [List.take_succ_cons, List.take_zero, List.drop_succ_cons, List.drop_zero]
  repeat (first
    | (apply grow_val (by rfl); (focus (intro x; (go_simp; try with_reducible rfl); done)); simp only [Act.put, List.setIfInBounds_toArray, List.set_cons_zero, List.set_cons_succ])
    | (apply grow_skip (by rfl); simp only [Act.put, List.setIfInBounds_toArray, List.set_cons_zero, List.set_cons_succ])
    | (apply grow_call (by rfl); (focus (intro x K Q hK; go_simp; (first | (go_at_call 78; (with_reducible refine (validView_any _ V _ (((hv0.ext hW).ext H0.below).ext x.h)).mono ?_); rintro e w' ⟨rfl, hb⟩; simp only [cV]; exact hK _ hb) | (go_at_call 79; (with_reducible refine (isDim_any _ V ka _ (((hv0.ext hW).ext H0.below).ext x.h)).mono ?_); rintro e w' ⟨rfl, hb⟩; simp only [c0]; exact hK _ hb) | (go_at_call 79; (with_reducible refine (isDim_any _ V kb _ (((hv0.ext hW).ext H0.below).ext x.h)).mono ?_); rintro e w' ⟨rfl, hb⟩; simp only [c1]; exact hK _ hb)); done)); simp only [Act.put, List.setIfInBounds_toArray, List.set_cons_zero, List.set_cons_succ]))
  refine grow_nil ?_
  rintro ⟨w2, hb2⟩ - -
  have hb2 : Below W1.heap.size W1 w2 := hb2
  clear qqA qf0 qf1
  have H2 := H0.nx hb2
  obtain ⟨⟨q1_0, q1_1, q1_2⟩, r1_0, r1_1, r1_2⟩ := ((Blk.ext hA H2.below hA.lt)).all3
  go_wp2_with fail
  refine (scopyView_any _ V _ ((hv0.ext hW).ext H2.below) (by omega) (by omega)).mono ?_; rintro e w3 ⟨s4, t4, rfl, ho, hp, hsep, hb3⟩
  clear q1_0 q1_1 q1_2 r1_0 r1_1 r1_2
  have H3 := H2.rows ho hp hsep hb3
  simp only [List.nil_append] at H3
  obtain ⟨gs, caps, rfl, -, -⟩ := ho.row (by omega)
  obtain ⟨gt, capt, rfl, -, -⟩ := hp.row (by omega)
  have hcs9 : caps ≤ 9223372036854775807 := by obtain ⟨_, _, e, _, h, _⟩ := ho.ints; simp only [Value.slice.injEq] at e; obtain ⟨-, -, rfl⟩ := e; unfold maxLen at h; omega
  have hct9 : capt ≤ 9223372036854775807 := by obtain ⟨_, _, e, _, h, _⟩ := hp.ints; simp only [Value.slice.injEq] at e; obtain ⟨-, -, rfl⟩ := e; unfold maxLen at h; omega
  clear ho hp hsep
  have H4 := H3.alloc 28 #[.int .i64 V.base, .slice (some ⟨gs, 0, none⟩) V.shape.length caps, .slice (some ⟨gt, 0, none⟩) V.strides.length capt]
  simp only [List.cons_append, List.nil_append] at H4
  go_upto_region 4 with fail
  generalize w3.alloc (.cells #[.int .i64 V.base, .slice (some ⟨gs, 0, none⟩) V.shape.length caps, .slice (some ⟨gt, 0, none⟩) V.strides.length capt] 28) = w4 at *
  generalize w3.heap.size = g4 at H4 ⊢
  obtain ⟨⟨q2_0, q2_1, q2_2⟩, r2_0, r2_1, r2_2⟩ := ((Blk.ext hA H4.below hA.lt)).all3
  obtain ⟨⟨q3_0, q3_1, q3_2⟩, r3_0, r3_1, r3_2⟩ := (H4.blk 2 rfl).all3
  have q4 := ((hW.trans (H4.below.mono hW.size)).cell (p := ⟨bt, ot + ka, none⟩) hbt).trans hya
  have q5 := ((hW.trans (H4.below.mono hW.size)).cell (p := ⟨bt, ot + kb, none⟩) hbt).trans hyb
  have q6 := (H4.ints 1 rfl).cell ka hkat
  have q7 := (H4.ints 1 rfl).free ka
  go_still_tail 15, (by kernel_rfl)
  have H5 := (H4.put 1 rfl ka (V.strides[ka] + V.strides[kb])).drew
  simp only [List.set_cons_zero, List.set_cons_succ] at H5
  go_upto_region 5 with fail
  generalize (w4.setCell ⟨gt, ka, none⟩ (.int .i64 (V.strides[ka] + V.strides[kb]))).drew = w5 at *
  clear q2_0 q2_1 q2_2 r2_0 r2_1 r2_2 q3_0 q3_1 q3_2 r3_0 r3_1 r3_2 q4 q5 q6 q7
  obtain ⟨⟨q8_0, q8_1, q8_2⟩, r8_0, r8_1, r8_2⟩ := ((Blk.ext hA H5.below hA.lt)).all3
  obtain ⟨⟨q9_0, q9_1, q9_2⟩, r9_0, r9_1, r9_2⟩ := (H5.blk 2 rfl).all3
  have q10 := ((hW.trans (H5.below.mono hW.size)).cell (p := ⟨bs, os + ka, none⟩) hbs).trans hxa
  have hle1 : ¬ V.shape[ka] ≤ 1 := by omega
  go_upto_region 7 with fail
  clear q8_0 q8_1 q8_2 r8_0 r8_1 r8_2 q9_0 q9_1 q9_2 r9_0 r9_1 r9_2 q10
  have hdv : diagV V ka kb = ⟨V.base, V.shape.eraseIdx kb, (V.strides.set ka (V.strides[ka] + V.strides[kb])).eraseIdx kb⟩ := by simp only [diagV, diagS, HG.out.1, HG.out.2.1, HG.out.2.2]; rw [if_neg (by omega)]
  have HDV := hid hdv
  clear hdv
  obtain ⟨S, hS⟩ : ∃ S, S = (V.strides).set ka (V.strides[ka] + V.strides[kb]) := ⟨_, rfl⟩
  have hSl := hid (show S.length = V.strides.length by rw [hS]; simp)
  rw [← hS] at H5
  have HS := hid hS
  clear hS
  obtain ⟨⟨q11_0, q11_1, q11_2⟩, r11_0, r11_1, r11_2⟩ := (H5.blk 2 rfl).all3
  go_wp2_with fail
  refine (without_any _ V.shape kb _ (H5.ints 0 rfl).ints hkb (by omega)).mono ?_; rintro e w6 ⟨v6, rfl, ho, hb6⟩
  clear q11_0 q11_1 q11_2 r11_0 r11_1 r11_2
  obtain ⟨Av6, cv6, ev6⟩ := ho.form
  subst ev6
  have H6 := H5.row ho hb6
  simp only [List.cons_append, List.nil_append] at H6
  clear ho
  obtain ⟨⟨q12_0, q12_1, q12_2⟩, r12_0, r12_1, r12_2⟩ := (H6.blk 2 rfl).all3
  have H7 := H6.store 2 rfl 1 (.slice Av6 (V.shape.eraseIdx kb).length cv6)
  simp only [List.set_cons_zero, List.set_cons_succ, List.setIfInBounds_toArray] at H7
  go_upto_region 8 with fail
  generalize (w6.setCell ⟨g4, 1, none⟩ (.slice Av6 (V.shape.eraseIdx kb).length cv6)) = w7 at *
  clear q12_0 q12_1 q12_2 r12_0 r12_1 r12_2
  obtain ⟨⟨q13_0, q13_1, q13_2⟩, r13_0, r13_1, r13_2⟩ := (H7.blk 2 rfl).all3
  go_wp2_with fail
  refine (without_any _ S kb _ (H7.ints 1 rfl).ints (by rw [hSl.out]; omega) (by rw [hSl.out]; omega)).mono ?_; rintro e w8 ⟨v7, rfl, ho, hb8⟩
  clear q13_0 q13_1 q13_2 r13_0 r13_1 r13_2
  obtain ⟨Av7, cv7, ev7⟩ := ho.form
  subst ev7
  have H8 := H7.row ho hb8
  simp only [List.cons_append, List.nil_append] at H8
  clear ho
  obtain ⟨⟨q14_0, q14_1, q14_2⟩, r14_0, r14_1, r14_2⟩ := (H8.blk 2 rfl).all3
  have H9 := H8.store 2 rfl 2 (.slice Av7 (S.eraseIdx kb).length cv7)
  simp only [List.set_cons_zero, List.set_cons_succ, List.setIfInBounds_toArray] at H9
  go_upto_region 9 with fail
  generalize (w8.setCell ⟨g4, 2, none⟩ (.slice Av7 (S.eraseIdx kb).length cv7)) = w9 at *
  clear q14_0 q14_1 q14_2 r14_0 r14_1 r14_2
  obtain ⟨⟨q15_0, q15_1, q15_2⟩, r15_0, r15_1, r15_2⟩ := (H9.blk 2 rfl).all3
  have hsp := H9.apart 3 4 rfl rfl (by omega)
  go_wp2_with fail
  refine (stidy_any _ _ ⟨V.base, V.shape.eraseIdx kb, S.eraseIdx kb⟩ W1.heap.size _ (H9.ints 3 rfl) (H9.ints 4 rfl) hsp H9.size (by have := List.length_eraseIdx_le V.shape kb; show (V.shape.eraseIdx kb).length ≤ 1000000000000; omega)).mono ?_; rintro e w10 ⟨s8, t8, rfl, ho, hp, hsep8, hb10⟩
  clear q15_0 q15_1 q15_2 r15_0 r15_1 r15_2
  have H10 := H9.nx hb10
  have hD : diagV V ka kb = ⟨V.base, V.shape.eraseIdx kb, S.eraseIdx kb⟩ := by rw [HDV.out, HS.out]
  rw [← hD] at ho hp
  rw [← hD]
  have HD2 := hid hD
  clear hD
  obtain ⟨A8, c8, e8⟩ := ho.form
  obtain ⟨B8, d8, f8⟩ := hp.form
  subst e8 f8
  go_wp2_with fail
  refine (made_any _ (tidyL (diagV V ka kb)) _ ⟨_, _, rfl, ho.ints, hp.ints⟩).mono ?_; rintro e w11 ⟨s9, t9, rfl, ho9, hp9, hsep9, hb11⟩
  have hz11 := hb11.size
  have H11 := H10.nx hb11
  have em : madeL (tidyL (diagV V ka kb)) = tidyL (diagV V ka kb) := by simp [madeL, HV.out]
  rw [em] at ho9 hp9
  rw [em, HV.out]
  clear em
  obtain ⟨A9, c9, e9⟩ := ho9.form
  obtain ⟨B9, d9, f9⟩ := hp9.form
  subst e9 f9
  obtain ⟨⟨q16_0, q16_1, q16_2⟩, r16_0, r16_1, r16_2⟩ := ((Blk.ext hR H11.below hR.lt)).all3
  go_wp2
  refine bodyPost_ret (v := .tuple #[.agg #[.int .i64 (tidyL (diagV V ka kb)).base, .slice A9 (tidyL (diagV V ka kb)).shape.length c9, .slice B9 (tidyL (diagV V ka kb)).strides.length d9], .bool true]) (by simp [results, Try.results27, go_sem, q16_0, q16_1, q16_2]) rfl ?_
  rw [HD.out.1, HD.out.2]
  have hzz := H10.size
  exact ⟨_, _, rfl, (own3b ho9 (by omega) _ _ _).mono (by omega), (own3b hp9 (by omega) _ _ _).mono (by omega), hsep9, below3 (hW.trans (H11.below.mono hW.size)) (by omega) _ _ _⟩

end Go.Proofs.Ytbcmhjhiofpnlaa
