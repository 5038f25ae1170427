/- Contract: the implementation's sum over a dimension. No conditions. -/
import Derived.Test.YtldblcolnjkcaaaSDp
import Derived.Test.YtldblcolnjkcaaaV5
import Derived.Test.YtldblcolnjkcaaaC2
import Derived.Test.YtldblcolnjkcaaaC1
import Derived.Test.YtldblcolnjkcaaaRK1
import Derived.Test.YtldblcolnjkcaaaHp
import Derived.Test.YtldblcolnjkcaaaGr
import Derived.Test.YtldblcolnjkcaaaIE
import Derived.Deep.Cut
import Derived.Deep.LoopGhost
namespace Go.Proofs.Ytldblcolnjkcaaa
open Go.RowKit

set_option maxRecDepth 100000 in
set_option maxHeartbeats 6400000 in
theorem SumDim_any (v : Value) (T : TL) (d : Int) (w : World) (hv : TensorV w v T) (hd : -9223372036854775808 ≤ d ∧ d ≤ 9223372036854775807) :
    Calls Try.prog 85 #[v, .int .i64 d] w (RetTensorB w (sumDL T d) (okSum T d)) := by
  have hv0 := hv
  obtain ⟨sv, tv, rfl, hs, ht⟩ := hv
  obtain ⟨As, cs, es⟩ := hs.form
  obtain ⟨At, ct, et⟩ := ht.form
  subst es et
  have H1 := ((Hp.start w).alloc 75 #[.slice As T.shape.length cs, .slice At T.values.length ct]).alloc 75 #[.slice none 0 0, .slice none 0 0]
  simp only [World.size_alloc, List.nil_append, List.cons_append] at H1
  have HNO := hid (fun h => sumD_no (T := T) (d := d) h)
  have HYES := hid (fun h => sumD_yes (T := T) (d := d) h)
  cases hok : isTensorL T
  · have HQ := hid (show okSum T d = false by simp [okSum, okSD, hok])
    go_enter Try.func85, Try.ntmps85
    go_upto_region 1 with fail
    generalize ((w.alloc (.cells #[.slice As T.shape.length cs, .slice At T.values.length ct] 75)).alloc (.cells #[.slice none 0 0, .slice none 0 0] 75)) = w1 at *
    obtain ⟨⟨a0, a1⟩, -⟩ := (H1.blk 0 rfl).all2
    go_wp2_with fail
    refine (isTensor_any _ T _ (TensorV.ext hv0 H1.below)).mono ?_; rintro e w2 ⟨rfl, hb⟩
    rw [hok]
    have H2 := hid (H1.nx hb)
    clear a0 a1 hb H1
    obtain ⟨⟨a0, a1⟩, -⟩ := (H2.out.blk 0 rfl).all2
    obtain ⟨⟨r0, r1⟩, s0, s1⟩ := (H2.out.blk 1 rfl).all2
    clear hok
    have HF := hid (H2.out.store2 1 rfl (.slice none 0 0) (.slice none 0 0))
    go_wp2
    refine bodyPost_ret (v := .tuple #[.agg #[.slice none 0 0, .slice none 0 0], .bool false]) (by simp [results, Try.results85, go_sem, r0, r1]) rfl ?_
    rw [HNO.out HQ.out, HQ.out]
    exact ⟨_, _, rfl, Own.nil _ _, Own.nil _ _, Sep.none_left _, HF.out.below⟩
  have HTK := hid hok
  have HT := hid (isTensorL_and hok)
  have hle4 : T.shape.length ≤ 4 := (shape_ext HT.out.1).1
  by_cases hbad : d < 0 ∨ (T.shape.length : Int) ≤ d
  · have HQ := hid (show okSum T d = false by
      have : inR d 0 ((T.shape.length : Int) - 1) = false := inR_no (by omega)
      simp [okSum, okSD, this])
    go_enter Try.func85, Try.ntmps85
    go_upto_region 1 with fail
    generalize ((w.alloc (.cells #[.slice As T.shape.length cs, .slice At T.values.length ct] 75)).alloc (.cells #[.slice none 0 0, .slice none 0 0] 75)) = w1 at *
    obtain ⟨⟨a0, a1⟩, -⟩ := (H1.blk 0 rfl).all2
    go_wp2_with fail
    refine (isTensor_any _ T _ (TensorV.ext hv0 H1.below)).mono ?_; rintro e w2 ⟨rfl, hb⟩
    rw [hok]
    have H2 := hid (H1.nx hb)
    clear a0 a1 hb H1 hok
    obtain ⟨⟨a0, a1⟩, -⟩ := (H2.out.blk 0 rfl).all2
    obtain ⟨⟨r0, r1⟩, s0, s1⟩ := (H2.out.blk 1 rfl).all2
    have HF := hid (H2.out.store2 1 rfl (.slice none 0 0) (.slice none 0 0))
    by_cases h0 : d < 0
    · clear hbad
      go_wp2
      refine bodyPost_ret (v := .tuple #[.agg #[.slice none 0 0, .slice none 0 0], .bool false]) (by simp [results, Try.results85, go_sem, r0, r1]) rfl ?_
      rw [HNO.out HQ.out, HQ.out]
      exact ⟨_, _, rfl, Own.nil _ _, Own.nil _ _, Sep.none_left _, HF.out.below⟩
    · have h1 : (T.shape.length : Int) ≤ d := by omega
      clear hbad
      go_wp2
      refine bodyPost_ret (v := .tuple #[.agg #[.slice none 0 0, .slice none 0 0], .bool false]) (by simp [results, Try.results85, go_sem, r0, r1]) rfl ?_
      rw [HNO.out HQ.out, HQ.out]
      exact ⟨_, _, rfl, Own.nil _ _, Own.nil _ _, Sep.none_left _, HF.out.below⟩
  obtain ⟨D, rfl⟩ : ∃ D : Nat, d = (D : Int) := ⟨d.toNat, by omega⟩
  have hD : D < T.shape.length := by omega
  have HOKS := hid (show okSum T (D : Int) = (isShapeL (sdS T D) && isTensorL (sdT T D)) by
    have : inR (D : Int) 0 ((T.shape.length : Int) - 1) = true := inR_yes (by omega) (by omega)
    simp only [okSum, okSD, hok, this, Int.toNat_natCast, Bool.true_and])
  have hd0 : ¬ (D : Int) < 0 := by omega
  have hd1 : ¬ (T.shape.length : Int) ≤ (D : Int) := by omega
  have hd2 : (D : Int) < (T.shape.length : Int) := by omega
  have hw : IntKind.i64.wrap ((D : Int) + 1) = (D : Int) + 1 := IntWalk.i64_in _ (by omega)
  clear hbad hd
  go_enter Try.func85, Try.ntmps85
  go_upto_region 1 with fail
  generalize ((w.alloc (.cells #[.slice As T.shape.length cs, .slice At T.values.length ct] 75)).alloc (.cells #[.slice none 0 0, .slice none 0 0] 75)) = w1 at *
  obtain ⟨⟨a0, a1⟩, -⟩ := (H1.blk 0 rfl).all2
  go_wp2_with fail
  refine (isTensor_any _ T _ (TensorV.ext hv0 H1.below)).mono ?_; rintro e w2 ⟨rfl, hb⟩
  rw [hok]
  have H2 := hid (H1.nx hb)
  clear a0 a1 hb H1 hok
  obtain ⟨⟨a0, a1⟩, -⟩ := (H2.out.blk 0 rfl).all2
  go_upto_region 3 with fail
  obtain ⟨⟨a0', a1'⟩, -⟩ := ((H2.out.blk 0 rfl).alloc (.cells #[] 3)).all2
  have ho : Own (w2.alloc (.cells #[] 3)) w2.heap.size (.slice (some ⟨w2.heap.size, 0, none⟩) 0 0) [] := Own.empty w2 rfl (Nat.le_refl _)
  have HX := hid ((hs.ext H2.out.below).ext (below_alloc w2 (.cells #[] 3)))
  have hz : ([] : List Int).length + T.shape.length ≤ 1000000000000 := by simp; omega
  have HO := hid ho
  clear ho
  go_wp2_with (at_builtin; refine appI _ rfl _ _ rfl w2.heap.size _ [] rfl HO.out _ _ _ T.shape rfl HX.out hz (by simp) ?_)
  intro v3 w3 ho3 hg3 hat3
  have H3 := hid (H2.out.row ho3 ((below_alloc w2 (.cells #[] 3)).trans (HO.out.under hg3 (by simp))))
  simp only [List.nil_append, List.cons_append] at H3
  obtain ⟨gs, caps, e3, -, -⟩ := ho3.row (by omega)
  subst e3
  clear ho3 hg3 hat3 a0 a1 a0' a1' HX HO hz H2
  obtain ⟨S', hS'⟩ : ∃ S', sdS T D = S' := ⟨_, rfl⟩
  have HS' := hid hS'
  have hSe : T.shape.eraseIdx D = S' := hS'
  have HSE := hid hSe
  have HLS := hid (show S'.length = T.shape.length - 1 by rw [← hSe, List.length_eraseIdx, if_pos hD])
  clear hS' hSe
  go_wp2_with fail
  refine (Delete_at gs caps D T.shape.length _ _ T.shape w.heap.size _ (H3.out.ints 2 rfl) rfl rfl hD).mono ?_; rintro e w4 ⟨rfl, ho4, hg4⟩
  rw [HSE.out] at ho4
  have H4 := hid (H3.out.grown 2 rfl ho4 hg4 (.inl rfl))
  simp only [List.set_cons_succ, List.set_cons_zero] at H4
  rw [← HLS.out] at H4 ⊢
  clear ho4 hg4 H3
  have H5 := hid (H4.out.alloc 75 #[.slice (some ⟨gs, 0, none⟩) S'.length caps, .slice none 0 0])
  simp only [List.nil_append, List.cons_append] at H5
  clear H4
  go_upto_region 4 with fail
  generalize (w4.alloc (.cells #[.slice (some ⟨gs, 0, none⟩) S'.length caps, .slice none 0 0] 75)) = w5 at *
  generalize w4.heap.size = g6 at *
  obtain ⟨⟨z0, z1⟩, k0, k1⟩ := (H5.out.blk 3 rfl).all2
  go_wp2_with fail
  refine (isShape_any _ S' _ (H5.out.ints 2 rfl).ints).mono ?_; rintro e w' ⟨rfl, rfl⟩
  cases hsh : isShapeL S'
  · have HQ := hid (show okSum T (D : Int) = false by rw [HOKS.out, HS'.out, hsh]; rfl)
    clear hsh
    obtain ⟨⟨r0, r1⟩, s0, s1⟩ := (H5.out.blk 1 rfl).all2
    have HF := hid (H5.out.store2 1 rfl (.slice none 0 0) (.slice none 0 0))
    go_wp2
    refine bodyPost_ret (v := .tuple #[.agg #[.slice none 0 0, .slice none 0 0], .bool false]) (by simp [results, Try.results85, go_sem, r0, r1]) rfl ?_
    rw [HNO.out HQ.out, HQ.out]
    exact ⟨_, _, rfl, Own.nil _ _, Own.nil _ _, Sep.none_left _, HF.out.below⟩
  obtain ⟨M, hM, hM60⟩ : ∃ M : Nat, prodW S' = (M : Int) ∧ M ≤ 60 := by
    have := shape_prod hsh
    exact ⟨(prodI S').toNat, by rw [this.1]; omega, by omega⟩
  have HM := hid hM
  have HSH := hid (show isShapeL (sdS T D) = true by rw [HS'.out]; exact hsh)
  have HV0 := hid (show sdV T D 0 = List.replicate M 0 by show List.replicate (prodW (sdS T D)).toNat 0 = _; rw [HS'.out, hM]; rfl)
  have HVL := hid (fun k => show (sdV T D k).length = M by rw [sdV_len, HS'.out, hM]; omega)
  have hN60 : T.values.length ≤ 60 := by
    have a := shape_prod HT.out.1
    have b := HT.out.2.1
    rw [a.1] at b
    omega
  clear hM hsh
  go_wp2_with fail
  refine (countOf_any _ S' _ (H5.out.ints 2 rfl).ints).mono ?_; rintro e w' ⟨rfl, rfl⟩
  rw [HM.out]
  go_wp2_with (at_make; refine mk0 _ rfl _ _ rfl M rfl rfl (by omega) ?_)
  intro w6 hR hb
  have H6 := hid (H5.out.row hR hb)
  clear z0 z1 k0 k1 hR hb H5
  generalize w5.heap.size = gv at *
  simp only [List.nil_append, List.cons_append] at H6
  obtain ⟨⟨z0, z1⟩, k0, k1⟩ := (H6.out.blk 3 rfl).all2
  have H7 := H6.out.store 3 rfl 1 (.slice (some ⟨gv, 0, none⟩) M M)
  rw [← HV0.out] at H7
  simp only [List.set_cons_succ, List.set_cons_zero, List.setIfInBounds_toArray] at H7
  have H7 := hid H7
  obtain ⟨⟨q0, q1⟩, -⟩ := (H7.out.blk 0 rfl).all2
  clear H6
  go_upto_region 8 with fail
  clear z0 z1 k0 k1 q0 q1
  go_loopg [7, 8, 9, 47] T.values.length (fun m a b c i wr => ∃ k : Nat, k ≤ T.values.length ∧ m = T.values.length - k ∧ i = .int .i64 k ∧
    Hp w.heap.size w wr [.blk w.heap.size 75 #[.slice As T.shape.length cs, .slice At T.values.length ct], .blk (w.heap.size + 1) 75 #[.slice none 0 0, .slice none 0 0], .ints (.slice (some ⟨gs, 0, none⟩) S'.length caps) S', .blk g6 75 #[.slice (some ⟨gs, 0, none⟩) S'.length caps, .slice (some ⟨gv, 0, none⟩) M M], .ints (.slice (some ⟨gv, 0, none⟩) M M) (sdV T D k)])
  case atStart => exact ⟨0, Nat.zero_le _, rfl, rfl, H7.out⟩
  case round =>
    obtain ⟨k, hk, rfl, rfl, H⟩ := hrel
    clear H7
    have HH := hid H
    clear H
    by_cases hlt : k < T.values.length
    case neg =>
      have hki : ¬ (k : Int) < (T.values.length : Int) := by omega
      have hkk : k = T.values.length := by omega
      have hten : TensorV wr (.agg #[.slice (some ⟨gs, 0, none⟩) S'.length caps, .slice (some ⟨gv, 0, none⟩) M M]) (sdT T D) := by
        refine ⟨_, _, rfl, ?_, ?_⟩
        · show Ints wr _ (sdS T D)
          rw [HS'.out]; exact (HH.out.ints 2 rfl).ints
        · show Ints wr _ (sdV T D T.values.length)
          rw [← hkk]; exact (HH.out.ints 4 rfl).ints
      have HTEN := hid hten
      have HKK := hid hkk
      obtain ⟨⟨z0, z1⟩, k0, k1⟩ := (HH.out.blk 3 rfl).all2
      clear hten hkk
      go_wp2_with fail
      refine (isTensor_any _ (sdT T D) _ HTEN.out).mono ?_; rintro e w8 ⟨rfl, hb⟩
      have H8 := hid (HH.out.nx hb)
      clear z0 z1 k0 k1 hb HH HTEN
      obtain ⟨⟨r0, r1⟩, s0, s1⟩ := (H8.out.blk 1 rfl).all2
      obtain ⟨⟨z0, z1⟩, k0, k1⟩ := (H8.out.blk 3 rfl).all2
      cases hit : isTensorL (sdT T D)
      · have HQ := hid (show okSum T (D : Int) = false by rw [HOKS.out, HSH.out, hit]; rfl)
        have HF := hid (H8.out.store2 1 rfl (.slice none 0 0) (.slice none 0 0))
        clear hit
        go_wp2
        refine bodyPost_ret (v := .tuple #[.agg #[.slice none 0 0, .slice none 0 0], .bool false]) (by simp [results, Try.results85, go_sem, r0, r1]) rfl ?_
        rw [HNO.out HQ.out, HQ.out]
        exact ⟨_, _, rfl, Own.nil _ _, Own.nil _ _, Sep.none_left _, HF.out.below⟩
      · have HQ := hid (show okSum T (D : Int) = true by rw [HOKS.out, HSH.out, hit]; rfl)
        have HF := hid (H8.out.store2 1 rfl (.slice (some ⟨gs, 0, none⟩) S'.length caps) (.slice (some ⟨gv, 0, none⟩) M M))
        clear hit
        go_wp2
        refine bodyPost_ret (v := .tuple #[.agg #[.slice (some ⟨gs, 0, none⟩) S'.length caps, .slice (some ⟨gv, 0, none⟩) M M], .bool true]) (by simp [results, Try.results85, go_sem, r0, r1]) rfl ?_
        rw [HYES.out HQ.out, HQ.out, Int.toNat_natCast]
        have h1 := HF.out.ints 2 rfl
        have h2 := HF.out.ints 4 rfl
        rw [← HS'.out] at h1
        rw [HKK.out] at h2
        exact ⟨_, _, rfl, by rw [← HS'.out] at *; exact h1, h2, HF.out.apart 2 4 rfl rfl (by omega), HF.out.below⟩
    have hki : (k : Int) < (T.values.length : Int) := by omega
    obtain ⟨bv, ov, rfl, xv⟩ := (ht.ext HH.out.below).elem k hlt
    obtain ⟨X, hX⟩ : ∃ X, T.values[k] = X := ⟨_, rfl⟩
    rw [hX] at xv
    have HGX := hid (show T.values.getD k 0 = X by rw [← hX]; simp [hlt])
    obtain ⟨⟨q0, q1⟩, -⟩ := (HH.out.blk 0 rfl).all2
    have hui := unr_in HTK.out hlt
    have HPOS := hid hui.2.1
    have hk0 : (0 : Int) ≤ (k : Int) := by omega
    have hk100 : (k : Int) ≤ 100 := by omega
    have hsr := hid (hs.ext HH.out.below)
    have HUL := hid (unr_length T.shape (k : Int))
    clear hX hui
    go_wp2_with fail
    refine (indexAt_any _ T.shape k _ hsr.out HPOS.out hle4 hk0 hk100).mono ?_; rintro e w7 ⟨r7, rfl, hr7, hb⟩
    have H7 := hid (HH.out.row hr7 hb)
    simp only [List.nil_append, List.cons_append] at H7
    obtain ⟨gi, ci, e7, -, -⟩ := hr7.row (by rw [HUL.out]; omega)
    rw [HUL.out] at e7
    subst e7
    clear hr7 hb HH q0 q1 xv hsr
    go_wp2_with fail
    refine (Delete_at gi ci D T.shape.length _ _ (unr T.shape k) w.heap.size _ (H7.out.ints 5 rfl) rfl rfl (by rw [HUL.out]; exact hD)).mono ?_; rintro e w8 ⟨rfl, ho8, hg8⟩
    have H8 := hid (H7.out.grown 5 rfl ho8 hg8 (.inl rfl))
    simp only [List.set_cons_succ, List.set_cons_zero] at H8
    rw [← HLS.out] at H8 ⊢
    clear ho8 hg8 H7
    obtain ⟨a, ha⟩ : ∃ a, sdAt T D k = a := ⟨_, rfl⟩
    have hrk := rankOf_at HTK.out HSH.out hlt
    have hat := (sdAt_in HTK.out HSH.out hlt).2.1
    rw [HS'.out] at hrk hat
    rw [ha] at hrk hat
    have ham : a < M := by have := HM.out; omega
    obtain ⟨y, hy⟩ : ∃ y, (sdV T D k).getD a 0 = y := ⟨_, rfl⟩
    have hak : a < (sdV T D k).length := by rw [HVL.out]; exact ham
    have HVSK := hid (show sdV T D (k + 1) = (sdV T D k).set a (wrap64 (y + X)) by rw [sdV, ha, hy, HGX.out])
    have hyc : w8.cell? ⟨gv, a, none⟩ = some (.int .i64 y) := by
      rw [(H8.out.ints 4 rfl).cell a hak, ← hy]; simp [hak]
    have hai : (a : Int) < (M : Int) := by omega
    have ha0 : (0 : Int) ≤ (a : Int) := by omega
    have hsp := H8.out.ints 2 rfl
    have hix := H8.out.ints 5 rfl
    have HRK : ∀ x : ExtW w8, Calls Try.prog 16 #[.slice (some ⟨gs, 0, none⟩) S'.length caps, .slice (some ⟨gi, 0, none⟩) S'.length ci] x.v fun e w' => e = .returned (.int .i64 (a : Int)) ∧ Below x.v.heap.size x.v w' := fun x => (RankOf_any _ _ S' _ x.v (hsp.ext x.h).ints (hix.ext x.h).ints).mono fun _ _ h => ⟨by rw [h.1]; exact ret_int hrk, h.2 ▸ Below.refl _ _⟩
    have HRK := hid HRK
    have hbx := H8.out.blk 3 rfl
    clear hsp hix hrk hat ha hy hak
    go_upto_region 11 with fail
    have qz := fun x : ExtW w8 => (x.at_ hbx).all2.1
    have qy := fun x : ExtW w8 => (x.h.cell (p := ⟨gv, a, none⟩) (World.block_lt_of_cell? _ _ hyc)).trans hyc
    refine region_mk 11 (by kernel_rfl) (by kernel_rfl) ?_
    apply Exists.intro
    simp only [List.take_succ_cons, List.take_zero, List.drop_succ_cons, List.drop_zero]
    repeat (first
      | (apply grow_val (by rfl); (focus (intro x; (go_simp; try with_reducible rfl); done)); simp only [Act.put, List.setIfInBounds_toArray, List.set_cons_zero, List.set_cons_succ])
      | (apply grow_skip (by rfl); simp only [Act.put, List.setIfInBounds_toArray, List.set_cons_zero, List.set_cons_succ])
      | (apply grow_call (by rfl); (focus (intro x K Q hK; go_simp; (first | (go_at_call 16; (with_reducible refine (HRK.out x).mono ?_); rintro e w' ⟨rfl, hb⟩; exact hK _ hb)); done)); simp only [Act.put, List.setIfInBounds_toArray, List.set_cons_zero, List.set_cons_succ]))
    refine grow_nil ?_
    rintro ⟨w9, hb9⟩ hF hS
    have hb9 : Below w8.heap.size w8 w9 := hb9
    have H9 := hid (H8.out.nx hb9)
    clear hF hS qz qy hb9 H8 hbx hyc
    have hyc := (H9.out.ints 4 rfl).cell a (by rw [HVL.out]; exact ham)
    have hyf := (H9.out.ints 4 rfl).free a
    have H10 := H9.out.put 4 rfl a (wrap64 (y + X))
    rw [← HVSK.out] at H10
    have H11 := hid (H10.pick [0, 1, 2, 3, 4] (by decide))
    have HFIN : Hid (Hp w.heap.size w (w9.setCell ⟨gv, a, none⟩ (.int .i64 (wrap64 (y + X)))) [.blk w.heap.size 75 #[.slice As T.shape.length cs, .slice (some ⟨bv, ov, none⟩) T.values.length ct], .blk (w.heap.size + 1) 75 #[.slice none 0 0, .slice none 0 0], .ints (.slice (some ⟨gs, 0, none⟩) S'.length caps) S', .blk g6 75 #[.slice (some ⟨gs, 0, none⟩) S'.length caps, .slice (some ⟨gv, 0, none⟩) M M], .ints (.slice (some ⟨gv, 0, none⟩) M M) (sdV T D (k + 1))]) := H11
    have hwk : IntKind.i64.wrap ((k : Int) + 1) = (k : Int) + 1 := IntWalk.i64_in _ (by omega)
    clear H10 H11
    go_wp2
    go_roundg (T.values.length - (k + 1))
    case measure => omega
    case rel => exact ⟨k + 1, by omega, rfl, by congr 1, HFIN.out⟩

end Go.Proofs.Ytldblcolnjkcaaa
