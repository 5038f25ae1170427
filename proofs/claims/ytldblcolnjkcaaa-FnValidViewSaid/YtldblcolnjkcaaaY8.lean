/- Contract: cutDim. No conditions. (printed by mkc.py) -/
import Derived.Test.YtldblcolnjkcaaaI1b
import Derived.Test.YtldblcolnjkcaaaY6
import Derived.Test.YtldblcolnjkcaaaY4
import Derived.Test.YtldblcolnjkcaaaHp
import Derived.Test.YtldblcolnjkcaaaGw
import Derived.Test.YtldblcolnjkcaaaYC
import Derived.Test.YtldblcolnjkcaaaYA
import Derived.Test.YtldblcolnjkcaaaV8
import Derived.Test.YtldblcolnjkcaaaD1
import Derived.StillTailTactics
import Derived.Deep.Cut
namespace Go.Proofs.Ytldblcolnjkcaaa
open Go.RowKit

set_option maxRecDepth 100000 in
set_option maxHeartbeats 6400000 in
theorem cutDim_any (v vs : Value) (V : VL) (k : Nat) (s : SL) (w : World) (hv : ViewV w v V) (hvs : vs = s.val) (cV : isViewL V = true) (hk : k < V.shape.length) (hok : okSl s = true) :
    Calls Try.prog 183 #[v, .int .i64 k, vs] w (RetView w (cutL V k s)) := by
  subst hvs
  obtain ⟨f, t, b, hf, ht⟩ := s
  have hb0 := (okSl_and hok).2.2.2
  have hbb := (okSl_and hok).2.2.1
  have hl4 := (isViewL_lens cV).1
  have hl4t := (isViewL_lens cV).2
  have hkt : k < V.strides.length := by have := (isViewL_and cV).2.1; omega
  have hsb := shape_le' cV hk
  have htb := stride_le cV hkt
  have hbase := base_le cV
  have hgd : V.shape.getD k 0 = V.shape[k] := by simp [hk]
  have hgt : V.strides.getD k 0 = V.strides[k] := by simp [hkt]
  obtain ⟨xs, hxs⟩ : ∃ xs, xs = idxL V.shape[k] ⟨f, t, b, hf, ht⟩ := ⟨_, rfl⟩
  have hin : ∀ x ∈ xs, 0 ≤ x ∧ x < V.shape[k] := by rw [hxs]; exact idx_in ⟨hsb.1, hsb.2⟩ hb0
  have hlen : (xs.length : Int) ≤ V.shape[k] := by rw [hxs]; exact idx_len ⟨hsb.1, hsb.2⟩ hb0
  have HQ := hid (show cutL V k ⟨f, t, b, hf, ht⟩ = tidyL ⟨V.base + cutB V.strides[k] xs, V.shape.set k xs.length, V.strides.set k (cutS V.strides[k] xs)⟩ by
    rw [cutL, hgd, ← hxs, cutV, hgt])
  have HX : Hid (∀ w' : World, Calls Try.prog 106 #[.int .i64 V.shape[k], .agg #[.int .i64 f, .int .i64 t, .int .i64 b, .bool hf, .bool ht]] w' (RetOwn w' xs)) := hid (by
    intro w'
    rw [hxs]
    exact indices_any _ _ ⟨f, t, b, hf, ht⟩ w' rfl ⟨hsb.1, hsb.2⟩ hok)
  have HIN := hid hin
  clear hin hgd hgt
  have hxl : xs.length ≤ 60 := by omega
  simp only [SL.val]
  have hv0 := hv
  obtain ⟨sv, tv, rfl, hsv, htv⟩ := hv
  obtain ⟨As, cs, es, -, hcs, -⟩ := id hsv
  subst es
  obtain ⟨At, ct, et, -, hct, -⟩ := id htv
  subst et
  unfold maxLen at hcs hct
  obtain ⟨A', c', e', -, -, hr⟩ := id hsv
  simp only [Value.slice.injEq, true_and] at e'
  obtain ⟨rfl, rfl⟩ := e'
  obtain ⟨bs, os, rfl, hbs, hcs1⟩ := hr (by omega)
  have hxa := hcs1 k V.shape[k] (by simp [hk])
  clear hr hcs1
  obtain ⟨A', c', e', -, -, hr⟩ := id htv
  simp only [Value.slice.injEq, true_and] at e'
  obtain ⟨rfl, rfl⟩ := e'
  obtain ⟨bt, ot, rfl, hbt, hct1⟩ := hr (by omega)
  have hya := hct1 k V.strides[k] (by simp [hkt])
  clear hr hct1
  have hia : (k : Int) < (V.shape.length : Int) := by omega
  have hja : (k : Int) < (V.strides.length : Int) := by omega
  have HS := hid hxs
  clear hxs
  have hA := ((Blk.new w 43 #[.int .i64 V.base, .slice (some ⟨bs, os, none⟩) V.shape.length cs, .slice (some ⟨bt, ot, none⟩) V.strides.length ct]).alloc (.cells #[.int .i64 f, .int .i64 t, .int .i64 b, .bool hf, .bool ht] 33)).alloc (.cells #[.int .i64 0, .slice none 0 0, .slice none 0 0] 43)
  have hS := (Blk.new (w.alloc (.cells #[.int .i64 V.base, .slice (some ⟨bs, os, none⟩) V.shape.length cs, .slice (some ⟨bt, ot, none⟩) V.strides.length ct] 43)) 33 #[.int .i64 f, .int .i64 t, .int .i64 b, .bool hf, .bool ht]).alloc (.cells #[.int .i64 0, .slice none 0 0, .slice none 0 0] 43)
  simp only [World.size_alloc] at hS
  have hR := Blk.new ((w.alloc (.cells #[.int .i64 V.base, .slice (some ⟨bs, os, none⟩) V.shape.length cs, .slice (some ⟨bt, ot, none⟩) V.strides.length ct] 43)).alloc (.cells #[.int .i64 f, .int .i64 t, .int .i64 b, .bool hf, .bool ht] 33)) 43 #[.int .i64 0, .slice none 0 0, .slice none 0 0]
  simp only [World.size_alloc] at hR
  have hW : Below w.heap.size w (((w.alloc (.cells #[.int .i64 V.base, .slice (some ⟨bs, os, none⟩) V.shape.length cs, .slice (some ⟨bt, ot, none⟩) V.strides.length ct] 43)).alloc (.cells #[.int .i64 f, .int .i64 t, .int .i64 b, .bool hf, .bool ht] 33)).alloc (.cells #[.int .i64 0, .slice none 0 0, .slice none 0 0] 43)) := (((Below.refl _ _).alloc (Nat.le_refl _) _).alloc (by simp <;> omega) _).alloc (by simp <;> omega) _
  have hnA := hA.lt
  have hnS := hS.lt
  have hnR := hR.lt
  generalize hW1 : (((w.alloc (.cells #[.int .i64 V.base, .slice (some ⟨bs, os, none⟩) V.shape.length cs, .slice (some ⟨bt, ot, none⟩) V.strides.length ct] 43)).alloc (.cells #[.int .i64 f, .int .i64 t, .int .i64 b, .bool hf, .bool ht] 33)).alloc (.cells #[.int .i64 0, .slice none 0 0, .slice none 0 0] 43)) = W1 at *
  have HZ1 := hid (show W1.heap.size = w.heap.size + 3 by rw [← hW1]; simp)
  have HW1 := hid hW1
  clear hW1
  have HNB := norm_idx (n := V.shape[k]) ⟨hsb.1, hsb.2⟩ (s := ⟨f, t, b, hf, ht⟩) hb0 hbb
  have HNX := nums_idx (n := V.shape[k]) (s := ⟨f, t, b, hf, ht⟩) hb0
  rw [← HS.out] at HNB HNX
  have HXB := hid (fun x hx => show -100000 ≤ x ∧ x ≤ 100000 by have := HIN.out x hx; omega)
  obtain ⟨NR, hNR⟩ : ∃ r, r = normL xs := ⟨_, rfl⟩
  obtain ⟨RA, RB, RS⟩ := NR
  rw [← hNR] at HNB HNX
  simp only at HNB
  obtain ⟨nb1, nb2, nb3, nb4⟩ := HNB
  have HNM : Hid (∀ w' : World, Calls Try.prog 123 #[.agg #[.int .i64 RA, .int .i64 RB, .int .i64 RS]] w' (RetOwn w' xs)) := hid (by
    intro w'
    rw [← HNX]
    exact numbers_any ⟨RA, RB, RS⟩ w' (by show -1000 ≤ RA ∧ RA ≤ 1000; omega) (by show -1000 ≤ RB ∧ RB ≤ 1000; omega) nb3 nb4)
  have HNO : Hid (∀ (w' : World) (v' : Value), Ints w' v' xs → Calls Try.prog 108 #[v'] w' fun e w'' => e = .returned (.agg #[.int .i64 RA, .int .i64 RB, .int .i64 RS]) ∧ Below w'.heap.size w' w'') := hid (by
    intro w' v' h
    have := normal_any v' xs w' h (by omega) HXB.out
    rw [← hNR] at this
    exact this)
  have HA1 := hid (show RA * V.strides[k] = cutB V.strides[k] xs by have := norm_start (xs := xs) (st := V.strides[k]); rw [← hNR] at this; exact this)
  have HA2 := hid (fun h : 1 < xs.length => show RS * V.strides[k] = cutS V.strides[k] xs by have := norm_step (xs := xs) (st := V.strides[k]) h; rw [← hNR] at this; exact this)
  clear hNR HNX
  have hma : -3600 ≤ RA * V.strides[k] ∧ RA * V.strides[k] ≤ 3600 := mul_bd nb1.1 nb1.2 htb.1 htb.2
  have hwa : IntKind.i64.wrap (RA * V.strides[k]) = RA * V.strides[k] := IntWalk.i64_in _ (by omega)
  have hwb : IntKind.i64.wrap (V.base + RA * V.strides[k]) = V.base + RA * V.strides[k] := IntWalk.i64_in _ (by omega)
  have hms : -12000 ≤ RS * V.strides[k] ∧ RS * V.strides[k] ≤ 12000 := by
    have h1 := Int.mul_le_mul_of_nonneg_left (show V.strides[k] ≤ 60 by omega) (show 0 ≤ RS + 200 by omega)
    have h2 := Int.mul_le_mul_of_nonneg_left (show -60 ≤ V.strides[k] by omega) (show 0 ≤ RS + 200 by omega)
    have h3 := Int.mul_le_mul_of_nonneg_left (show V.strides[k] ≤ 60 by omega) (show 0 ≤ 200 - RS by omega)
    have h4 := Int.mul_le_mul_of_nonneg_left (show -60 ≤ V.strides[k] by omega) (show 0 ≤ 200 - RS by omega)
    simp only [Int.add_mul, Int.sub_mul] at h1 h2 h3 h4
    omega
  have hws : IntKind.i64.wrap (RS * V.strides[k]) = RS * V.strides[k] := IntWalk.i64_in _ (by omega)
  by_cases hc1 : xs.length < 2
  · go_enter Try.func183, Try.ntmps183
    go_wp2_with fail
    rw [HW1.out]
    clear HW1
    have H0 := Hp.start W1
    obtain ⟨⟨q1_0, q1_1, q1_2⟩, r1_0, r1_1, r1_2⟩ := ((Blk.ext hA H0.below hA.lt)).all3
    go_wp2_with fail
    refine (scopyView_any _ V _ ((hv0.ext hW).ext H0.below) (by omega) (by omega)).mono ?_; rintro e w2 ⟨s4, t4, rfl, ho, hp, hsep, hb2⟩
    clear q1_0 q1_1 q1_2 r1_0 r1_1 r1_2
    have H2 := H0.rows ho hp hsep hb2
    simp only [List.nil_append] at H2
    obtain ⟨gs, caps, rfl, -, -⟩ := ho.row (by omega)
    obtain ⟨gt, capt, rfl, -, -⟩ := hp.row (by omega)
    have hcaps9 : caps ≤ 9223372036854775807 := by obtain ⟨_, _, e, _, h, _⟩ := ho.ints; simp only [Value.slice.injEq] at e; obtain ⟨-, -, rfl⟩ := e; unfold maxLen at h; omega
    have hcapt9 : capt ≤ 9223372036854775807 := by obtain ⟨_, _, e, _, h, _⟩ := hp.ints; simp only [Value.slice.injEq] at e; obtain ⟨-, -, rfl⟩ := e; unfold maxLen at h; omega
    clear ho hp hsep
    have H3 := H2.alloc 43 #[.int .i64 V.base, .slice (some ⟨gs, 0, none⟩) V.shape.length caps, .slice (some ⟨gt, 0, none⟩) V.strides.length capt]
    simp only [List.cons_append, List.nil_append] at H3
    go_upto_region 2 with fail
    generalize w2.alloc (.cells #[.int .i64 V.base, .slice (some ⟨gs, 0, none⟩) V.shape.length caps, .slice (some ⟨gt, 0, none⟩) V.strides.length capt] 43) = w3 at *
    generalize w2.heap.size = g3 at H3 ⊢
    have qqA := fun x : ExtW w3 => (Blk.ext (Blk.ext hA H3.below hA.lt) x.h (Blk.ext hA H3.below hA.lt).lt).all3.1
    have qqS := fun x : ExtW w3 => (Blk.ext (Blk.ext hS H3.below hS.lt) x.h (Blk.ext hS H3.below hS.lt).lt).all5.1
    have qf0 := fun x : ExtW w3 => ((hW.trans ((H3.below.trans (x.h.mono H3.size)).mono hW.size)).cell (p := ⟨bs, os + k, none⟩) hbs).trans hxa
    refine region_mk 9 (by kernel_rfl) (by kernel_rfl) ?_
    apply Exists.intro
    simp only [List.take_succ_cons, List.take_zero, List.drop_succ_cons, List.drop_zero]
    repeat (first
      | (apply grow_val (by rfl); (focus (intro x; (go_simp; try with_reducible rfl); done)); simp only [Act.put, List.setIfInBounds_toArray, List.set_cons_zero, List.set_cons_succ])
      | (apply grow_skip (by rfl); simp only [Act.put, List.setIfInBounds_toArray, List.set_cons_zero, List.set_cons_succ]))
    apply grow_ints (xs) (by rfl)
    · intro x hF K Q hK
      go_simp
      go_at_call 106;(with_reducible refine (HX.out _).mono ?_);rintro e w' ⟨v1, rfl, ho, hb⟩;exact hK _ _ hb ho
    intro A6 c6 F6 O6 hF6 hO6
    simp only [Act.put, List.setIfInBounds_toArray, List.set_cons_zero, List.set_cons_succ]
    repeat (first
      | (apply grow_val (by rfl); (focus (intro x; (go_simp; try with_reducible rfl); done)); simp only [Act.put, List.setIfInBounds_toArray, List.set_cons_zero, List.set_cons_succ])
      | (apply grow_skip (by rfl); simp only [Act.put, List.setIfInBounds_toArray, List.set_cons_zero, List.set_cons_succ]))
    apply grow_callF (by rfl)
    · intro x hF K Q hK
      have h6 := (hF6 _ (hF 6 (by kernel_rfl))).ints
      go_simp
      refine (HNO.out _ _ h6).mono ?_
      rintro e w' ⟨rfl, hb⟩
      exact hK _ hb
    simp only [Act.put, List.setIfInBounds_toArray, List.set_cons_zero, List.set_cons_succ]
    repeat (first
      | (apply grow_val (by rfl); (focus (intro x; (go_simp; try with_reducible rfl); done)); simp only [Act.put, List.setIfInBounds_toArray, List.set_cons_zero, List.set_cons_succ])
      | (apply grow_skip (by rfl); simp only [Act.put, List.setIfInBounds_toArray, List.set_cons_zero, List.set_cons_succ]))
    apply grow_blk (56) (#[.int .i64 0, .int .i64 0, .int .i64 0]) (by rfl)
    · intro x
      go_simp
    intro g8 hg8 F8 O8 hF8 hO8
    simp only [Act.put, List.setIfInBounds_toArray, List.set_cons_zero, List.set_cons_succ]
    repeat (first
      | (apply grow_val (by rfl); (focus (intro x; (go_simp; try with_reducible rfl); done)); simp only [Act.put, List.setIfInBounds_toArray, List.set_cons_zero, List.set_cons_succ])
      | (apply grow_skip (by rfl); simp only [Act.put, List.setIfInBounds_toArray, List.set_cons_zero, List.set_cons_succ]))
    refine grow_nil ?_
    intro x hF hS9
    have h8 := hF8 _ (hF 8 (by omega))
    obtain ⟨w4, hb4⟩ := x
    simp only at h8
    clear hF hS9 hF6 hO6 hF8 hO8 qqA qqS qf0 F6 O6 F8 O8
    have H4 := H3.add (A := [.blk g8 56 #[.int .i64 0, .int .i64 0, .int .i64 0]]) hb4 (fun i hi => by simp at hi; subst hi; exact ⟨hg8, h8⟩) (List.pairwise_singleton ..)
    simp only [List.cons_append, List.nil_append] at H4
    clear h8
    obtain ⟨⟨q2_0, q2_1, q2_2⟩, r2_0, r2_1, r2_2⟩ := (H4.blk 3 rfl).all3
    have H5 := H4.store3 3 rfl (.int .i64 RA) (.int .i64 RB) (.int .i64 RS)
    simp only [List.set_cons_zero, List.set_cons_succ] at H5
    go_upto_region 3 with fail
    generalize ((w4.setCell ⟨g8, 0, none⟩ (.int .i64 RA)).setCell ⟨g8, 1, none⟩ (.int .i64 RB)).setCell ⟨g8, 2, none⟩ (.int .i64 RS) = w5 at *
    clear q2_0 q2_1 q2_2 r2_0 r2_1 r2_2
    obtain ⟨⟨q3_0, q3_1, q3_2⟩, r3_0, r3_1, r3_2⟩ := (H5.blk 3 rfl).all3
    go_wp2_with fail
    refine (HNM.out _).mono ?_; rintro e w6 ⟨r9, rfl, ho, hb6⟩
    clear q3_0 q3_1 q3_2 r3_0 r3_1 r3_2
    obtain ⟨A9, c9, e9⟩ := ho.form
    subst e9
    have hc99 : c9 ≤ 9223372036854775807 := by obtain ⟨_, _, e, _, h, _⟩ := ho.ints; simp only [Value.slice.injEq] at e; obtain ⟨-, -, rfl⟩ := e; unfold maxLen at h; omega
    have H6 := H5.row ho hb6
    simp only [List.cons_append, List.nil_append] at H6
    clear ho
    obtain ⟨⟨q4_0, q4_1, q4_2⟩, r4_0, r4_1, r4_2⟩ := (H6.blk 2 rfl).all3
    have q5 := (H6.ints 0 rfl).cell k hk
    have q6 := (H6.ints 0 rfl).free k
    go_upto_region 4 with fail
    have H7 := H6.put 0 rfl k ((xs.length : Int))
    simp only [List.set_cons_zero] at H7
    go_upto_region 5 with fail
    generalize (w6.setCell ⟨gs, k, none⟩ (.int .i64 ((xs.length : Int)))) = w7 at *
    clear q4_0 q4_1 q4_2 r4_0 r4_1 r4_2 q5 q6
    obtain ⟨⟨q7_0, q7_1, q7_2⟩, r7_0, r7_1, r7_2⟩ := ((Blk.ext hA H7.below hA.lt)).all3
    obtain ⟨⟨q8_0, q8_1, q8_2⟩, r8_0, r8_1, r8_2⟩ := (H7.blk 2 rfl).all3
    obtain ⟨⟨q9_0, q9_1, q9_2⟩, r9_0, r9_1, r9_2⟩ := (H7.blk 3 rfl).all3
    have q10 := ((hW.trans (H7.below.mono hW.size)).cell (p := ⟨bt, ot + k, none⟩) hbt).trans hya
    go_still_tail 12, (by kernel_rfl)
    have H8 := (H7.store 2 rfl 0 (.int .i64 (V.base + RA * V.strides[k]))).drew
    simp only [List.set_cons_zero, List.set_cons_succ, List.setIfInBounds_toArray] at H8
    go_upto_region 6 with fail
    generalize (w7.setCell ⟨g3, 0, none⟩ (.int .i64 (V.base + RA * V.strides[k]))).drew = w8 at *
    clear q7_0 q7_1 q7_2 r7_0 r7_1 r7_2 q8_0 q8_1 q8_2 r8_0 r8_1 r8_2 q9_0 q9_1 q9_2 r9_0 r9_1 r9_2 q10
    obtain ⟨⟨q11_0, q11_1, q11_2⟩, r11_0, r11_1, r11_2⟩ := ((Blk.ext hA H8.below hA.lt)).all3
    obtain ⟨⟨q12_0, q12_1, q12_2⟩, r12_0, r12_1, r12_2⟩ := (H8.blk 2 rfl).all3
    obtain ⟨⟨q13_0, q13_1, q13_2⟩, r13_0, r13_1, r13_2⟩ := (H8.blk 3 rfl).all3
    have q14 := ((hW.trans (H8.below.mono hW.size)).cell (p := ⟨bt, ot + k, none⟩) hbt).trans hya
    have q15 := (H8.ints 1 rfl).cell k hkt
    have q16 := (H8.ints 1 rfl).free k
    go_still_tail 12, (by kernel_rfl)
    have H9 := (H8.put 1 rfl k (RS * V.strides[k])).drew
    simp only [List.set_cons_zero, List.set_cons_succ] at H9
    go_upto_region 7 with fail
    generalize (w8.setCell ⟨gt, k, none⟩ (.int .i64 (RS * V.strides[k]))).drew = w9 at *
    clear q11_0 q11_1 q11_2 r11_0 r11_1 r11_2 q12_0 q12_1 q12_2 r12_0 r12_1 r12_2 q13_0 q13_1 q13_2 r13_0 r13_1 r13_2 q14 q15 q16
    obtain ⟨⟨q17_0, q17_1, q17_2⟩, r17_0, r17_1, r17_2⟩ := (H9.blk 2 rfl).all3
    have q18 := (H9.ints 1 rfl).cell k (by simpa using hkt)
    have q19 := (H9.ints 1 rfl).free k
    go_upto_region 9 with fail
    have H10 := H9.put 1 rfl k (0)
    simp only [List.set_cons_zero, List.set_cons_succ] at H10
    generalize (w9.setCell ⟨gt, k, none⟩ (.int .i64 (0))) = w10 at *
    rw [List.set_set] at H10
    clear q17_0 q17_1 q17_2 r17_0 r17_1 r17_2 q18 q19
    have hfin : (⟨V.base + cutB V.strides[k] xs, V.shape.set k xs.length, V.strides.set k (cutS V.strides[k] xs)⟩ : VL) = ⟨V.base + RA * V.strides[k], V.shape.set k (xs.length : Int), V.strides.set k 0⟩ := by
      have e1 : cutS V.strides[k] xs = 0 := by unfold cutS; rw [if_pos (by omega)]
      rw [e1, ← HA1.out]
    have HFIN := hid hfin
    clear hfin
    obtain ⟨⟨q20_0, q20_1, q20_2⟩, r20_0, r20_1, r20_2⟩ := (H10.blk 2 rfl).all3
    go_wp2_with fail
    refine (stidy_any _ _ ⟨V.base + RA * V.strides[k], V.shape.set k (xs.length : Int), V.strides.set k 0⟩ W1.heap.size _ (H10.ints 0 rfl) (H10.ints 1 rfl) (H10.apart 0 1 rfl rfl (by omega)) H10.size (by show (V.shape.set k (xs.length : Int)).length ≤ 1000000000000; simp; omega)).mono ?_; rintro e w11 ⟨s8, t8, rfl, ho, hp, hsep8, hb11⟩
    clear q20_0 q20_1 q20_2 r20_0 r20_1 r20_2
    have H11 := H10.nx hb11
    rw [← HFIN.out, ← HQ.out] at ho hp
    rw [← HFIN.out, ← HQ.out]
    clear HQ HFIN HX HIN HA1 HA2 HNM HNO
    obtain ⟨A8, c8, e8⟩ := ho.form
    obtain ⟨B8, d8, f8⟩ := hp.form
    subst e8 f8
    generalize cutL V k ⟨f, t, b, hf, ht⟩ = Z at *
    obtain ⟨⟨q21_0, q21_1, q21_2⟩, r21_0, r21_1, r21_2⟩ := ((Blk.ext hR H11.below hR.lt)).all3
    go_wp2
    refine bodyPost_ret (v := .agg #[.int .i64 Z.base, .slice A8 Z.shape.length c8, .slice B8 Z.strides.length d8]) (by simp [results, Try.results183, go_sem, q21_0, q21_1, q21_2]) rfl ?_
    exact ⟨_, _, rfl, (own3b ho (by omega) _ _ _).mono (by omega), (own3b hp (by omega) _ _ _).mono (by omega), hsep8, below3 (hW.trans (H11.below.mono hW.size)) (by omega) _ _ _⟩
  go_enter Try.func183, Try.ntmps183
  go_wp2_with fail
  rw [HW1.out]
  clear HW1
  have H0 := Hp.start W1
  obtain ⟨⟨q1_0, q1_1, q1_2⟩, r1_0, r1_1, r1_2⟩ := ((Blk.ext hA H0.below hA.lt)).all3
  go_wp2_with fail
  refine (scopyView_any _ V _ ((hv0.ext hW).ext H0.below) (by omega) (by omega)).mono ?_; rintro e w2 ⟨s4, t4, rfl, ho, hp, hsep, hb2⟩
  clear q1_0 q1_1 q1_2 r1_0 r1_1 r1_2
  have H2 := H0.rows ho hp hsep hb2
  simp only [List.nil_append] at H2
  obtain ⟨gs, caps, rfl, -, -⟩ := ho.row (by omega)
  obtain ⟨gt, capt, rfl, -, -⟩ := hp.row (by omega)
  have hcaps9 : caps ≤ 9223372036854775807 := by obtain ⟨_, _, e, _, h, _⟩ := ho.ints; simp only [Value.slice.injEq] at e; obtain ⟨-, -, rfl⟩ := e; unfold maxLen at h; omega
  have hcapt9 : capt ≤ 9223372036854775807 := by obtain ⟨_, _, e, _, h, _⟩ := hp.ints; simp only [Value.slice.injEq] at e; obtain ⟨-, -, rfl⟩ := e; unfold maxLen at h; omega
  clear ho hp hsep
  have H3 := H2.alloc 43 #[.int .i64 V.base, .slice (some ⟨gs, 0, none⟩) V.shape.length caps, .slice (some ⟨gt, 0, none⟩) V.strides.length capt]
  simp only [List.cons_append, List.nil_append] at H3
  go_upto_region 2 with fail
  generalize w2.alloc (.cells #[.int .i64 V.base, .slice (some ⟨gs, 0, none⟩) V.shape.length caps, .slice (some ⟨gt, 0, none⟩) V.strides.length capt] 43) = w3 at *
  generalize w2.heap.size = g3 at H3 ⊢
  have qqA := fun x : ExtW w3 => (Blk.ext (Blk.ext hA H3.below hA.lt) x.h (Blk.ext hA H3.below hA.lt).lt).all3.1
  have qqS := fun x : ExtW w3 => (Blk.ext (Blk.ext hS H3.below hS.lt) x.h (Blk.ext hS H3.below hS.lt).lt).all5.1
  have qf0 := fun x : ExtW w3 => ((hW.trans ((H3.below.trans (x.h.mono H3.size)).mono hW.size)).cell (p := ⟨bs, os + k, none⟩) hbs).trans hxa
  refine region_mk 9 (by kernel_rfl) (by kernel_rfl) ?_
  apply Exists.intro
  simp only [List.take_succ_cons, List.take_zero, List.drop_succ_cons, List.drop_zero]
  repeat (first
    | (apply grow_val (by rfl); (focus (intro x; (go_simp; try with_reducible rfl); done)); simp only [Act.put, List.setIfInBounds_toArray, List.set_cons_zero, List.set_cons_succ])
    | (apply grow_skip (by rfl); simp only [Act.put, List.setIfInBounds_toArray, List.set_cons_zero, List.set_cons_succ]))
  apply grow_ints (xs) (by rfl)
  · intro x hF K Q hK
    go_simp
    go_at_call 106;(with_reducible refine (HX.out _).mono ?_);rintro e w' ⟨v1, rfl, ho, hb⟩;exact hK _ _ hb ho
  intro A6 c6 F6 O6 hF6 hO6
  simp only [Act.put, List.setIfInBounds_toArray, List.set_cons_zero, List.set_cons_succ]
  repeat (first
    | (apply grow_val (by rfl); (focus (intro x; (go_simp; try with_reducible rfl); done)); simp only [Act.put, List.setIfInBounds_toArray, List.set_cons_zero, List.set_cons_succ])
    | (apply grow_skip (by rfl); simp only [Act.put, List.setIfInBounds_toArray, List.set_cons_zero, List.set_cons_succ]))
  apply grow_callF (by rfl)
  · intro x hF K Q hK
    have h6 := (hF6 _ (hF 6 (by kernel_rfl))).ints
    go_simp
    refine (HNO.out _ _ h6).mono ?_
    rintro e w' ⟨rfl, hb⟩
    exact hK _ hb
  simp only [Act.put, List.setIfInBounds_toArray, List.set_cons_zero, List.set_cons_succ]
  repeat (first
    | (apply grow_val (by rfl); (focus (intro x; (go_simp; try with_reducible rfl); done)); simp only [Act.put, List.setIfInBounds_toArray, List.set_cons_zero, List.set_cons_succ])
    | (apply grow_skip (by rfl); simp only [Act.put, List.setIfInBounds_toArray, List.set_cons_zero, List.set_cons_succ]))
  apply grow_blk (56) (#[.int .i64 0, .int .i64 0, .int .i64 0]) (by rfl)
  · intro x
    go_simp
  intro g8 hg8 F8 O8 hF8 hO8
  simp only [Act.put, List.setIfInBounds_toArray, List.set_cons_zero, List.set_cons_succ]
  repeat (first
    | (apply grow_val (by rfl); (focus (intro x; (go_simp; try with_reducible rfl); done)); simp only [Act.put, List.setIfInBounds_toArray, List.set_cons_zero, List.set_cons_succ])
    | (apply grow_skip (by rfl); simp only [Act.put, List.setIfInBounds_toArray, List.set_cons_zero, List.set_cons_succ]))
  refine grow_nil ?_
  intro x hF hS9
  have h8 := hF8 _ (hF 8 (by omega))
  obtain ⟨w4, hb4⟩ := x
  simp only at h8
  clear hF hS9 hF6 hO6 hF8 hO8 qqA qqS qf0 F6 O6 F8 O8
  have H4 := H3.add (A := [.blk g8 56 #[.int .i64 0, .int .i64 0, .int .i64 0]]) hb4 (fun i hi => by simp at hi; subst hi; exact ⟨hg8, h8⟩) (List.pairwise_singleton ..)
  simp only [List.cons_append, List.nil_append] at H4
  clear h8
  obtain ⟨⟨q2_0, q2_1, q2_2⟩, r2_0, r2_1, r2_2⟩ := (H4.blk 3 rfl).all3
  have H5 := H4.store3 3 rfl (.int .i64 RA) (.int .i64 RB) (.int .i64 RS)
  simp only [List.set_cons_zero, List.set_cons_succ] at H5
  go_upto_region 3 with fail
  generalize ((w4.setCell ⟨g8, 0, none⟩ (.int .i64 RA)).setCell ⟨g8, 1, none⟩ (.int .i64 RB)).setCell ⟨g8, 2, none⟩ (.int .i64 RS) = w5 at *
  clear q2_0 q2_1 q2_2 r2_0 r2_1 r2_2
  obtain ⟨⟨q3_0, q3_1, q3_2⟩, r3_0, r3_1, r3_2⟩ := (H5.blk 3 rfl).all3
  go_wp2_with fail
  refine (HNM.out _).mono ?_; rintro e w6 ⟨r9, rfl, ho, hb6⟩
  clear q3_0 q3_1 q3_2 r3_0 r3_1 r3_2
  obtain ⟨A9, c9, e9⟩ := ho.form
  subst e9
  have hc99 : c9 ≤ 9223372036854775807 := by obtain ⟨_, _, e, _, h, _⟩ := ho.ints; simp only [Value.slice.injEq] at e; obtain ⟨-, -, rfl⟩ := e; unfold maxLen at h; omega
  have H6 := H5.row ho hb6
  simp only [List.cons_append, List.nil_append] at H6
  clear ho
  obtain ⟨⟨q4_0, q4_1, q4_2⟩, r4_0, r4_1, r4_2⟩ := (H6.blk 2 rfl).all3
  have q5 := (H6.ints 0 rfl).cell k hk
  have q6 := (H6.ints 0 rfl).free k
  go_upto_region 4 with fail
  have H7 := H6.put 0 rfl k ((xs.length : Int))
  simp only [List.set_cons_zero] at H7
  go_upto_region 5 with fail
  generalize (w6.setCell ⟨gs, k, none⟩ (.int .i64 ((xs.length : Int)))) = w7 at *
  clear q4_0 q4_1 q4_2 r4_0 r4_1 r4_2 q5 q6
  obtain ⟨⟨q7_0, q7_1, q7_2⟩, r7_0, r7_1, r7_2⟩ := ((Blk.ext hA H7.below hA.lt)).all3
  obtain ⟨⟨q8_0, q8_1, q8_2⟩, r8_0, r8_1, r8_2⟩ := (H7.blk 2 rfl).all3
  obtain ⟨⟨q9_0, q9_1, q9_2⟩, r9_0, r9_1, r9_2⟩ := (H7.blk 3 rfl).all3
  have q10 := ((hW.trans (H7.below.mono hW.size)).cell (p := ⟨bt, ot + k, none⟩) hbt).trans hya
  go_still_tail 12, (by kernel_rfl)
  have H8 := (H7.store 2 rfl 0 (.int .i64 (V.base + RA * V.strides[k]))).drew
  simp only [List.set_cons_zero, List.set_cons_succ, List.setIfInBounds_toArray] at H8
  go_upto_region 6 with fail
  generalize (w7.setCell ⟨g3, 0, none⟩ (.int .i64 (V.base + RA * V.strides[k]))).drew = w8 at *
  clear q7_0 q7_1 q7_2 r7_0 r7_1 r7_2 q8_0 q8_1 q8_2 r8_0 r8_1 r8_2 q9_0 q9_1 q9_2 r9_0 r9_1 r9_2 q10
  obtain ⟨⟨q11_0, q11_1, q11_2⟩, r11_0, r11_1, r11_2⟩ := ((Blk.ext hA H8.below hA.lt)).all3
  obtain ⟨⟨q12_0, q12_1, q12_2⟩, r12_0, r12_1, r12_2⟩ := (H8.blk 2 rfl).all3
  obtain ⟨⟨q13_0, q13_1, q13_2⟩, r13_0, r13_1, r13_2⟩ := (H8.blk 3 rfl).all3
  have q14 := ((hW.trans (H8.below.mono hW.size)).cell (p := ⟨bt, ot + k, none⟩) hbt).trans hya
  have q15 := (H8.ints 1 rfl).cell k hkt
  have q16 := (H8.ints 1 rfl).free k
  go_still_tail 12, (by kernel_rfl)
  have H9 := (H8.put 1 rfl k (RS * V.strides[k])).drew
  simp only [List.set_cons_zero, List.set_cons_succ] at H9
  go_upto_region 7 with fail
  generalize (w8.setCell ⟨gt, k, none⟩ (.int .i64 (RS * V.strides[k]))).drew = w9 at *
  clear q11_0 q11_1 q11_2 r11_0 r11_1 r11_2 q12_0 q12_1 q12_2 r12_0 r12_1 r12_2 q13_0 q13_1 q13_2 r13_0 r13_1 r13_2 q14 q15 q16
  obtain ⟨⟨q17_0, q17_1, q17_2⟩, r17_0, r17_1, r17_2⟩ := (H9.blk 2 rfl).all3
  have q18 := (H9.ints 1 rfl).cell k (by simpa using hkt)
  have q19 := (H9.ints 1 rfl).free k
  go_upto_region 9 with fail
  clear q17_0 q17_1 q17_2 r17_0 r17_1 r17_2 q18 q19
  have hfin : (⟨V.base + cutB V.strides[k] xs, V.shape.set k xs.length, V.strides.set k (cutS V.strides[k] xs)⟩ : VL) = ⟨V.base + RA * V.strides[k], V.shape.set k (xs.length : Int), V.strides.set k (RS * V.strides[k])⟩ := by
    rw [← HA2.out (by omega), ← HA1.out]
  have HFIN := hid hfin
  clear hfin
  obtain ⟨⟨q20_0, q20_1, q20_2⟩, r20_0, r20_1, r20_2⟩ := (H9.blk 2 rfl).all3
  go_wp2_with fail
  refine (stidy_any _ _ ⟨V.base + RA * V.strides[k], V.shape.set k (xs.length : Int), V.strides.set k (RS * V.strides[k])⟩ W1.heap.size _ (H9.ints 0 rfl) (H9.ints 1 rfl) (H9.apart 0 1 rfl rfl (by omega)) H9.size (by show (V.shape.set k (xs.length : Int)).length ≤ 1000000000000; simp; omega)).mono ?_; rintro e w10 ⟨s8, t8, rfl, ho, hp, hsep8, hb10⟩
  clear q20_0 q20_1 q20_2 r20_0 r20_1 r20_2
  have H10 := H9.nx hb10
  rw [← HFIN.out, ← HQ.out] at ho hp
  rw [← HFIN.out, ← HQ.out]
  clear HQ HFIN HX HIN HA1 HA2 HNM HNO
  obtain ⟨A8, c8, e8⟩ := ho.form
  obtain ⟨B8, d8, f8⟩ := hp.form
  subst e8 f8
  generalize cutL V k ⟨f, t, b, hf, ht⟩ = Z at *
  obtain ⟨⟨q21_0, q21_1, q21_2⟩, r21_0, r21_1, r21_2⟩ := ((Blk.ext hR H10.below hR.lt)).all3
  go_wp2
  refine bodyPost_ret (v := .agg #[.int .i64 Z.base, .slice A8 Z.shape.length c8, .slice B8 Z.strides.length d8]) (by simp [results, Try.results183, go_sem, q21_0, q21_1, q21_2]) rfl ?_
  exact ⟨_, _, rfl, (own3b ho (by omega) _ _ _).mono (by omega), (own3b hp (by omega) _ _ _).mono (by omega), hsep8, below3 (hW.trans (H10.below.mono hW.size)) (by omega) _ _ _⟩

end Go.Proofs.Ytldblcolnjkcaaa
