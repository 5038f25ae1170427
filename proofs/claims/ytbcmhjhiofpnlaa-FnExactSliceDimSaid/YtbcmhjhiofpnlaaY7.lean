/- Contract: sliceDim. No conditions. (printed by mkc.py) -/
import Derived.Test.YtbcmhjhiofpnlaaY6
import Derived.Test.YtbcmhjhiofpnlaaY4
import Derived.Test.YtbcmhjhiofpnlaaHp
import Derived.Test.YtbcmhjhiofpnlaaGw
import Derived.Test.YtbcmhjhiofpnlaaV2
import Derived.StillTailTactics
import Derived.Deep.Cut
namespace Go.Proofs.Ytbcmhjhiofpnlaa
open Go.RowKit

set_option maxRecDepth 100000 in
set_option maxHeartbeats 6400000 in
theorem sliceDim_any (v vs : Value) (V : VL) (k : Nat) (s : SL) (w : World) (hv : ViewV w v V) (hvs : vs = s.val) (cV : isViewL V = true) (hk : k < V.shape.length) (hok : okSl s = true) :
    Calls Try.prog 85 #[v, .int .i64 k, vs] w (RetView w (cutL V k s)) := by
  subst hvs
  obtain ⟨f, t, b, hf, ht⟩ := s
  have hb0 := (okSl_and hok).2.2.2
  have hbb := (okSl_and hok).2.2.1
  have hl4 := (isViewL_lens cV).1
  have hl4t := (isViewL_lens cV).2
  have hkt : k < V.strides.length := by have := (isViewL_and cV).2.1; omega
  have hsb := shape_le' cV hk
  have htb := stride_le cV hkt
  have hbase := base_le cV
  have hgd : V.shape.getD k 0 = V.shape[k] := by simp [hk]
  have hgt : V.strides.getD k 0 = V.strides[k] := by simp [hkt]
  obtain ⟨xs, hxs⟩ : ∃ xs, xs = idxL V.shape[k] ⟨f, t, b, hf, ht⟩ := ⟨_, rfl⟩
  have hin : ∀ x ∈ xs, 0 ≤ x ∧ x < V.shape[k] := by rw [hxs]; exact idx_in ⟨hsb.1, hsb.2⟩ hb0
  have hlen : (xs.length : Int) ≤ V.shape[k] := by rw [hxs]; exact idx_len ⟨hsb.1, hsb.2⟩ hb0
  have HQ := hid (show cutL V k ⟨f, t, b, hf, ht⟩ = tidyL ⟨V.base + cutB V.strides[k] xs, V.shape.set k xs.length, V.strides.set k (cutS V.strides[k] xs)⟩ by
    rw [cutL, hgd, ← hxs, cutV, hgt])
  have HX : Hid (∀ w' : World, Calls Try.prog 113 #[.int .i64 V.shape[k], .agg #[.int .i64 f, .int .i64 t, .int .i64 b, .bool hf, .bool ht]] w' (RetOwn w' xs)) := hid (by
    intro w'
    rw [hxs]
    exact indicesOf_any _ _ ⟨f, t, b, hf, ht⟩ w' rfl ⟨hsb.1, hsb.2⟩ hok)
  have HIN := hid hin
  clear hin hgd hgt
  have hxl : xs.length ≤ 60 := by omega
  simp only [SL.val]
  have hv0 := hv
  obtain ⟨sv, tv, rfl, hsv, htv⟩ := hv
  obtain ⟨As, cs, es, -, hcs, -⟩ := id hsv
  subst es
  obtain ⟨At, ct, et, -, hct, -⟩ := id htv
  subst et
  unfold maxLen at hcs hct
  obtain ⟨A', c', e', -, -, hr⟩ := id hsv
  simp only [Value.slice.injEq, true_and] at e'
  obtain ⟨rfl, rfl⟩ := e'
  obtain ⟨bs, os, rfl, hbs, hcs1⟩ := hr (by omega)
  have hxa := hcs1 k V.shape[k] (by simp [hk])
  clear hr hcs1
  obtain ⟨A', c', e', -, -, hr⟩ := id htv
  simp only [Value.slice.injEq, true_and] at e'
  obtain ⟨rfl, rfl⟩ := e'
  obtain ⟨bt, ot, rfl, hbt, hct1⟩ := hr (by omega)
  have hya := hct1 k V.strides[k] (by simp [hkt])
  clear hr hct1
  have hia : (k : Int) < (V.shape.length : Int) := by omega
  have hja : (k : Int) < (V.strides.length : Int) := by omega
  have HS := hid hxs
  clear hxs
  have hA := ((Blk.new w 28 #[.int .i64 V.base, .slice (some ⟨bs, os, none⟩) V.shape.length cs, .slice (some ⟨bt, ot, none⟩) V.strides.length ct]).alloc (.cells #[.int .i64 f, .int .i64 t, .int .i64 b, .bool hf, .bool ht] 32)).alloc (.cells #[.int .i64 0, .slice none 0 0, .slice none 0 0] 28)
  have hS := (Blk.new (w.alloc (.cells #[.int .i64 V.base, .slice (some ⟨bs, os, none⟩) V.shape.length cs, .slice (some ⟨bt, ot, none⟩) V.strides.length ct] 28)) 32 #[.int .i64 f, .int .i64 t, .int .i64 b, .bool hf, .bool ht]).alloc (.cells #[.int .i64 0, .slice none 0 0, .slice none 0 0] 28)
  simp only [World.size_alloc] at hS
  have hR := Blk.new ((w.alloc (.cells #[.int .i64 V.base, .slice (some ⟨bs, os, none⟩) V.shape.length cs, .slice (some ⟨bt, ot, none⟩) V.strides.length ct] 28)).alloc (.cells #[.int .i64 f, .int .i64 t, .int .i64 b, .bool hf, .bool ht] 32)) 28 #[.int .i64 0, .slice none 0 0, .slice none 0 0]
  simp only [World.size_alloc] at hR
  have hW : Below w.heap.size w (((w.alloc (.cells #[.int .i64 V.base, .slice (some ⟨bs, os, none⟩) V.shape.length cs, .slice (some ⟨bt, ot, none⟩) V.strides.length ct] 28)).alloc (.cells #[.int .i64 f, .int .i64 t, .int .i64 b, .bool hf, .bool ht] 32)).alloc (.cells #[.int .i64 0, .slice none 0 0, .slice none 0 0] 28)) := (((Below.refl _ _).alloc (Nat.le_refl _) _).alloc (by simp <;> omega) _).alloc (by simp <;> omega) _
  have hnA := hA.lt
  have hnS := hS.lt
  have hnR := hR.lt
  generalize hW1 : (((w.alloc (.cells #[.int .i64 V.base, .slice (some ⟨bs, os, none⟩) V.shape.length cs, .slice (some ⟨bt, ot, none⟩) V.strides.length ct] 28)).alloc (.cells #[.int .i64 f, .int .i64 t, .int .i64 b, .bool hf, .bool ht] 32)).alloc (.cells #[.int .i64 0, .slice none 0 0, .slice none 0 0] 28)) = W1 at *
  have HZ1 := hid (show W1.heap.size = w.heap.size + 3 by rw [← hW1]; simp)
  have HW1 := hid hW1
  clear hW1
  by_cases hc0 : xs.length < 1
  · have HN0 := hid (show xs.length = 0 by omega)
    go_enter Try.func85, Try.ntmps85
    go_wp2_with fail
    rw [HW1.out]
    clear HW1
    have H0 := Hp.start W1
    have qqA := fun x : ExtW W1 => (Blk.ext hA x.h hA.lt).all3.1
    have qqS := fun x : ExtW W1 => (Blk.ext hS x.h hS.lt).all5.1
    have qf0 := fun x : ExtW W1 => ((hW.trans ((H0.below.trans (x.h.mono H0.size)).mono hW.size)).cell (p := ⟨bs, os + k, none⟩) hbs).trans hxa
    refine region_mk 7 (by kernel_rfl) (by kernel_rfl) ?_
    apply Exists.intro
    simp only [List.take_succ_cons, List.take_zero, List.drop_succ_cons, List.drop_zero]
    repeat (first
      | (apply grow_val (by rfl); (focus (intro x; (go_simp; try with_reducible rfl); done)); simp only [Act.put, List.setIfInBounds_toArray, List.set_cons_zero, List.set_cons_succ])
      | (apply grow_skip (by rfl); simp only [Act.put, List.setIfInBounds_toArray, List.set_cons_zero, List.set_cons_succ]))
    apply grow_ints (xs) (by rfl)
    · intro x hF K Q hK
      go_simp
      go_at_call 113;(with_reducible refine (HX.out _).mono ?_);rintro e w' ⟨v1, rfl, ho, hb⟩;exact hK _ _ hb ho
    intro A6 c6 F6 O6 hF6 hO6
    simp only [Act.put, List.setIfInBounds_toArray, List.set_cons_zero, List.set_cons_succ]
    repeat (first
      | (apply grow_val (by rfl); (focus (intro x; (go_simp; try with_reducible rfl); done)); simp only [Act.put, List.setIfInBounds_toArray, List.set_cons_zero, List.set_cons_succ])
      | (apply grow_skip (by rfl); simp only [Act.put, List.setIfInBounds_toArray, List.set_cons_zero, List.set_cons_succ]))
    refine grow_nil ?_
    intro x hF hS9
    have h6 := hF6 _ (hF 6 (by omega))
    obtain ⟨w2, hb2⟩ := x
    simp only at h6
    clear hF hS9 hF6 hO6 qqA qqS qf0 F6 O6
    have H2 := H0.row (xs := xs) h6 hb2
    simp only [List.nil_append] at H2
    have hc69 : c6 ≤ 9223372036854775807 := by obtain ⟨_, _, e, _, h, _⟩ := h6.ints; simp only [Value.slice.injEq] at e; obtain ⟨-, -, rfl⟩ := e; unfold maxLen at h; omega
    clear h6
    obtain ⟨⟨q1_0, q1_1, q1_2⟩, r1_0, r1_1, r1_2⟩ := ((Blk.ext hA H2.below hA.lt)).all3
    go_wp2_with fail
    refine (icopyView_any _ V _ ((hv0.ext hW).ext H2.below) (by omega) (by omega)).mono ?_; rintro e w3 ⟨s4, t4, rfl, ho, hp, hsep, hb3⟩
    clear q1_0 q1_1 q1_2 r1_0 r1_1 r1_2
    have H3 := H2.rows ho hp hsep hb3
    simp only [List.cons_append, List.nil_append] at H3
    obtain ⟨gs, caps, rfl, -, -⟩ := ho.row (by omega)
    obtain ⟨gt, capt, rfl, -, -⟩ := hp.row (by omega)
    have hcaps9 : caps ≤ 9223372036854775807 := by obtain ⟨_, _, e, _, h, _⟩ := ho.ints; simp only [Value.slice.injEq] at e; obtain ⟨-, -, rfl⟩ := e; unfold maxLen at h; omega
    have hcapt9 : capt ≤ 9223372036854775807 := by obtain ⟨_, _, e, _, h, _⟩ := hp.ints; simp only [Value.slice.injEq] at e; obtain ⟨-, -, rfl⟩ := e; unfold maxLen at h; omega
    clear ho hp hsep
    have H4 := H3.alloc 28 #[.int .i64 V.base, .slice (some ⟨gs, 0, none⟩) V.shape.length caps, .slice (some ⟨gt, 0, none⟩) V.strides.length capt]
    simp only [List.cons_append, List.nil_append] at H4
    go_upto_region 3 with fail
    generalize w3.alloc (.cells #[.int .i64 V.base, .slice (some ⟨gs, 0, none⟩) V.shape.length caps, .slice (some ⟨gt, 0, none⟩) V.strides.length capt] 28) = w4 at *
    generalize w3.heap.size = g4 at H4 ⊢
    obtain ⟨⟨q2_0, q2_1, q2_2⟩, r2_0, r2_1, r2_2⟩ := (H4.blk 3 rfl).all3
    have q3 := (H4.ints 1 rfl).cell k hk
    have q4 := (H4.ints 1 rfl).free k
    have H5 := H4.put 1 rfl k ((xs.length : Int))
    simp only [List.set_cons_zero, List.set_cons_succ] at H5
    go_upto_region 4 with fail
    generalize (w4.setCell ⟨gs, k, none⟩ (.int .i64 ((xs.length : Int)))) = w5 at *
    clear q2_0 q2_1 q2_2 r2_0 r2_1 r2_2 q3 q4
    obtain ⟨⟨q5_0, q5_1, q5_2⟩, r5_0, r5_1, r5_2⟩ := (H5.blk 3 rfl).all3
    have q6 := (H5.ints 2 rfl).cell k hkt
    have q7 := (H5.ints 2 rfl).free k
    go_upto_region 5 with fail
    have H6 := H5.put 2 rfl k (0)
    simp only [List.set_cons_zero, List.set_cons_succ] at H6
    generalize (w5.setCell ⟨gt, k, none⟩ (.int .i64 (0))) = w6 at *
    clear q5_0 q5_1 q5_2 r5_0 r5_1 r5_2 q6 q7
    go_upto_region 9 with fail
    have hfin : (⟨V.base + cutB V.strides[k] xs, V.shape.set k xs.length, V.strides.set k (cutS V.strides[k] xs)⟩ : VL) = ⟨V.base, V.shape.set k (xs.length : Int), V.strides.set k 0⟩ := by simp [cutB, cutS, HN0.out]
    have HFIN := hid hfin
    clear hfin
    obtain ⟨⟨q8_0, q8_1, q8_2⟩, r8_0, r8_1, r8_2⟩ := (H6.blk 3 rfl).all3
    go_wp2_with fail
    refine (cleared_any _ _ ⟨V.base, V.shape.set k (xs.length : Int), V.strides.set k 0⟩ W1.heap.size _ (H6.ints 1 rfl) (H6.ints 2 rfl) (H6.apart 1 2 rfl rfl (by omega)) H6.size (by show (V.shape.set k (xs.length : Int)).length ≤ 1000000; simp; omega)).mono ?_; rintro e w7 ⟨s8, t8, rfl, ho, hp, hsep8, hb7⟩
    clear q8_0 q8_1 q8_2 r8_0 r8_1 r8_2
    have H7 := H6.nx hb7
    rw [← HFIN.out, ← HQ.out] at ho hp
    rw [← HFIN.out, ← HQ.out]
    clear HQ HFIN HX HIN
    obtain ⟨A8, c8, e8⟩ := ho.form
    obtain ⟨B8, d8, f8⟩ := hp.form
    subst e8 f8
    generalize cutL V k ⟨f, t, b, hf, ht⟩ = Z at *
    obtain ⟨⟨q9_0, q9_1, q9_2⟩, r9_0, r9_1, r9_2⟩ := ((Blk.ext hR H7.below hR.lt)).all3
    go_wp2
    refine bodyPost_ret (v := .agg #[.int .i64 Z.base, .slice A8 Z.shape.length c8, .slice B8 Z.strides.length d8]) (by simp [results, Try.results85, go_sem, q9_0, q9_1, q9_2]) rfl ?_
    exact ⟨_, _, rfl, (own3b ho (by omega) _ _ _).mono (by omega), (own3b hp (by omega) _ _ _).mono (by omega), hsep8, below3 (hW.trans (H7.below.mono hW.size)) (by omega) _ _ _⟩
  have b0 := HIN.out xs[0] (List.getElem_mem (by omega))
  have hm0 := mul_bd (i := xs[0]) (s := V.strides[k]) b0.1 (by omega) htb.1 htb.2
  rw [Int.mul_comm] at hm0
  have hwm : IntKind.i64.wrap (V.strides[k] * xs[0]) = V.strides[k] * xs[0] := IntWalk.i64_in _ (by omega)
  have hwb : IntKind.i64.wrap (V.base + V.strides[k] * xs[0]) = V.base + V.strides[k] * xs[0] := IntWalk.i64_in _ (by omega)
  by_cases hc1 : xs.length < 2
  · have HN1 := hid (show xs.length = 1 by omega)
    go_enter Try.func85, Try.ntmps85
    go_wp2_with fail
    rw [HW1.out]
    clear HW1
    have H0 := Hp.start W1
    have qqA := fun x : ExtW W1 => (Blk.ext hA x.h hA.lt).all3.1
    have qqS := fun x : ExtW W1 => (Blk.ext hS x.h hS.lt).all5.1
    have qf0 := fun x : ExtW W1 => ((hW.trans ((H0.below.trans (x.h.mono H0.size)).mono hW.size)).cell (p := ⟨bs, os + k, none⟩) hbs).trans hxa
    refine region_mk 7 (by kernel_rfl) (by kernel_rfl) ?_
    apply Exists.intro
    simp only [List.take_succ_cons, List.take_zero, List.drop_succ_cons, List.drop_zero]
    repeat (first
      | (apply grow_val (by rfl); (focus (intro x; (go_simp; try with_reducible rfl); done)); simp only [Act.put, List.setIfInBounds_toArray, List.set_cons_zero, List.set_cons_succ])
      | (apply grow_skip (by rfl); simp only [Act.put, List.setIfInBounds_toArray, List.set_cons_zero, List.set_cons_succ]))
    apply grow_ints (xs) (by rfl)
    · intro x hF K Q hK
      go_simp
      go_at_call 113;(with_reducible refine (HX.out _).mono ?_);rintro e w' ⟨v1, rfl, ho, hb⟩;exact hK _ _ hb ho
    intro A6 c6 F6 O6 hF6 hO6
    simp only [Act.put, List.setIfInBounds_toArray, List.set_cons_zero, List.set_cons_succ]
    repeat (first
      | (apply grow_val (by rfl); (focus (intro x; (go_simp; try with_reducible rfl); done)); simp only [Act.put, List.setIfInBounds_toArray, List.set_cons_zero, List.set_cons_succ])
      | (apply grow_skip (by rfl); simp only [Act.put, List.setIfInBounds_toArray, List.set_cons_zero, List.set_cons_succ]))
    refine grow_nil ?_
    intro x hF hS9
    have h6 := hF6 _ (hF 6 (by omega))
    obtain ⟨w2, hb2⟩ := x
    simp only at h6
    clear hF hS9 hF6 hO6 qqA qqS qf0 F6 O6
    have H2 := H0.row (xs := xs) h6 hb2
    simp only [List.nil_append] at H2
    obtain ⟨gx, capx, ex, -, -⟩ := h6.row (by omega)
    simp only [Value.slice.injEq] at ex
    obtain ⟨rfl, -, rfl⟩ := ex
    have hc69 : c6 ≤ 9223372036854775807 := by obtain ⟨_, _, e, _, h, _⟩ := h6.ints; simp only [Value.slice.injEq] at e; obtain ⟨-, -, rfl⟩ := e; unfold maxLen at h; omega
    clear h6
    obtain ⟨⟨q1_0, q1_1, q1_2⟩, r1_0, r1_1, r1_2⟩ := ((Blk.ext hA H2.below hA.lt)).all3
    go_wp2_with fail
    refine (icopyView_any _ V _ ((hv0.ext hW).ext H2.below) (by omega) (by omega)).mono ?_; rintro e w3 ⟨s4, t4, rfl, ho, hp, hsep, hb3⟩
    clear q1_0 q1_1 q1_2 r1_0 r1_1 r1_2
    have H3 := H2.rows ho hp hsep hb3
    simp only [List.cons_append, List.nil_append] at H3
    obtain ⟨gs, caps, rfl, -, -⟩ := ho.row (by omega)
    obtain ⟨gt, capt, rfl, -, -⟩ := hp.row (by omega)
    have hcaps9 : caps ≤ 9223372036854775807 := by obtain ⟨_, _, e, _, h, _⟩ := ho.ints; simp only [Value.slice.injEq] at e; obtain ⟨-, -, rfl⟩ := e; unfold maxLen at h; omega
    have hcapt9 : capt ≤ 9223372036854775807 := by obtain ⟨_, _, e, _, h, _⟩ := hp.ints; simp only [Value.slice.injEq] at e; obtain ⟨-, -, rfl⟩ := e; unfold maxLen at h; omega
    clear ho hp hsep
    have H4 := H3.alloc 28 #[.int .i64 V.base, .slice (some ⟨gs, 0, none⟩) V.shape.length caps, .slice (some ⟨gt, 0, none⟩) V.strides.length capt]
    simp only [List.cons_append, List.nil_append] at H4
    go_upto_region 3 with fail
    generalize w3.alloc (.cells #[.int .i64 V.base, .slice (some ⟨gs, 0, none⟩) V.shape.length caps, .slice (some ⟨gt, 0, none⟩) V.strides.length capt] 28) = w4 at *
    generalize w3.heap.size = g4 at H4 ⊢
    obtain ⟨⟨q2_0, q2_1, q2_2⟩, r2_0, r2_1, r2_2⟩ := (H4.blk 3 rfl).all3
    have q3 := (H4.ints 1 rfl).cell k hk
    have q4 := (H4.ints 1 rfl).free k
    have H5 := H4.put 1 rfl k ((xs.length : Int))
    simp only [List.set_cons_zero, List.set_cons_succ] at H5
    go_upto_region 4 with fail
    generalize (w4.setCell ⟨gs, k, none⟩ (.int .i64 ((xs.length : Int)))) = w5 at *
    clear q2_0 q2_1 q2_2 r2_0 r2_1 r2_2 q3 q4
    obtain ⟨⟨q5_0, q5_1, q5_2⟩, r5_0, r5_1, r5_2⟩ := (H5.blk 3 rfl).all3
    have q6 := (H5.ints 2 rfl).cell k hkt
    have q7 := (H5.ints 2 rfl).free k
    go_upto_region 5 with fail
    have H6 := H5.put 2 rfl k (0)
    simp only [List.set_cons_zero, List.set_cons_succ] at H6
    generalize (w5.setCell ⟨gt, k, none⟩ (.int .i64 (0))) = w6 at *
    clear q5_0 q5_1 q5_2 r5_0 r5_1 r5_2 q6 q7
    obtain ⟨⟨q8_0, q8_1, q8_2⟩, r8_0, r8_1, r8_2⟩ := ((Blk.ext hA H6.below hA.lt)).all3
    obtain ⟨⟨q9_0, q9_1, q9_2⟩, r9_0, r9_1, r9_2⟩ := (H6.blk 3 rfl).all3
    have q10 := ((hW.trans (H6.below.mono hW.size)).cell (p := ⟨bt, ot + k, none⟩) hbt).trans hya
    have q11 := (H6.ints 0 rfl).cell 0 (by omega)
    go_upto_region 6 with fail
    go_still_tail 13, (by kernel_rfl)
    have H7 := (H6.store 3 rfl 0 (.int .i64 (V.base + V.strides[k] * xs[0]))).drew
    simp only [List.set_cons_zero, List.set_cons_succ, List.setIfInBounds_toArray] at H7
    go_upto_region 7 with fail
    generalize (w6.setCell ⟨g4, 0, none⟩ (.int .i64 (V.base + V.strides[k] * xs[0]))).drew = w7 at *
    clear q8_0 q8_1 q8_2 r8_0 r8_1 r8_2 q9_0 q9_1 q9_2 r9_0 r9_1 r9_2 q10 q11
    go_upto_region 9 with fail
    have hfin : (⟨V.base + cutB V.strides[k] xs, V.shape.set k xs.length, V.strides.set k (cutS V.strides[k] xs)⟩ : VL) = ⟨V.base + V.strides[k] * xs[0], V.shape.set k (xs.length : Int), V.strides.set k 0⟩ := by simp [cutB, cutS, HN1.out]
    have HFIN := hid hfin
    clear hfin
    obtain ⟨⟨q12_0, q12_1, q12_2⟩, r12_0, r12_1, r12_2⟩ := (H7.blk 3 rfl).all3
    go_wp2_with fail
    refine (cleared_any _ _ ⟨V.base + V.strides[k] * xs[0], V.shape.set k (xs.length : Int), V.strides.set k 0⟩ W1.heap.size _ (H7.ints 1 rfl) (H7.ints 2 rfl) (H7.apart 1 2 rfl rfl (by omega)) H7.size (by show (V.shape.set k (xs.length : Int)).length ≤ 1000000; simp; omega)).mono ?_; rintro e w8 ⟨s8, t8, rfl, ho, hp, hsep8, hb8⟩
    clear q12_0 q12_1 q12_2 r12_0 r12_1 r12_2
    have H8 := H7.nx hb8
    rw [← HFIN.out, ← HQ.out] at ho hp
    rw [← HFIN.out, ← HQ.out]
    clear HQ HFIN HX HIN
    obtain ⟨A8, c8, e8⟩ := ho.form
    obtain ⟨B8, d8, f8⟩ := hp.form
    subst e8 f8
    generalize cutL V k ⟨f, t, b, hf, ht⟩ = Z at *
    obtain ⟨⟨q13_0, q13_1, q13_2⟩, r13_0, r13_1, r13_2⟩ := ((Blk.ext hR H8.below hR.lt)).all3
    go_wp2
    refine bodyPost_ret (v := .agg #[.int .i64 Z.base, .slice A8 Z.shape.length c8, .slice B8 Z.strides.length d8]) (by simp [results, Try.results85, go_sem, q13_0, q13_1, q13_2]) rfl ?_
    exact ⟨_, _, rfl, (own3b ho (by omega) _ _ _).mono (by omega), (own3b hp (by omega) _ _ _).mono (by omega), hsep8, below3 (hW.trans (H8.below.mono hW.size)) (by omega) _ _ _⟩
  have b1 := HIN.out xs[1] (List.getElem_mem (by omega))
  have hwd : IntKind.i64.wrap (xs[1] - xs[0]) = xs[1] - xs[0] := IntWalk.i64_in _ (by omega)
  have hm1 : -7200 ≤ V.strides[k] * (xs[1] - xs[0]) ∧ V.strides[k] * (xs[1] - xs[0]) ≤ 7200 := by
    have h := mul_bd (i := xs[1]) (s := V.strides[k]) b1.1 (by omega) htb.1 htb.2
    rw [Int.mul_comm] at h
    rw [Int.mul_sub]
    omega
  have hwt : IntKind.i64.wrap (V.strides[k] * (xs[1] - xs[0])) = V.strides[k] * (xs[1] - xs[0]) := IntWalk.i64_in _ (by omega)
  go_enter Try.func85, Try.ntmps85
  go_wp2_with fail
  rw [HW1.out]
  clear HW1
  have H0 := Hp.start W1
  have qqA := fun x : ExtW W1 => (Blk.ext hA x.h hA.lt).all3.1
  have qqS := fun x : ExtW W1 => (Blk.ext hS x.h hS.lt).all5.1
  have qf0 := fun x : ExtW W1 => ((hW.trans ((H0.below.trans (x.h.mono H0.size)).mono hW.size)).cell (p := ⟨bs, os + k, none⟩) hbs).trans hxa
  refine region_mk 7 (by kernel_rfl) (by kernel_rfl) ?_
  apply Exists.intro
  simp only [List.take_succ_cons, List.take_zero, List.drop_succ_cons, List.drop_zero]
  repeat (first
    | (apply grow_val (by rfl); (focus (intro x; (go_simp; try with_reducible rfl); done)); simp only [Act.put, List.setIfInBounds_toArray, List.set_cons_zero, List.set_cons_succ])
    | (apply grow_skip (by rfl); simp only [Act.put, List.setIfInBounds_toArray, List.set_cons_zero, List.set_cons_succ]))
  apply grow_ints (xs) (by rfl)
  · intro x hF K Q hK
    go_simp
    go_at_call 113;(with_reducible refine (HX.out _).mono ?_);rintro e w' ⟨v1, rfl, ho, hb⟩;exact hK _ _ hb ho
  intro A6 c6 F6 O6 hF6 hO6
  simp only [Act.put, List.setIfInBounds_toArray, List.set_cons_zero, List.set_cons_succ]
  repeat (first
    | (apply grow_val (by rfl); (focus (intro x; (go_simp; try with_reducible rfl); done)); simp only [Act.put, List.setIfInBounds_toArray, List.set_cons_zero, List.set_cons_succ])
    | (apply grow_skip (by rfl); simp only [Act.put, List.setIfInBounds_toArray, List.set_cons_zero, List.set_cons_succ]))
  refine grow_nil ?_
  intro x hF hS9
  have h6 := hF6 _ (hF 6 (by omega))
  obtain ⟨w2, hb2⟩ := x
  simp only at h6
  clear hF hS9 hF6 hO6 qqA qqS qf0 F6 O6
  have H2 := H0.row (xs := xs) h6 hb2
  simp only [List.nil_append] at H2
  obtain ⟨gx, capx, ex, -, -⟩ := h6.row (by omega)
  simp only [Value.slice.injEq] at ex
  obtain ⟨rfl, -, rfl⟩ := ex
  have hc69 : c6 ≤ 9223372036854775807 := by obtain ⟨_, _, e, _, h, _⟩ := h6.ints; simp only [Value.slice.injEq] at e; obtain ⟨-, -, rfl⟩ := e; unfold maxLen at h; omega
  clear h6
  obtain ⟨⟨q1_0, q1_1, q1_2⟩, r1_0, r1_1, r1_2⟩ := ((Blk.ext hA H2.below hA.lt)).all3
  go_wp2_with fail
  refine (icopyView_any _ V _ ((hv0.ext hW).ext H2.below) (by omega) (by omega)).mono ?_; rintro e w3 ⟨s4, t4, rfl, ho, hp, hsep, hb3⟩
  clear q1_0 q1_1 q1_2 r1_0 r1_1 r1_2
  have H3 := H2.rows ho hp hsep hb3
  simp only [List.cons_append, List.nil_append] at H3
  obtain ⟨gs, caps, rfl, -, -⟩ := ho.row (by omega)
  obtain ⟨gt, capt, rfl, -, -⟩ := hp.row (by omega)
  have hcaps9 : caps ≤ 9223372036854775807 := by obtain ⟨_, _, e, _, h, _⟩ := ho.ints; simp only [Value.slice.injEq] at e; obtain ⟨-, -, rfl⟩ := e; unfold maxLen at h; omega
  have hcapt9 : capt ≤ 9223372036854775807 := by obtain ⟨_, _, e, _, h, _⟩ := hp.ints; simp only [Value.slice.injEq] at e; obtain ⟨-, -, rfl⟩ := e; unfold maxLen at h; omega
  clear ho hp hsep
  have H4 := H3.alloc 28 #[.int .i64 V.base, .slice (some ⟨gs, 0, none⟩) V.shape.length caps, .slice (some ⟨gt, 0, none⟩) V.strides.length capt]
  simp only [List.cons_append, List.nil_append] at H4
  go_upto_region 3 with fail
  generalize w3.alloc (.cells #[.int .i64 V.base, .slice (some ⟨gs, 0, none⟩) V.shape.length caps, .slice (some ⟨gt, 0, none⟩) V.strides.length capt] 28) = w4 at *
  generalize w3.heap.size = g4 at H4 ⊢
  obtain ⟨⟨q2_0, q2_1, q2_2⟩, r2_0, r2_1, r2_2⟩ := (H4.blk 3 rfl).all3
  have q3 := (H4.ints 1 rfl).cell k hk
  have q4 := (H4.ints 1 rfl).free k
  have H5 := H4.put 1 rfl k ((xs.length : Int))
  simp only [List.set_cons_zero, List.set_cons_succ] at H5
  go_upto_region 4 with fail
  generalize (w4.setCell ⟨gs, k, none⟩ (.int .i64 ((xs.length : Int)))) = w5 at *
  clear q2_0 q2_1 q2_2 r2_0 r2_1 r2_2 q3 q4
  obtain ⟨⟨q5_0, q5_1, q5_2⟩, r5_0, r5_1, r5_2⟩ := (H5.blk 3 rfl).all3
  have q6 := (H5.ints 2 rfl).cell k hkt
  have q7 := (H5.ints 2 rfl).free k
  go_upto_region 5 with fail
  have H6 := H5.put 2 rfl k (0)
  simp only [List.set_cons_zero, List.set_cons_succ] at H6
  generalize (w5.setCell ⟨gt, k, none⟩ (.int .i64 (0))) = w6 at *
  clear q5_0 q5_1 q5_2 r5_0 r5_1 r5_2 q6 q7
  obtain ⟨⟨q8_0, q8_1, q8_2⟩, r8_0, r8_1, r8_2⟩ := ((Blk.ext hA H6.below hA.lt)).all3
  obtain ⟨⟨q9_0, q9_1, q9_2⟩, r9_0, r9_1, r9_2⟩ := (H6.blk 3 rfl).all3
  have q10 := ((hW.trans (H6.below.mono hW.size)).cell (p := ⟨bt, ot + k, none⟩) hbt).trans hya
  have q11 := (H6.ints 0 rfl).cell 0 (by omega)
  go_upto_region 6 with fail
  go_still_tail 13, (by kernel_rfl)
  have H7 := (H6.store 3 rfl 0 (.int .i64 (V.base + V.strides[k] * xs[0]))).drew
  simp only [List.set_cons_zero, List.set_cons_succ, List.setIfInBounds_toArray] at H7
  go_upto_region 7 with fail
  generalize (w6.setCell ⟨g4, 0, none⟩ (.int .i64 (V.base + V.strides[k] * xs[0]))).drew = w7 at *
  clear q8_0 q8_1 q8_2 r8_0 r8_1 r8_2 q9_0 q9_1 q9_2 r9_0 r9_1 r9_2 q10 q11
  obtain ⟨⟨q12_0, q12_1, q12_2⟩, r12_0, r12_1, r12_2⟩ := ((Blk.ext hA H7.below hA.lt)).all3
  obtain ⟨⟨q13_0, q13_1, q13_2⟩, r13_0, r13_1, r13_2⟩ := (H7.blk 3 rfl).all3
  have q14 := ((hW.trans (H7.below.mono hW.size)).cell (p := ⟨bt, ot + k, none⟩) hbt).trans hya
  have q15 := (H7.ints 0 rfl).cell 0 (by omega)
  have q16 := (H7.ints 0 rfl).cell 1 (by omega)
  have q17 := (H7.ints 2 rfl).cell k (by simpa using hkt)
  have q18 := (H7.ints 2 rfl).free k
  go_upto_region 8 with fail
  go_still_tail 17, (by kernel_rfl)
  have H8 := (H7.put 2 rfl k (V.strides[k] * (xs[1] - xs[0]))).drew
  simp only [List.set_cons_zero, List.set_cons_succ] at H8
  go_upto_region 9 with fail
  generalize (w7.setCell ⟨gt, k, none⟩ (.int .i64 (V.strides[k] * (xs[1] - xs[0])))).drew = w8 at *
  clear q12_0 q12_1 q12_2 r12_0 r12_1 r12_2 q13_0 q13_1 q13_2 r13_0 r13_1 r13_2 q14 q15 q16 q17 q18
  rw [List.set_set] at H8
  have hfin : (⟨V.base + cutB V.strides[k] xs, V.shape.set k xs.length, V.strides.set k (cutS V.strides[k] xs)⟩ : VL) = ⟨V.base + V.strides[k] * xs[0], V.shape.set k (xs.length : Int), V.strides.set k (V.strides[k] * (xs[1] - xs[0]))⟩ := by
    have e1 : ¬ xs.length ≤ 1 := by omega
    have e2 : ¬ xs.length = 0 := by omega
    have l0 : 0 < xs.length := by omega
    have l1 : 1 < xs.length := by omega
    simp [cutB, cutS, e1, e2, l0, l1]
  have HFIN := hid hfin
  clear hfin
  obtain ⟨⟨q19_0, q19_1, q19_2⟩, r19_0, r19_1, r19_2⟩ := (H8.blk 3 rfl).all3
  go_wp2_with fail
  refine (cleared_any _ _ ⟨V.base + V.strides[k] * xs[0], V.shape.set k (xs.length : Int), V.strides.set k (V.strides[k] * (xs[1] - xs[0]))⟩ W1.heap.size _ (H8.ints 1 rfl) (H8.ints 2 rfl) (H8.apart 1 2 rfl rfl (by omega)) H8.size (by show (V.shape.set k (xs.length : Int)).length ≤ 1000000; simp; omega)).mono ?_; rintro e w9 ⟨s8, t8, rfl, ho, hp, hsep8, hb9⟩
  clear q19_0 q19_1 q19_2 r19_0 r19_1 r19_2
  have H9 := H8.nx hb9
  rw [← HFIN.out, ← HQ.out] at ho hp
  rw [← HFIN.out, ← HQ.out]
  clear HQ HFIN HX HIN
  obtain ⟨A8, c8, e8⟩ := ho.form
  obtain ⟨B8, d8, f8⟩ := hp.form
  subst e8 f8
  generalize cutL V k ⟨f, t, b, hf, ht⟩ = Z at *
  obtain ⟨⟨q20_0, q20_1, q20_2⟩, r20_0, r20_1, r20_2⟩ := ((Blk.ext hR H9.below hR.lt)).all3
  go_wp2
  refine bodyPost_ret (v := .agg #[.int .i64 Z.base, .slice A8 Z.shape.length c8, .slice B8 Z.strides.length d8]) (by simp [results, Try.results85, go_sem, q20_0, q20_1, q20_2]) rfl ?_
  exact ⟨_, _, rfl, (own3b ho (by omega) _ _ _).mono (by omega), (own3b hp (by omega) _ _ _).mono (by omega), hsep8, below3 (hW.trans (H9.below.mono hW.size)) (by omega) _ _ _⟩

end Go.Proofs.Ytbcmhjhiofpnlaa
