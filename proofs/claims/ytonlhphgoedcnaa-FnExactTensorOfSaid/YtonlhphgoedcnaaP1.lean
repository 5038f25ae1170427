/- The walks of exact laws: each answers true at every input and changes nothing that was there. No conditions. (printed by genlaw2.py) -/
import Derived.Test.YtonlhphgoedcnaaT13
import Derived.Test.YtonlhphgoedcnaaL3
import Derived.Test.YtonlhphgoedcnaaGt
import Derived.Test.YtonlhphgoedcnaaGp
import Derived.Test.YtonlhphgoedcnaaVA
import Derived.Deep.RegionHeld3
namespace Go.Proofs.Ytonlhphgoedcnaa
open Go.RowKit

set_option maxRecDepth 100000 in
set_option maxHeartbeats 3200000 in
theorem FnExactTensorOf_walk (vM : Value) (M : List Int) (vV : Value) (V : VL) (w : World) (hvM : Ints w vM M) (hvV : ViewV w vV V) :
    Calls Try.prog 7 #[vM, vV] w fun e w' => e = .returned (.bool true) ∧ Below w.heap.size w w' := by
  have hv0V := hvV
  obtain ⟨sV, tV, rfl, -, -⟩ := hvV
  have hW : Below w.heap.size w (w.alloc (.cells #[.int .i64 V.base, sV, tV] 46)) := Below.alloc (Below.refl w.heap.size w) (by simp <;> omega) (.cells #[.int .i64 V.base, sV, tV] 46)
  have bV_0 : Blk (w.alloc (.cells #[.int .i64 V.base, sV, tV] 46)) (w.heap.size) 46 #[.int .i64 V.base, sV, tV] := (Blk.new w 46 #[.int .i64 V.base, sV, tV])
  have hv1M := hvM.ext hW
  have hv1V := hv0V.ext hW
  by_cases hlM : 1048576 < M.length
  · obtain ⟨A0, c0, rfl, hk0, hm0, -⟩ := hvM
    unfold maxLen at hm0
    clear hv1M
    go_enter Try.func7, Try.ntmps7
    go_wp2
    go_ret
    exact ⟨rfl, hW⟩
  have hlM : M.length ≤ 1048576 := by omega
  by_cases hsV : 1048576 < V.shape.length + V.strides.length
  · have hzV : 1048576 < V.shape.length + V.strides.length := by omega
    obtain ⟨AM0, cM0, rfl, hkM0, hmM0, -⟩ := hvM
    unfold maxLen at hmM0
    go_enter Try.func7, Try.ntmps7
    go_wp2_with fail
    generalize (w.alloc (.cells #[.int .i64 V.base, sV, tV] 46)) = w0 at *
    have hT0 : Below w0.heap.size w0 w0 := Below.refl _ _
    have zlV : w.heap.size < w0.heap.size := bV_0.lt
    obtain ⟨⟨qV_0_0, qV_0_1, qV_0_2⟩, -⟩ := id bV_0.all3
    refine (szView_no _ V 1048576 _ (hv1V.ext hT0) hzV (by omega)).mono ?_; rintro e w1 ⟨rfl, hb1⟩
    clear qV_0_0 qV_0_1 qV_0_2
    have z1 : w0.heap.size ≤ w1.heap.size := hb1.size
    have hT1 : Below w0.heap.size w0 w1 := hT0.trans (hb1.mono (by omega))
    go_wp2
    go_ret
    exact ⟨rfl, hW.trans (hT1.mono hW.size)⟩
  have hsz1V : V.shape.length ≤ 1048576 := by omega
  have hsz2V : V.strides.length ≤ 1048576 := by omega
  obtain ⟨AM0, cM0, rfl, hkM0, hmM0, -⟩ := id hvM
  unfold maxLen at hmM0
  go_enter Try.func7, Try.ntmps7
  go_wp2_with fail
  generalize (w.alloc (.cells #[.int .i64 V.base, sV, tV] 46)) = w0 at *
  have hT0 : Below w0.heap.size w0 w0 := Below.refl _ _
  have zlV : w.heap.size < w0.heap.size := bV_0.lt
  obtain ⟨⟨qV_0_0, qV_0_1, qV_0_2⟩, -⟩ := id bV_0.all3
  refine (szView_ok _ V 1048576 _ hv1V (by omega) (by omega)).mono ?_; rintro e w1 ⟨rfl, hb1⟩
  clear qV_0_0 qV_0_1 qV_0_2
  have z1 : w0.heap.size ≤ w1.heap.size := hb1.size
  have hT1 : Below w0.heap.size w0 w1 := hT0.trans (hb1.mono (by omega))
  have bV_1 := (Blk.ext bV_0 hb1 (Blk.lt bV_0))
  obtain ⟨⟨qV_1_0, qV_1_1, qV_1_2⟩, -⟩ := id bV_1.all3
  go_wp2_with fail
  clear qV_1_0 qV_1_1 qV_1_2
  have qqV := fun x : ExtW w1 => (Blk.ext bV_1 x.h (Blk.lt bV_1)).all3.1
  refine region_mkL 9 [7] (by kernel_rfl) (by kernel_rfl) (by kernel_rfl) (fun _ _ _ _ _ h => h) ?_
  apply Exists.intro
  simp only [List.take_succ_cons, List.take_zero, List.drop_succ_cons, List.drop_zero]
  repeat (first
    | (apply grow_val (by rfl); (focus (intro x; (go_simp; try with_reducible rfl); done)); simp only [Act.put, List.setIfInBounds_toArray, List.set_cons_zero, List.set_cons_succ])
    | (apply grow_skip (by rfl); simp only [Act.put, List.setIfInBounds_toArray, List.set_cons_zero, List.set_cons_succ]))
  apply grow_ints M (by rfl)
  · intro x hF K Q hK
    go_simp
    (go_at_call 30; refine (toIntS_any _ M _ (hv1M.ext (hT1.trans (x.h.mono (by omega)))) hlM).mono ?_; rintro e w' ⟨v', rfl, ho, hb⟩; exact hK _ _ hb ho)
  intro Aw1 cw1 Fw1 Ow1 hFw1 hOw1
  simp only [Act.put, List.setIfInBounds_toArray, List.set_cons_zero, List.set_cons_succ]
  repeat (first
    | (apply grow_val (by rfl); (focus (intro x; (go_simp; try with_reducible rfl); done)); simp only [Act.put, List.setIfInBounds_toArray, List.set_cons_zero, List.set_cons_succ])
    | (apply grow_skip (by rfl); simp only [Act.put, List.setIfInBounds_toArray, List.set_cons_zero, List.set_cons_succ]))
  apply grow_viewF (fun v => v) id_inj V (by rfl)
  · intro x hF K Q hK
    go_simp
    (go_at_call 36; refine (toView_any _ V _ (hv1V.ext (hT1.trans (x.h.mono (by omega)))) hsz1V hsz2V).mono ?_; rintro e w' ⟨s', t', rfl, ho, hp, hs, hb⟩; exact hK _ _ _ hb ho hp hs)
  intro Aw3 cw3 Bw3 dw3 Fw3 Ow3 hFw3 hOw3
  simp only [Act.put, List.setIfInBounds_toArray, List.set_cons_zero, List.set_cons_succ]
  repeat (first
    | (apply grow_val (by rfl); (focus (intro x; (go_simp; try with_reducible rfl); done)); simp only [Act.put, List.setIfInBounds_toArray, List.set_cons_zero, List.set_cons_succ])
    | (apply grow_skip (by rfl); simp only [Act.put, List.setIfInBounds_toArray, List.set_cons_zero, List.set_cons_succ]))
  apply grow_tensF (tupB (holdL M V)) (tupB_inj (holdL M V)) (tensorL M V) (by rfl)
  · intro x hF K Q hK
    have h1 := hFw1 _ (hF 1 (by kernel_rfl))
    have h3 := hFw3 _ (hF 3 (by kernel_rfl))
    go_simp
    (go_at_call 35; refine (sTensorOf_any _ _ M V _ (Own.ints h1) (Own.view h3.1 h3.2.1)).mono ?_; rintro e w' ⟨s', t', rfl, ho, hp, hs, hb⟩; exact hK _ _ _ hb ho hp hs)
  intro Aw4 cw4 Bw4 dw4 Fw4 Ow4 hFw4 hOw4
  simp only [tupB, Act.put, List.setIfInBounds_toArray, List.set_cons_zero, List.set_cons_succ]
  repeat (first
    | (apply grow_val (by rfl); (focus (intro x; (go_simp; try with_reducible rfl); done)); simp only [Act.put, List.setIfInBounds_toArray, List.set_cons_zero, List.set_cons_succ])
    | (apply grow_skip (by rfl); simp only [Act.put, List.setIfInBounds_toArray, List.set_cons_zero, List.set_cons_succ]))
  apply grow_fn (fun d => d.getD 0 undef) [.tuple #[.agg #[.slice Aw4 (tensorL M V).shape.length cw4, .slice Bw4 (tensorL M V).values.length dw4], .bool (holdL M V)]] (by kernel_rfl) (by rfl)
  · intro x hF
    refine ⟨_, by (go_simp; try rfl), rfl⟩
  intro vw5 Fw5 hFw5
  simp only [Act.put, List.setIfInBounds_toArray, List.set_cons_zero, List.set_cons_succ]
  apply grow_fn (fun d => tupAt 0 (d.getD 0 undef)) [vw5] (by kernel_rfl) (by rfl)
  · intro x hF
    have e : vw5 = .tuple #[.agg #[.slice Aw4 (tensorL M V).shape.length cw4, .slice Bw4 (tensorL M V).values.length dw4], .bool (holdL M V)] := hFw5 _ (hF 5 (by kernel_rfl))
    subst e
    refine ⟨_, by (go_simp; try rfl), rfl⟩
  intro vw6 Fw6 hFw6
  simp only [Act.put, List.setIfInBounds_toArray, List.set_cons_zero, List.set_cons_succ]
  apply grow_fn (fun d => tupAt 1 (d.getD 0 undef)) [vw5] (by kernel_rfl) (by rfl)
  · intro x hF
    have e : vw5 = .tuple #[.agg #[.slice Aw4 (tensorL M V).shape.length cw4, .slice Bw4 (tensorL M V).values.length dw4], .bool (holdL M V)] := hFw5 _ (hF 5 (by kernel_rfl))
    subst e
    refine ⟨_, by (go_simp; try rfl), rfl⟩
  intro vw7 Fw7 hFw7
  simp only [Act.put, List.setIfInBounds_toArray, List.set_cons_zero, List.set_cons_succ]
  apply grow_blk (49) (#[.slice none 0 0, .slice none 0 0]) (by rfl)
  · intro x
    go_simp
  intro gw8 hgw8 Fw8 Ow8 hFw8 hOw8
  simp only [Act.put, List.setIfInBounds_toArray, List.set_cons_zero, List.set_cons_succ]
  repeat (first
    | (apply grow_val (by rfl); (focus (intro x; (go_simp; try with_reducible rfl); done)); simp only [Act.put, List.setIfInBounds_toArray, List.set_cons_zero, List.set_cons_succ])
    | (apply grow_skip (by rfl); simp only [Act.put, List.setIfInBounds_toArray, List.set_cons_zero, List.set_cons_succ]))
  refine grow_nil ?_
  intro x hF hS
  have hm := hFw4 _ (hF 4 (by omega))
  have hB := hFw8 _ (hF 8 (by omega))
  have em : vw5 = .tuple #[.agg #[.slice Aw4 (tensorL M V).shape.length cw4, .slice Bw4 (tensorL M V).values.length dw4], .bool (holdL M V)] := hFw5 _ (hF 5 (by omega))
  subst em
  have e0 : vw6 = .agg #[.slice Aw4 (tensorL M V).shape.length cw4, .slice Bw4 (tensorL M V).values.length dw4] := hFw6 _ (hF 6 (by omega))
  have e1 : vw7 = .bool (holdL M V) := hFw7 _ (hF 7 (by omega))
  subst e0 e1
  have hdis : ∀ q, within2 (.slice Aw4 (tensorL M V).shape.length cw4) (.slice Bw4 (tensorL M V).values.length dw4) q → q ≠ gw8 := fun q h e => hS 4 8 (by omega) (by omega) (by omega) q (hOw4 q h) (e ▸ hOw8)
  obtain ⟨wx, hbx⟩ := x
  simp only at hm hB
  clear hF hS
  have hgl := hB.lt
  have hn1 : ∀ q, Value.ownBlock (.slice Aw4 (tensorL M V).shape.length cw4) = some q → q ≠ gw8 := fun q h => hdis q ⟨q, q, .inl h, .inl h, Nat.le_refl _, Nat.le_refl _⟩
  have hn2 : ∀ q, Value.ownBlock (.slice Bw4 (tensorL M V).values.length dw4) = some q → q ≠ gw8 := fun q h => hdis q ⟨q, q, .inr h, .inr h, Nat.le_refl _, Nat.le_refl _⟩
  obtain ⟨low, hiw, l1w, l2w, l3w, sgwrs, sgwrt, ldw⟩ := ival hm.1.seg hm.2.1.seg hdis hgw8 hgl
  obtain ⟨hNg, hbg⟩ := built_tens hB hbx hm.1 hm.2.1 hm.2.2 hgw8 hn1 hn2
  have hzz : wx.heap.size = ((wx.setCell ⟨gw8, 0, none⟩ (.slice Aw4 (tensorL M V).shape.length cw4)).setCell ⟨gw8, 1, none⟩ (.slice Bw4 (tensorL M V).values.length dw4)).heap.size := by simp
  have HZZ := hid hzz
  have HN := hid hNg
  clear hzz hNg hdis hn1 hn2 hm
  clear qqV hFw4 hFw5 hFw6 hFw7 hFw8 hFw1 hFw3 hOw4 hOw8 hOw1 hOw3
  obtain ⟨⟨y0, y1⟩, y2, y3⟩ := hB.all2
  obtain ⟨uV_0, uV_1, uV_2⟩ := (Blk.ext bV_1 hbx (Blk.lt bV_1)).all3.1
  obtain ⟨mV_0, mV_1, mV_2⟩ := (Blk.far2 (g' := gw8) (Blk.ext bV_1 hbx (Blk.lt bV_1)) (by omega) (.slice Aw4 (tensorL M V).shape.length cw4) (.slice Bw4 (tensorL M V).values.length dw4)).all3.1
  obtain ⟨nw_0, nw_1⟩ := HN.out.box.all2.1
  have hb2 := hbg
  clear hbg
  go_wp2_with fail
  clear y0 y1 y2 y3 uV_0 uV_1 uV_2 mV_0 mV_1 mV_2 nw_0 nw_1
  have hzz := HZZ.out
  have hNg := HN.out
  clear HZZ HN hB hbx
  generalize (wx.setCell ⟨gw8, 0, none⟩ (.slice Aw4 (tensorL M V).shape.length cw4)).setCell ⟨gw8, 1, none⟩ (.slice Bw4 (tensorL M V).values.length dw4) = w2 at *
  have bw_2 := hNg.box
  have howrs := hNg.s
  have howrt := hNg.t
  have sepw := hNg.sep
  clear hNg
  have z2 : w1.heap.size ≤ w2.heap.size := hb2.size
  have hT2 : Below w0.heap.size w0 w2 := hT1.trans (hb2.mono (by omega))
  have zlw : gw8 < w2.heap.size := bw_2.lt
  have bV_2 := (Blk.ext bV_1 hb2 (Blk.lt bV_1))
  clear bV_1
  obtain ⟨⟨qV_2_0, qV_2_1, qV_2_2⟩, -⟩ := id bV_2.all3
  obtain ⟨⟨qw_2_0, qw_2_1⟩, -⟩ := id bw_2.all2
  go_wp2_with fail
  refine (toIntS_any _ M _ (hv1M.ext hT2) hlM).mono ?_; rintro e w3 ⟨xxM, rfl, hoxM, hb3⟩
  clear qV_2_0 qV_2_1 qV_2_2 qw_2_0 qw_2_1
  have z3 : w2.heap.size ≤ w3.heap.size := hb3.size
  have hT3 : Below w0.heap.size w0 w3 := hT2.trans (hb3.mono (by omega))
  have bV_3 := (Blk.ext bV_2 hb3 (Blk.lt bV_2))
  clear bV_2
  obtain ⟨⟨qV_3_0, qV_3_1, qV_3_2⟩, -⟩ := id bV_3.all3
  have bw_3 := (Blk.ext bw_2 hb3 (Blk.lt bw_2))
  clear bw_2
  obtain ⟨⟨qw_3_0, qw_3_1⟩, -⟩ := id bw_3.all2
  have sgxM := hoxM.seg
  go_wp2_with fail
  refine (toView_any _ V _ (hv1V.ext hT3) hsz1V hsz2V).mono ?_; rintro e w4 ⟨xxVs, xxVt, rfl, hoxVs, hoxVt, sepxV, hb4⟩
  clear qV_3_0 qV_3_1 qV_3_2 qw_3_0 qw_3_1
  have z4 : w3.heap.size ≤ w4.heap.size := hb4.size
  have hT4 : Below w0.heap.size w0 w4 := hT3.trans (hb4.mono (by omega))
  have bV_4 := (Blk.ext bV_3 hb4 (Blk.lt bV_3))
  clear bV_3
  obtain ⟨⟨qV_4_0, qV_4_1, qV_4_2⟩, -⟩ := id bV_4.all3
  have bw_4 := (Blk.ext bw_3 hb4 (Blk.lt bw_3))
  clear bw_3
  obtain ⟨⟨qw_4_0, qw_4_1⟩, -⟩ := id bw_4.all2
  have sgxVs := hoxVs.seg
  have sgxVt := hoxVt.seg
  obtain ⟨AxVs, cxVs, exVs⟩ := hoxVs.form
  obtain ⟨AxVt, cxVt, exVt⟩ := hoxVt.form
  subst exVs exVt
  have bxV_5 := Blk.new w4 27 #[.int .i64 V.base, .slice AxVs V.shape.length cxVs, .slice AxVt V.strides.length cxVt]
  have hb5 := below_alloc w4 (.cells #[.int .i64 V.base, .slice AxVs V.shape.length cxVs, .slice AxVt V.strides.length cxVt] 27)
  obtain ⟨mV_4_0, mV_4_1, mV_4_2⟩ := (Blk.ext bV_4 (below_alloc w4 (.cells #[.int .i64 V.base, .slice AxVs V.shape.length cxVs, .slice AxVt V.strides.length cxVt] 27)) (Blk.lt bV_4)).all3.1
  obtain ⟨mw_4_0, mw_4_1⟩ := (Blk.ext bw_4 (below_alloc w4 (.cells #[.int .i64 V.base, .slice AxVs V.shape.length cxVs, .slice AxVt V.strides.length cxVt] 27)) (Blk.lt bw_4)).all2.1
  go_wp2_with fail
  generalize w4.alloc (.cells #[.int .i64 V.base, .slice AxVs V.shape.length cxVs, .slice AxVt V.strides.length cxVt] 27) = w5 at *
  clear qV_4_0 qV_4_1 qV_4_2 qw_4_0 qw_4_1 mV_4_0 mV_4_1 mV_4_2 mw_4_0 mw_4_1
  have z5 : w4.heap.size ≤ w5.heap.size := hb5.size
  have hT5 : Below w0.heap.size w0 w5 := hT4.trans (hb5.mono (by omega))
  have zlxV : w4.heap.size < w5.heap.size := bxV_5.lt
  have bV_5 := (Blk.ext bV_4 hb5 (Blk.lt bV_4))
  clear bV_4
  obtain ⟨⟨qV_5_0, qV_5_1, qV_5_2⟩, -⟩ := id bV_5.all3
  have bw_5 := (Blk.ext bw_4 hb5 (Blk.lt bw_4))
  clear bw_4
  obtain ⟨⟨qw_5_0, qw_5_1⟩, -⟩ := id bw_5.all2
  obtain ⟨⟨qxV_5_0, qxV_5_1, qxV_5_2⟩, -⟩ := id bxV_5.all3
  go_wp2_with fail
  refine (TensorOf_any _ _ M V _ (Own.ints ((hoxM.ext hb4).ext hb5)) (Own.view (hoxVs.ext hb5) (hoxVt.ext hb5))).mono ?_; rintro e w6 ⟨rgs, rgt, rfl, hogrs, hogrt, sepg, hb6⟩
  clear qV_5_0 qV_5_1 qV_5_2 qw_5_0 qw_5_1 qxV_5_0 qxV_5_1 qxV_5_2
  have z6 : w5.heap.size ≤ w6.heap.size := hb6.size
  have hT6 : Below w0.heap.size w0 w6 := hT5.trans (hb6.mono (by omega))
  have bV_6 := (Blk.ext bV_5 hb6 (Blk.lt bV_5))
  clear bV_5
  obtain ⟨⟨qV_6_0, qV_6_1, qV_6_2⟩, -⟩ := id bV_6.all3
  have bw_6 := (Blk.ext bw_5 hb6 (Blk.lt bw_5))
  clear bw_5
  obtain ⟨⟨qw_6_0, qw_6_1⟩, -⟩ := id bw_6.all2
  have bxV_6 := (Blk.ext bxV_5 hb6 (Blk.lt bxV_5))
  clear bxV_5
  obtain ⟨⟨qxV_6_0, qxV_6_1, qxV_6_2⟩, -⟩ := id bxV_6.all3
  have sggrs := hogrs.seg
  have sggrt := hogrt.seg
  obtain ⟨Ags, cgs, egs⟩ := hogrs.form
  obtain ⟨Agt, cgt, egt⟩ := hogrt.form
  subst egs egt
  have bg_7 := Blk.new w6 49 #[.slice Ags (tensorL M V).shape.length cgs, .slice Agt (tensorL M V).values.length cgt]
  have hb7 := below_alloc w6 (.cells #[.slice Ags (tensorL M V).shape.length cgs, .slice Agt (tensorL M V).values.length cgt] 49)
  obtain ⟨mV_6_0, mV_6_1, mV_6_2⟩ := (Blk.ext bV_6 (below_alloc w6 (.cells #[.slice Ags (tensorL M V).shape.length cgs, .slice Agt (tensorL M V).values.length cgt] 49)) (Blk.lt bV_6)).all3.1
  obtain ⟨mw_6_0, mw_6_1⟩ := (Blk.ext bw_6 (below_alloc w6 (.cells #[.slice Ags (tensorL M V).shape.length cgs, .slice Agt (tensorL M V).values.length cgt] 49)) (Blk.lt bw_6)).all2.1
  obtain ⟨mxV_6_0, mxV_6_1, mxV_6_2⟩ := (Blk.ext bxV_6 (below_alloc w6 (.cells #[.slice Ags (tensorL M V).shape.length cgs, .slice Agt (tensorL M V).values.length cgt] 49)) (Blk.lt bxV_6)).all3.1
  go_wp2_with fail
  generalize w6.alloc (.cells #[.slice Ags (tensorL M V).shape.length cgs, .slice Agt (tensorL M V).values.length cgt] 49) = w7 at *
  clear qV_6_0 qV_6_1 qV_6_2 qw_6_0 qw_6_1 qxV_6_0 qxV_6_1 qxV_6_2 mV_6_0 mV_6_1 mV_6_2 mw_6_0 mw_6_1 mxV_6_0 mxV_6_1 mxV_6_2
  have z7 : w6.heap.size ≤ w7.heap.size := hb7.size
  have hT7 : Below w0.heap.size w0 w7 := hT6.trans (hb7.mono (by omega))
  have zlg : w6.heap.size < w7.heap.size := bg_7.lt
  have bV_7 := (Blk.ext bV_6 hb7 (Blk.lt bV_6))
  clear bV_6
  obtain ⟨⟨qV_7_0, qV_7_1, qV_7_2⟩, -⟩ := id bV_7.all3
  have bw_7 := (Blk.ext bw_6 hb7 (Blk.lt bw_6))
  clear bw_6
  obtain ⟨⟨qw_7_0, qw_7_1⟩, -⟩ := id bw_7.all2
  have bxV_7 := (Blk.ext bxV_6 hb7 (Blk.lt bxV_6))
  clear bxV_6
  obtain ⟨⟨qxV_7_0, qxV_7_1, qxV_7_2⟩, -⟩ := id bxV_7.all3
  obtain ⟨⟨qg_7_0, qg_7_1⟩, -⟩ := id bg_7.all2
  go_wp2_with fail
  refine (eqTensor_yes _ _ (tensorL M V) _ (Own.tensor (hogrs.ext hb7) (hogrt.ext hb7)) (Own.tensor (((((howrs.ext hb3).ext hb4).ext hb5).ext hb6).ext hb7) (((((howrt.ext hb3).ext hb4).ext hb5).ext hb6).ext hb7))).mono ?_; rintro e w8 ⟨rfl, hb8⟩
  clear qV_7_0 qV_7_1 qV_7_2 qw_7_0 qw_7_1 qxV_7_0 qxV_7_1 qxV_7_2 qg_7_0 qg_7_1
  have z8 : w7.heap.size ≤ w8.heap.size := hb8.size
  have hT8 : Below w0.heap.size w0 w8 := hT7.trans (hb8.mono (by omega))
  have bV_8 := (Blk.ext bV_7 hb8 (Blk.lt bV_7))
  clear bV_7
  obtain ⟨⟨qV_8_0, qV_8_1, qV_8_2⟩, -⟩ := id bV_8.all3
  have bw_8 := (Blk.ext bw_7 hb8 (Blk.lt bw_7))
  clear bw_7
  obtain ⟨⟨qw_8_0, qw_8_1⟩, -⟩ := id bw_8.all2
  have bxV_8 := (Blk.ext bxV_7 hb8 (Blk.lt bxV_7))
  clear bxV_7
  obtain ⟨⟨qxV_8_0, qxV_8_1, qxV_8_2⟩, -⟩ := id bxV_8.all3
  have bg_8 := (Blk.ext bg_7 hb8 (Blk.lt bg_7))
  clear bg_7
  obtain ⟨⟨qg_8_0, qg_8_1⟩, -⟩ := id bg_8.all2
  go_wp2_with fail
  refine (toIntS_any _ M _ (hv1M.ext hT8) hlM).mono ?_; rintro e w9 ⟨yy, rfl, hoyy, hb9⟩
  clear qV_8_0 qV_8_1 qV_8_2 qw_8_0 qw_8_1 qxV_8_0 qxV_8_1 qxV_8_2 qg_8_0 qg_8_1
  have z9 : w8.heap.size ≤ w9.heap.size := hb9.size
  have hT9 : Below w0.heap.size w0 w9 := hT8.trans (hb9.mono (by omega))
  have bV_9 := (Blk.ext bV_8 hb9 (Blk.lt bV_8))
  clear bV_8
  obtain ⟨⟨qV_9_0, qV_9_1, qV_9_2⟩, -⟩ := id bV_9.all3
  have bw_9 := (Blk.ext bw_8 hb9 (Blk.lt bw_8))
  clear bw_8
  obtain ⟨⟨qw_9_0, qw_9_1⟩, -⟩ := id bw_9.all2
  have bxV_9 := (Blk.ext bxV_8 hb9 (Blk.lt bxV_8))
  clear bxV_8
  obtain ⟨⟨qxV_9_0, qxV_9_1, qxV_9_2⟩, -⟩ := id bxV_9.all3
  have bg_9 := (Blk.ext bg_8 hb9 (Blk.lt bg_8))
  clear bg_8
  obtain ⟨⟨qg_9_0, qg_9_1⟩, -⟩ := id bg_9.all2
  go_wp2_with fail
  refine (eqIntS_yes _ _ M _ (Own.ints ((((((hoxM.ext hb4).ext hb5).ext hb6).ext hb7).ext hb8).ext hb9)) (Own.ints hoyy)).mono ?_; rintro e w10 ⟨rfl, hb10⟩
  clear qV_9_0 qV_9_1 qV_9_2 qw_9_0 qw_9_1 qxV_9_0 qxV_9_1 qxV_9_2 qg_9_0 qg_9_1
  have z10 : w9.heap.size ≤ w10.heap.size := hb10.size
  have hT10 : Below w0.heap.size w0 w10 := hT9.trans (hb10.mono (by omega))
  have bV_10 := (Blk.ext bV_9 hb10 (Blk.lt bV_9))
  clear bV_9
  obtain ⟨⟨qV_10_0, qV_10_1, qV_10_2⟩, -⟩ := id bV_10.all3
  have bw_10 := (Blk.ext bw_9 hb10 (Blk.lt bw_9))
  clear bw_9
  obtain ⟨⟨qw_10_0, qw_10_1⟩, -⟩ := id bw_10.all2
  have bxV_10 := (Blk.ext bxV_9 hb10 (Blk.lt bxV_9))
  clear bxV_9
  obtain ⟨⟨qxV_10_0, qxV_10_1, qxV_10_2⟩, -⟩ := id bxV_10.all3
  have bg_10 := (Blk.ext bg_9 hb10 (Blk.lt bg_9))
  clear bg_9
  obtain ⟨⟨qg_10_0, qg_10_1⟩, -⟩ := id bg_10.all2
  clear hoyy
  go_wp2_with fail
  have hTd : Below w0.heap.size w0 w10.drew := hT10.drew
  have hoys := (((((((hoxVs.ext hb5).ext hb6).ext hb7).ext hb8).ext hb9).ext hb10).ext (below_drew w10))
  have hoyt := (((((((hoxVt.ext hb5).ext hb6).ext hb7).ext hb8).ext hb9).ext hb10).ext (below_drew w10))
  go_region_held3 (fun w' => w'.cell? ⟨w4.heap.size, 0, none⟩ = some (.int .i64 V.base) ∧ w'.cell? ⟨w4.heap.size, 1, none⟩ = some (.slice AxVs V.shape.length cxVs) ∧ w'.cell? ⟨w4.heap.size, 2, none⟩ = some (.slice AxVt V.strides.length cxVt) ∧ w'.cell? ⟨w.heap.size, 0, none⟩ = some (.int .i64 V.base) ∧ w'.cell? ⟨w.heap.size, 1, none⟩ = some (sV) ∧ w'.cell? ⟨w.heap.size, 2, none⟩ = some (tV))
    (first | go_keep | exact hK12 | exact hK13)
    (first
      | (go_at_call 36; refine (toView_any _ V _ (hv1V.ext hTd) hsz1V hsz2V).mono ?_; rintro e w12 ⟨ys, yt, rfl, hozs, hozt, -, hb12⟩; have hK12 : w12.cell? ⟨w4.heap.size, 0, none⟩ = some (.int .i64 V.base) ∧ w12.cell? ⟨w4.heap.size, 1, none⟩ = some (.slice AxVs V.shape.length cxVs) ∧ w12.cell? ⟨w4.heap.size, 2, none⟩ = some (.slice AxVt V.strides.length cxVt) ∧ w12.cell? ⟨w.heap.size, 0, none⟩ = some (.int .i64 V.base) ∧ w12.cell? ⟨w.heap.size, 1, none⟩ = some (sV) ∧ w12.cell? ⟨w.heap.size, 2, none⟩ = some (tV) := ⟨Blk.cell (Blk.ext (Blk.ext bxV_10 (below_drew w10) (Blk.lt bxV_10)) hb12 (Blk.lt (Blk.ext bxV_10 (below_drew w10) (Blk.lt bxV_10)))) 0, Blk.cell (Blk.ext (Blk.ext bxV_10 (below_drew w10) (Blk.lt bxV_10)) hb12 (Blk.lt (Blk.ext bxV_10 (below_drew w10) (Blk.lt bxV_10)))) 1, Blk.cell (Blk.ext (Blk.ext bxV_10 (below_drew w10) (Blk.lt bxV_10)) hb12 (Blk.lt (Blk.ext bxV_10 (below_drew w10) (Blk.lt bxV_10)))) 2, Blk.cell (Blk.ext (Blk.ext bV_10 (below_drew w10) (Blk.lt bV_10)) hb12 (Blk.lt (Blk.ext bV_10 (below_drew w10) (Blk.lt bV_10)))) 0, Blk.cell (Blk.ext (Blk.ext bV_10 (below_drew w10) (Blk.lt bV_10)) hb12 (Blk.lt (Blk.ext bV_10 (below_drew w10) (Blk.lt bV_10)))) 1, Blk.cell (Blk.ext (Blk.ext bV_10 (below_drew w10) (Blk.lt bV_10)) hb12 (Blk.lt (Blk.ext bV_10 (below_drew w10) (Blk.lt bV_10)))) 2⟩)
      | (go_at_call 19; refine (eqView_yes _ _ V _ (Own.view (hoys.ext hb12) (hoyt.ext hb12)) (Own.view hozs hozt)).mono ?_; rintro e w13 ⟨rfl, hb13⟩; have hK13 : w13.cell? ⟨w4.heap.size, 0, none⟩ = some (.int .i64 V.base) ∧ w13.cell? ⟨w4.heap.size, 1, none⟩ = some (.slice AxVs V.shape.length cxVs) ∧ w13.cell? ⟨w4.heap.size, 2, none⟩ = some (.slice AxVt V.strides.length cxVt) ∧ w13.cell? ⟨w.heap.size, 0, none⟩ = some (.int .i64 V.base) ∧ w13.cell? ⟨w.heap.size, 1, none⟩ = some (sV) ∧ w13.cell? ⟨w.heap.size, 2, none⟩ = some (tV) := ⟨Blk.cell (Blk.ext (Blk.ext (Blk.ext bxV_10 (below_drew w10) (Blk.lt bxV_10)) hb12 (Blk.lt (Blk.ext bxV_10 (below_drew w10) (Blk.lt bxV_10)))) hb13 (Blk.lt (Blk.ext (Blk.ext bxV_10 (below_drew w10) (Blk.lt bxV_10)) hb12 (Blk.lt (Blk.ext bxV_10 (below_drew w10) (Blk.lt bxV_10)))))) 0, Blk.cell (Blk.ext (Blk.ext (Blk.ext bxV_10 (below_drew w10) (Blk.lt bxV_10)) hb12 (Blk.lt (Blk.ext bxV_10 (below_drew w10) (Blk.lt bxV_10)))) hb13 (Blk.lt (Blk.ext (Blk.ext bxV_10 (below_drew w10) (Blk.lt bxV_10)) hb12 (Blk.lt (Blk.ext bxV_10 (below_drew w10) (Blk.lt bxV_10)))))) 1, Blk.cell (Blk.ext (Blk.ext (Blk.ext bxV_10 (below_drew w10) (Blk.lt bxV_10)) hb12 (Blk.lt (Blk.ext bxV_10 (below_drew w10) (Blk.lt bxV_10)))) hb13 (Blk.lt (Blk.ext (Blk.ext bxV_10 (below_drew w10) (Blk.lt bxV_10)) hb12 (Blk.lt (Blk.ext bxV_10 (below_drew w10) (Blk.lt bxV_10)))))) 2, Blk.cell (Blk.ext (Blk.ext (Blk.ext bV_10 (below_drew w10) (Blk.lt bV_10)) hb12 (Blk.lt (Blk.ext bV_10 (below_drew w10) (Blk.lt bV_10)))) hb13 (Blk.lt (Blk.ext (Blk.ext bV_10 (below_drew w10) (Blk.lt bV_10)) hb12 (Blk.lt (Blk.ext bV_10 (below_drew w10) (Blk.lt bV_10)))))) 0, Blk.cell (Blk.ext (Blk.ext (Blk.ext bV_10 (below_drew w10) (Blk.lt bV_10)) hb12 (Blk.lt (Blk.ext bV_10 (below_drew w10) (Blk.lt bV_10)))) hb13 (Blk.lt (Blk.ext (Blk.ext bV_10 (below_drew w10) (Blk.lt bV_10)) hb12 (Blk.lt (Blk.ext bV_10 (below_drew w10) (Blk.lt bV_10)))))) 1, Blk.cell (Blk.ext (Blk.ext (Blk.ext bV_10 (below_drew w10) (Blk.lt bV_10)) hb12 (Blk.lt (Blk.ext bV_10 (below_drew w10) (Blk.lt bV_10)))) hb13 (Blk.lt (Blk.ext (Blk.ext bV_10 (below_drew w10) (Blk.lt bV_10)) hb12 (Blk.lt (Blk.ext bV_10 (below_drew w10) (Blk.lt bV_10)))))) 2⟩))
  clear qV_10_0 qV_10_1 qV_10_2 qw_10_0 qw_10_1 qxV_10_0 qxV_10_1 qxV_10_2 qg_10_0 qg_10_1
  clear hK12 hK13 hoys hozs hoyt hozt
  have z11 : w10.heap.size ≤ w10.drew.heap.size := Nat.le_refl _
  have hT11 := hTd
  have z12 : w10.drew.heap.size ≤ w12.heap.size := hb12.size
  have hT12 : Below w0.heap.size w0 w12 := hT11.trans (hb12.mono (by omega))
  have z13 : w12.heap.size ≤ w13.heap.size := hb13.size
  have hT13 : Below w0.heap.size w0 w13 := hT12.trans (hb13.mono (by omega))
  clear hTd
  have bV_13 := (Blk.ext (Blk.ext (Blk.ext bV_10 (below_drew w10) (Blk.lt bV_10)) hb12 (Blk.lt (Blk.ext bV_10 (below_drew w10) (Blk.lt bV_10)))) hb13 (Blk.lt (Blk.ext (Blk.ext bV_10 (below_drew w10) (Blk.lt bV_10)) hb12 (Blk.lt (Blk.ext bV_10 (below_drew w10) (Blk.lt bV_10))))))
  clear bV_10
  obtain ⟨⟨qV_13_0, qV_13_1, qV_13_2⟩, -⟩ := id bV_13.all3
  have bw_13 := (Blk.ext (Blk.ext (Blk.ext bw_10 (below_drew w10) (Blk.lt bw_10)) hb12 (Blk.lt (Blk.ext bw_10 (below_drew w10) (Blk.lt bw_10)))) hb13 (Blk.lt (Blk.ext (Blk.ext bw_10 (below_drew w10) (Blk.lt bw_10)) hb12 (Blk.lt (Blk.ext bw_10 (below_drew w10) (Blk.lt bw_10))))))
  clear bw_10
  obtain ⟨⟨qw_13_0, qw_13_1⟩, -⟩ := id bw_13.all2
  have bxV_13 := (Blk.ext (Blk.ext (Blk.ext bxV_10 (below_drew w10) (Blk.lt bxV_10)) hb12 (Blk.lt (Blk.ext bxV_10 (below_drew w10) (Blk.lt bxV_10)))) hb13 (Blk.lt (Blk.ext (Blk.ext bxV_10 (below_drew w10) (Blk.lt bxV_10)) hb12 (Blk.lt (Blk.ext bxV_10 (below_drew w10) (Blk.lt bxV_10))))))
  clear bxV_10
  obtain ⟨⟨qxV_13_0, qxV_13_1, qxV_13_2⟩, -⟩ := id bxV_13.all3
  have bg_13 := (Blk.ext (Blk.ext (Blk.ext bg_10 (below_drew w10) (Blk.lt bg_10)) hb12 (Blk.lt (Blk.ext bg_10 (below_drew w10) (Blk.lt bg_10)))) hb13 (Blk.lt (Blk.ext (Blk.ext bg_10 (below_drew w10) (Blk.lt bg_10)) hb12 (Blk.lt (Blk.ext bg_10 (below_drew w10) (Blk.lt bg_10))))))
  clear bg_10
  obtain ⟨⟨qg_13_0, qg_13_1⟩, -⟩ := id bg_13.all2
  go_wp2_with fail
  refine (markIntS_any _ M (1) _ _ ((((((((((hoxM.ext hb4).ext hb5).ext hb6).ext hb7).ext hb8).ext hb9).ext hb10).ext (below_drew w10)).ext hb12).ext hb13) hlM (by omega)).mono ?_; rintro e w14 ⟨rfl, -, hw14⟩
  have hb14 := Chg.of_grown hw14 sgxM
  clear qV_13_0 qV_13_1 qV_13_2 qw_13_0 qw_13_1 qxV_13_0 qxV_13_1 qxV_13_2 qg_13_0 qg_13_1
  have z14 : w13.heap.size ≤ w14.heap.size := hb14.size
  have hT14 : Below w0.heap.size w0 w14 := hT13.trans (hb14.below (by omega) (by omega))
  have bV_14 := (Blk.chg bV_13 hb14 (by omega))
  clear bV_13
  obtain ⟨⟨qV_14_0, qV_14_1, qV_14_2⟩, -⟩ := id bV_14.all3
  have bw_14 := (Blk.chg bw_13 hb14 (by omega))
  clear bw_13
  obtain ⟨⟨qw_14_0, qw_14_1⟩, -⟩ := id bw_14.all2
  have bxV_14 := (Blk.chg bxV_13 hb14 (by omega))
  clear bxV_13
  obtain ⟨⟨qxV_14_0, qxV_14_1, qxV_14_2⟩, -⟩ := id bxV_14.all3
  have bg_14 := (Blk.chg bg_13 hb14 (by omega))
  clear bg_13
  obtain ⟨⟨qg_14_0, qg_14_1⟩, -⟩ := id bg_14.all2
  go_wp2_with fail
  refine (markView_any _ _ _ V.shape V.strides (1 + M.length) w3.heap.size w3.heap.size w3.heap.size w4.heap.size _ ((((((((((hoxVs.ext hb5).ext hb6).ext hb7).ext hb8).ext hb9).ext hb10).ext (below_drew w10)).ext hb12).ext hb13).chg hb14 sgxVs (by omega)) ((((((((((hoxVt.ext hb5).ext hb6).ext hb7).ext hb8).ext hb9).ext hb10).ext (below_drew w10)).ext hb12).ext hb13).chg hb14 sgxVt (by omega)) sepxV sgxVs sgxVt hsz1V hsz2V (by omega)).mono ?_; rintro e w15 ⟨rfl, -, -, hb15⟩
  clear qV_14_0 qV_14_1 qV_14_2 qw_14_0 qw_14_1 qxV_14_0 qxV_14_1 qxV_14_2 qg_14_0 qg_14_1
  have z15 : w14.heap.size ≤ w15.heap.size := hb15.size
  have hT15 : Below w0.heap.size w0 w15 := hT14.trans (hb15.below (by omega) (by omega))
  have bV_15 := (Blk.chg bV_14 hb15 (by omega))
  clear bV_14
  obtain ⟨⟨qV_15_0, qV_15_1, qV_15_2⟩, -⟩ := id bV_15.all3
  have bw_15 := (Blk.chg bw_14 hb15 (by omega))
  clear bw_14
  obtain ⟨⟨qw_15_0, qw_15_1⟩, -⟩ := id bw_15.all2
  have bg_15 := (Blk.chg bg_14 hb15 (by omega))
  clear bg_14
  obtain ⟨⟨qg_15_0, qg_15_1⟩, -⟩ := id bg_15.all2
  go_wp2_with fail
  refine (eqTensor_yes _ _ (tensorL M V) _ (Own.tensor (((((((((hogrs.ext hb7).ext hb8).ext hb9).ext hb10).ext (below_drew w10)).ext hb12).ext hb13).chg hb14 sggrs (by omega)).chg hb15 sggrs (by omega)) (((((((((hogrt.ext hb7).ext hb8).ext hb9).ext hb10).ext (below_drew w10)).ext hb12).ext hb13).chg hb14 sggrt (by omega)).chg hb15 sggrt (by omega))) (Own.tensor (((((((((((((howrs.ext hb3).ext hb4).ext hb5).ext hb6).ext hb7).ext hb8).ext hb9).ext hb10).ext (below_drew w10)).ext hb12).ext hb13).chg hb14 sgwrs (by omega)).chg hb15 sgwrs (by omega)) (((((((((((((howrt.ext hb3).ext hb4).ext hb5).ext hb6).ext hb7).ext hb8).ext hb9).ext hb10).ext (below_drew w10)).ext hb12).ext hb13).chg hb14 sgwrt (by omega)).chg hb15 sgwrt (by omega)))).mono ?_; rintro e w16 ⟨rfl, hb16⟩
  clear qV_15_0 qV_15_1 qV_15_2 qw_15_0 qw_15_1 qg_15_0 qg_15_1
  have z16 : w15.heap.size ≤ w16.heap.size := hb16.size
  have hT16 : Below w0.heap.size w0 w16 := hT15.trans (hb16.mono (by omega))
  have bV_16 := (Blk.ext bV_15 hb16 (Blk.lt bV_15))
  clear bV_15
  obtain ⟨⟨qV_16_0, qV_16_1, qV_16_2⟩, -⟩ := id bV_16.all3
  have bw_16 := (Blk.ext bw_15 hb16 (Blk.lt bw_15))
  clear bw_15
  obtain ⟨⟨qw_16_0, qw_16_1⟩, -⟩ := id bw_16.all2
  have bg_16 := (Blk.ext bg_15 hb16 (Blk.lt bg_15))
  clear bg_15
  obtain ⟨⟨qg_16_0, qg_16_1⟩, -⟩ := id bg_16.all2
  have hlr := tensorL_len M V
  have hlr1 : (tensorL M V).shape.length ≤ 1048576 := by omega
  have hlr2 : (tensorL M V).values.length ≤ 1048576 := by omega
  go_wp2_with fail
  refine (markTensor_any _ _ (tensorL M V).shape (tensorL M V).values (1) w5.heap.size w5.heap.size w5.heap.size w6.heap.size _ ((((((((((hogrs.ext hb7).ext hb8).ext hb9).ext hb10).ext (below_drew w10)).ext hb12).ext hb13).chg hb14 sggrs (by omega)).chg hb15 sggrs (by omega)).ext hb16) ((((((((((hogrt.ext hb7).ext hb8).ext hb9).ext hb10).ext (below_drew w10)).ext hb12).ext hb13).chg hb14 sggrt (by omega)).chg hb15 sggrt (by omega)).ext hb16) sepg sggrs sggrt hlr1 hlr2 (by omega)).mono ?_; rintro e w17 ⟨rfl, hom1, hom2, hb17⟩
  clear qV_16_0 qV_16_1 qV_16_2 qw_16_0 qw_16_1 qg_16_0 qg_16_1
  have z17 : w16.heap.size ≤ w17.heap.size := hb17.size
  have hT17 : Below w0.heap.size w0 w17 := hT16.trans (hb17.below (by omega) (by omega))
  have bV_17 := (Blk.chg bV_16 hb17 (by omega))
  clear bV_16
  obtain ⟨⟨qV_17_0, qV_17_1, qV_17_2⟩, -⟩ := id bV_17.all3
  have bw_17 := (Blk.chg bw_16 hb17 (by omega))
  clear bw_16
  obtain ⟨⟨qw_17_0, qw_17_1⟩, -⟩ := id bw_17.all2
  have bg_17 := (Blk.chg bg_16 hb17 (by omega))
  clear bg_16
  obtain ⟨⟨qg_17_0, qg_17_1⟩, -⟩ := id bg_17.all2
  go_wp2_with fail
  refine (heldTensor_any _ _ (tensorL M V).shape.length (tensorL M V).values.length (1) _ (Own.ints hom1) (Own.ints hom2) hlr1 hlr2 (by omega)).mono ?_; rintro e w18 ⟨rfl, hb18⟩
  clear qV_17_0 qV_17_1 qV_17_2 qw_17_0 qw_17_1 qg_17_0 qg_17_1
  have z18 : w17.heap.size ≤ w18.heap.size := hb18.size
  have hT18 : Below w0.heap.size w0 w18 := hT17.trans (hb18.mono (by omega))
  have bV_18 := (Blk.ext bV_17 hb18 (Blk.lt bV_17))
  clear bV_17
  obtain ⟨⟨qV_18_0, qV_18_1, qV_18_2⟩, -⟩ := id bV_18.all3
  have bw_18 := (Blk.ext bw_17 hb18 (Blk.lt bw_17))
  clear bw_17
  obtain ⟨⟨qw_18_0, qw_18_1⟩, -⟩ := id bw_18.all2
  have bg_18 := (Blk.ext bg_17 hb18 (Blk.lt bg_17))
  clear bg_17
  obtain ⟨⟨qg_18_0, qg_18_1⟩, -⟩ := id bg_18.all2
  go_wp2_with fail
  clear qV_18_0 qV_18_1 qV_18_2 qw_18_0 qw_18_1 qg_18_0 qg_18_1
  have qqV := fun x : ExtW w18 => (Blk.ext bV_18 x.h (Blk.lt bV_18)).all3.1
  have qqw := fun x : ExtW w18 => (Blk.ext bw_18 x.h (Blk.lt bw_18)).all2.1
  have qqg := fun x : ExtW w18 => (Blk.ext bg_18 x.h (Blk.lt bg_18)).all2.1
  refine region_mkL 9 [7] (by kernel_rfl) (by kernel_rfl) (by kernel_rfl) (fun _ _ _ _ _ h => h) ?_
  apply Exists.intro
  simp only [List.take_succ_cons, List.take_zero, List.drop_succ_cons, List.drop_zero]
  repeat (first
    | (apply grow_val (by rfl); (focus (intro x; (go_simp; try with_reducible rfl); done)); simp only [Act.put, List.setIfInBounds_toArray, List.set_cons_zero, List.set_cons_succ])
    | (apply grow_skip (by rfl); simp only [Act.put, List.setIfInBounds_toArray, List.set_cons_zero, List.set_cons_succ]))
  apply grow_ints M (by rfl)
  · intro x hF K Q hK
    go_simp
    (go_at_call 30; refine (toIntS_any _ M _ (hv1M.ext (hT18.trans (x.h.mono (by omega)))) hlM).mono ?_; rintro e w' ⟨v', rfl, ho, hb⟩; exact hK _ _ hb ho)
  intro Ah1 ch1 Fh1 Oh1 hFh1 hOh1
  simp only [Act.put, List.setIfInBounds_toArray, List.set_cons_zero, List.set_cons_succ]
  repeat (first
    | (apply grow_val (by rfl); (focus (intro x; (go_simp; try with_reducible rfl); done)); simp only [Act.put, List.setIfInBounds_toArray, List.set_cons_zero, List.set_cons_succ])
    | (apply grow_skip (by rfl); simp only [Act.put, List.setIfInBounds_toArray, List.set_cons_zero, List.set_cons_succ]))
  apply grow_viewF (fun v => v) id_inj V (by rfl)
  · intro x hF K Q hK
    go_simp
    (go_at_call 36; refine (toView_any _ V _ (hv1V.ext (hT18.trans (x.h.mono (by omega)))) hsz1V hsz2V).mono ?_; rintro e w' ⟨s', t', rfl, ho, hp, hs, hb⟩; exact hK _ _ _ hb ho hp hs)
  intro Ah3 ch3 Bh3 dh3 Fh3 Oh3 hFh3 hOh3
  simp only [Act.put, List.setIfInBounds_toArray, List.set_cons_zero, List.set_cons_succ]
  repeat (first
    | (apply grow_val (by rfl); (focus (intro x; (go_simp; try with_reducible rfl); done)); simp only [Act.put, List.setIfInBounds_toArray, List.set_cons_zero, List.set_cons_succ])
    | (apply grow_skip (by rfl); simp only [Act.put, List.setIfInBounds_toArray, List.set_cons_zero, List.set_cons_succ]))
  apply grow_tensF (tupB (holdL M V)) (tupB_inj (holdL M V)) (tensorL M V) (by rfl)
  · intro x hF K Q hK
    have h1 := hFh1 _ (hF 1 (by kernel_rfl))
    have h3 := hFh3 _ (hF 3 (by kernel_rfl))
    go_simp
    (go_at_call 37; refine (TensorOf_any _ _ M V _ (Own.ints h1) (Own.view h3.1 h3.2.1)).mono ?_; rintro e w' ⟨s', t', rfl, ho, hp, hs, hb⟩; exact hK _ _ _ hb ho hp hs)
  intro Ah4 ch4 Bh4 dh4 Fh4 Oh4 hFh4 hOh4
  simp only [tupB, Act.put, List.setIfInBounds_toArray, List.set_cons_zero, List.set_cons_succ]
  repeat (first
    | (apply grow_val (by rfl); (focus (intro x; (go_simp; try with_reducible rfl); done)); simp only [Act.put, List.setIfInBounds_toArray, List.set_cons_zero, List.set_cons_succ])
    | (apply grow_skip (by rfl); simp only [Act.put, List.setIfInBounds_toArray, List.set_cons_zero, List.set_cons_succ]))
  apply grow_fn (fun d => d.getD 0 undef) [.tuple #[.agg #[.slice Ah4 (tensorL M V).shape.length ch4, .slice Bh4 (tensorL M V).values.length dh4], .bool (holdL M V)]] (by kernel_rfl) (by rfl)
  · intro x hF
    refine ⟨_, by (go_simp; try rfl), rfl⟩
  intro vh5 Fh5 hFh5
  simp only [Act.put, List.setIfInBounds_toArray, List.set_cons_zero, List.set_cons_succ]
  apply grow_fn (fun d => tupAt 0 (d.getD 0 undef)) [vh5] (by kernel_rfl) (by rfl)
  · intro x hF
    have e : vh5 = .tuple #[.agg #[.slice Ah4 (tensorL M V).shape.length ch4, .slice Bh4 (tensorL M V).values.length dh4], .bool (holdL M V)] := hFh5 _ (hF 5 (by kernel_rfl))
    subst e
    refine ⟨_, by (go_simp; try rfl), rfl⟩
  intro vh6 Fh6 hFh6
  simp only [Act.put, List.setIfInBounds_toArray, List.set_cons_zero, List.set_cons_succ]
  apply grow_fn (fun d => tupAt 1 (d.getD 0 undef)) [vh5] (by kernel_rfl) (by rfl)
  · intro x hF
    have e : vh5 = .tuple #[.agg #[.slice Ah4 (tensorL M V).shape.length ch4, .slice Bh4 (tensorL M V).values.length dh4], .bool (holdL M V)] := hFh5 _ (hF 5 (by kernel_rfl))
    subst e
    refine ⟨_, by (go_simp; try rfl), rfl⟩
  intro vh7 Fh7 hFh7
  simp only [Act.put, List.setIfInBounds_toArray, List.set_cons_zero, List.set_cons_succ]
  apply grow_blk (49) (#[.slice none 0 0, .slice none 0 0]) (by rfl)
  · intro x
    go_simp
  intro gh8 hgh8 Fh8 Oh8 hFh8 hOh8
  simp only [Act.put, List.setIfInBounds_toArray, List.set_cons_zero, List.set_cons_succ]
  repeat (first
    | (apply grow_val (by rfl); (focus (intro x; (go_simp; try with_reducible rfl); done)); simp only [Act.put, List.setIfInBounds_toArray, List.set_cons_zero, List.set_cons_succ])
    | (apply grow_skip (by rfl); simp only [Act.put, List.setIfInBounds_toArray, List.set_cons_zero, List.set_cons_succ]))
  refine grow_nil ?_
  intro x hF hS
  have hm := hFh4 _ (hF 4 (by omega))
  have hB := hFh8 _ (hF 8 (by omega))
  have em : vh5 = .tuple #[.agg #[.slice Ah4 (tensorL M V).shape.length ch4, .slice Bh4 (tensorL M V).values.length dh4], .bool (holdL M V)] := hFh5 _ (hF 5 (by omega))
  subst em
  have e0 : vh6 = .agg #[.slice Ah4 (tensorL M V).shape.length ch4, .slice Bh4 (tensorL M V).values.length dh4] := hFh6 _ (hF 6 (by omega))
  have e1 : vh7 = .bool (holdL M V) := hFh7 _ (hF 7 (by omega))
  subst e0 e1
  have hdis : ∀ q, within2 (.slice Ah4 (tensorL M V).shape.length ch4) (.slice Bh4 (tensorL M V).values.length dh4) q → q ≠ gh8 := fun q h e => hS 4 8 (by omega) (by omega) (by omega) q (hOh4 q h) (e ▸ hOh8)
  obtain ⟨wx, hbx⟩ := x
  simp only at hm hB
  clear hF hS
  have hgl := hB.lt
  have hn1 : ∀ q, Value.ownBlock (.slice Ah4 (tensorL M V).shape.length ch4) = some q → q ≠ gh8 := fun q h => hdis q ⟨q, q, .inl h, .inl h, Nat.le_refl _, Nat.le_refl _⟩
  have hn2 : ∀ q, Value.ownBlock (.slice Bh4 (tensorL M V).values.length dh4) = some q → q ≠ gh8 := fun q h => hdis q ⟨q, q, .inr h, .inr h, Nat.le_refl _, Nat.le_refl _⟩
  obtain ⟨loh, hih, l1h, l2h, l3h, sghrs, sghrt, ldh⟩ := ival hm.1.seg hm.2.1.seg hdis hgh8 hgl
  obtain ⟨hNg, hbg⟩ := built_tens hB hbx hm.1 hm.2.1 hm.2.2 hgh8 hn1 hn2
  have hzz : wx.heap.size = ((wx.setCell ⟨gh8, 0, none⟩ (.slice Ah4 (tensorL M V).shape.length ch4)).setCell ⟨gh8, 1, none⟩ (.slice Bh4 (tensorL M V).values.length dh4)).heap.size := by simp
  have HZZ := hid hzz
  have HN := hid hNg
  clear hzz hNg hdis hn1 hn2 hm
  clear qqV qqw qqg hFh4 hFh5 hFh6 hFh7 hFh8 hFh1 hFh3 hOh4 hOh8 hOh1 hOh3
  obtain ⟨⟨y0, y1⟩, y2, y3⟩ := hB.all2
  obtain ⟨uV_0, uV_1, uV_2⟩ := (Blk.ext bV_18 hbx (Blk.lt bV_18)).all3.1
  obtain ⟨mV_0, mV_1, mV_2⟩ := (Blk.far2 (g' := gh8) (Blk.ext bV_18 hbx (Blk.lt bV_18)) (by omega) (.slice Ah4 (tensorL M V).shape.length ch4) (.slice Bh4 (tensorL M V).values.length dh4)).all3.1
  obtain ⟨uw_0, uw_1⟩ := (Blk.ext bw_18 hbx (Blk.lt bw_18)).all2.1
  obtain ⟨mw_0, mw_1⟩ := (Blk.far2 (g' := gh8) (Blk.ext bw_18 hbx (Blk.lt bw_18)) (by omega) (.slice Ah4 (tensorL M V).shape.length ch4) (.slice Bh4 (tensorL M V).values.length dh4)).all2.1
  obtain ⟨ug_0, ug_1⟩ := (Blk.ext bg_18 hbx (Blk.lt bg_18)).all2.1
  obtain ⟨mg_0, mg_1⟩ := (Blk.far2 (g' := gh8) (Blk.ext bg_18 hbx (Blk.lt bg_18)) (by omega) (.slice Ah4 (tensorL M V).shape.length ch4) (.slice Bh4 (tensorL M V).values.length dh4)).all2.1
  obtain ⟨nh_0, nh_1⟩ := HN.out.box.all2.1
  have hb19 := hbg
  clear hbg
  go_wp2_with fail
  clear y0 y1 y2 y3 uV_0 uV_1 uV_2 mV_0 mV_1 mV_2 uw_0 uw_1 mw_0 mw_1 ug_0 ug_1 mg_0 mg_1 nh_0 nh_1
  have hzz := HZZ.out
  have hNg := HN.out
  clear HZZ HN hB hbx
  generalize (wx.setCell ⟨gh8, 0, none⟩ (.slice Ah4 (tensorL M V).shape.length ch4)).setCell ⟨gh8, 1, none⟩ (.slice Bh4 (tensorL M V).values.length dh4) = w19 at *
  have bh_19 := hNg.box
  have hohrs := hNg.s
  have hohrt := hNg.t
  have seph := hNg.sep
  clear hNg
  have z19 : w18.heap.size ≤ w19.heap.size := hb19.size
  have hT19 : Below w0.heap.size w0 w19 := hT18.trans (hb19.mono (by omega))
  have zlh : gh8 < w19.heap.size := bh_19.lt
  have bV_19 := (Blk.ext bV_18 hb19 (Blk.lt bV_18))
  clear bV_18
  obtain ⟨⟨qV_19_0, qV_19_1, qV_19_2⟩, -⟩ := id bV_19.all3
  have bw_19 := (Blk.ext bw_18 hb19 (Blk.lt bw_18))
  clear bw_18
  obtain ⟨⟨qw_19_0, qw_19_1⟩, -⟩ := id bw_19.all2
  have bg_19 := (Blk.ext bg_18 hb19 (Blk.lt bg_18))
  clear bg_18
  obtain ⟨⟨qg_19_0, qg_19_1⟩, -⟩ := id bg_19.all2
  obtain ⟨⟨qh_19_0, qh_19_1⟩, -⟩ := id bh_19.all2
  go_wp2_with fail
  refine (eqTensor_yes _ _ (tensorL M V) _ (Own.tensor hohrs hohrt) (Own.tensor (((((((((((((((((howrs.ext hb3).ext hb4).ext hb5).ext hb6).ext hb7).ext hb8).ext hb9).ext hb10).ext (below_drew w10)).ext hb12).ext hb13).chg hb14 sgwrs (by omega)).chg hb15 sgwrs (by omega)).ext hb16).chg hb17 sgwrs (by omega)).ext hb18).ext hb19) (((((((((((((((((howrt.ext hb3).ext hb4).ext hb5).ext hb6).ext hb7).ext hb8).ext hb9).ext hb10).ext (below_drew w10)).ext hb12).ext hb13).chg hb14 sgwrt (by omega)).chg hb15 sgwrt (by omega)).ext hb16).chg hb17 sgwrt (by omega)).ext hb18).ext hb19))).mono ?_; rintro e w20 ⟨rfl, hb20⟩
  clear qV_19_0 qV_19_1 qV_19_2 qw_19_0 qw_19_1 qg_19_0 qg_19_1 qh_19_0 qh_19_1
  have z20 : w19.heap.size ≤ w20.heap.size := hb20.size
  have hT20 : Below w0.heap.size w0 w20 := hT19.trans (hb20.mono (by omega))
  have bV_20 := (Blk.ext bV_19 hb20 (Blk.lt bV_19))
  clear bV_19
  obtain ⟨⟨qV_20_0, qV_20_1, qV_20_2⟩, -⟩ := id bV_20.all3
  have bw_20 := (Blk.ext bw_19 hb20 (Blk.lt bw_19))
  clear bw_19
  obtain ⟨⟨qw_20_0, qw_20_1⟩, -⟩ := id bw_20.all2
  have bg_20 := (Blk.ext bg_19 hb20 (Blk.lt bg_19))
  clear bg_19
  obtain ⟨⟨qg_20_0, qg_20_1⟩, -⟩ := id bg_20.all2
  have bh_20 := (Blk.ext bh_19 hb20 (Blk.lt bh_19))
  clear bh_19
  obtain ⟨⟨qh_20_0, qh_20_1⟩, -⟩ := id bh_20.all2
  go_wp2_with fail
  refine (heldTensor_any _ _ (tensorL M V).shape.length (tensorL M V).values.length (1) _ (Own.ints (((hom1.ext hb18).ext hb19).ext hb20)) (Own.ints (((hom2.ext hb18).ext hb19).ext hb20)) hlr1 hlr2 (by omega)).mono ?_; rintro e w21 ⟨rfl, hb21⟩
  clear qV_20_0 qV_20_1 qV_20_2 qw_20_0 qw_20_1 qg_20_0 qg_20_1 qh_20_0 qh_20_1
  have z21 : w20.heap.size ≤ w21.heap.size := hb21.size
  have hT21 : Below w0.heap.size w0 w21 := hT20.trans (hb21.mono (by omega))
  have bV_21 := (Blk.ext bV_20 hb21 (Blk.lt bV_20))
  clear bV_20
  obtain ⟨⟨qV_21_0, qV_21_1, qV_21_2⟩, -⟩ := id bV_21.all3
  have bw_21 := (Blk.ext bw_20 hb21 (Blk.lt bw_20))
  clear bw_20
  obtain ⟨⟨qw_21_0, qw_21_1⟩, -⟩ := id bw_21.all2
  have bg_21 := (Blk.ext bg_20 hb21 (Blk.lt bg_20))
  clear bg_20
  obtain ⟨⟨qg_21_0, qg_21_1⟩, -⟩ := id bg_21.all2
  have bh_21 := (Blk.ext bh_20 hb21 (Blk.lt bh_20))
  clear bh_20
  obtain ⟨⟨qh_21_0, qh_21_1⟩, -⟩ := id bh_21.all2
  go_wp2
  go_ret
  exact ⟨rfl, hW.trans (hT21.mono hW.size)⟩

end Go.Proofs.Ytonlhphgoedcnaa
