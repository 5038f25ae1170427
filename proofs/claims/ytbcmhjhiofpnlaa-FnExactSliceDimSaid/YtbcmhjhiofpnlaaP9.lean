/- The walks of exact laws: each answers true at every input and changes nothing that was there. No conditions. (printed by genlaw2.py) -/
import Derived.Test.YtbcmhjhiofpnlaaY9
import Derived.Test.YtbcmhjhiofpnlaaYD
import Derived.Test.YtbcmhjhiofpnlaaL2
import Derived.Test.YtbcmhjhiofpnlaaGv
import Derived.Test.YtbcmhjhiofpnlaaGp
import Derived.Test.YtbcmhjhiofpnlaaVA
import Derived.Deep.RegionHeld3
namespace Go.Proofs.Ytbcmhjhiofpnlaa
open Go.RowKit

set_option maxRecDepth 100000 in
set_option maxHeartbeats 3200000 in
theorem FnExactSliceDim_walk (vV : Value) (V : VL) (D : Int) (vS : Value) (S : SL) (w : World) (hvV : ViewV w vV V) (wfD : -9223372036854775808 ≤ D ∧ D ≤ 9223372036854775807) (hvS : SliceV w vS S) :
    Calls Try.prog 3 #[vV, .int .i64 D, vS] w fun e w' => e = .returned (.bool true) ∧ Below w.heap.size w w' := by
  have hv0V := hvV
  obtain ⟨sV, tV, rfl, -, -⟩ := hvV
  have hv0S := hvS
  obtain ⟨rfl, wqS⟩ := hvS
  simp only [SL.val]
  obtain ⟨wfD1, wfD2⟩ := wfD
  have hW : Below w.heap.size w ((w.alloc (.cells #[.int .i64 V.base, sV, tV] 24)).alloc (.cells #[.int .i64 S.from_, .int .i64 S.to_, .int .i64 S.by_, .bool S.hasFrom, .bool S.hasTo] 26)) := Below.alloc (Below.alloc (Below.refl w.heap.size w) (by simp <;> omega) (.cells #[.int .i64 V.base, sV, tV] 24)) (by simp <;> omega) (.cells #[.int .i64 S.from_, .int .i64 S.to_, .int .i64 S.by_, .bool S.hasFrom, .bool S.hasTo] 26)
  have bV_0 : Blk ((w.alloc (.cells #[.int .i64 V.base, sV, tV] 24)).alloc (.cells #[.int .i64 S.from_, .int .i64 S.to_, .int .i64 S.by_, .bool S.hasFrom, .bool S.hasTo] 26)) (w.heap.size) 24 #[.int .i64 V.base, sV, tV] := ((Blk.new w 24 #[.int .i64 V.base, sV, tV]).alloc _)
  have bS_0 : Blk ((w.alloc (.cells #[.int .i64 V.base, sV, tV] 24)).alloc (.cells #[.int .i64 S.from_, .int .i64 S.to_, .int .i64 S.by_, .bool S.hasFrom, .bool S.hasTo] 26)) (w.heap.size + 1) 26 #[.int .i64 S.from_, .int .i64 S.to_, .int .i64 S.by_, .bool S.hasFrom, .bool S.hasTo] := by have := (Blk.new (w.alloc (.cells #[.int .i64 V.base, sV, tV] 24)) 26 #[.int .i64 S.from_, .int .i64 S.to_, .int .i64 S.by_, .bool S.hasFrom, .bool S.hasTo]); simpa using this
  have hv1V := hv0V.ext hW
  have hv1S := hv0S.ext hW
  by_cases hsV : 1048576 < V.shape.length + V.strides.length
  · have hzV : 1048576 < V.shape.length + V.strides.length := by omega
    go_enter Try.func3, Try.ntmps3
    go_wp2_with fail
    generalize ((w.alloc (.cells #[.int .i64 V.base, sV, tV] 24)).alloc (.cells #[.int .i64 S.from_, .int .i64 S.to_, .int .i64 S.by_, .bool S.hasFrom, .bool S.hasTo] 26)) = w0 at *
    have hT0 : Below w0.heap.size w0 w0 := Below.refl _ _
    have zlV : w.heap.size < w0.heap.size := bV_0.lt
    have zlS : w.heap.size + 1 < w0.heap.size := bS_0.lt
    obtain ⟨⟨qV_0_0, qV_0_1, qV_0_2⟩, -⟩ := id bV_0.all3
    obtain ⟨⟨qS_0_0, qS_0_1, qS_0_2, qS_0_3, qS_0_4⟩, -⟩ := id bS_0.all5
    refine (szView_no _ V 1048576 _ (hv1V.ext hT0) hzV (by omega)).mono ?_; rintro e w1 ⟨rfl, hb1⟩
    clear qV_0_0 qV_0_1 qV_0_2 qS_0_0 qS_0_1 qS_0_2 qS_0_3 qS_0_4
    have z1 : w0.heap.size ≤ w1.heap.size := hb1.size
    have hT1 : Below w0.heap.size w0 w1 := hT0.trans (hb1.mono (by omega))
    go_wp2
    go_ret
    exact ⟨rfl, hW.trans (hT1.mono hW.size)⟩
  have hsz1V : V.shape.length ≤ 1048576 := by omega
  have hsz2V : V.strides.length ≤ 1048576 := by omega
  go_enter Try.func3, Try.ntmps3
  go_wp2_with fail
  generalize ((w.alloc (.cells #[.int .i64 V.base, sV, tV] 24)).alloc (.cells #[.int .i64 S.from_, .int .i64 S.to_, .int .i64 S.by_, .bool S.hasFrom, .bool S.hasTo] 26)) = w0 at *
  have hT0 : Below w0.heap.size w0 w0 := Below.refl _ _
  have zlV : w.heap.size < w0.heap.size := bV_0.lt
  have zlS : w.heap.size + 1 < w0.heap.size := bS_0.lt
  obtain ⟨⟨qV_0_0, qV_0_1, qV_0_2⟩, -⟩ := id bV_0.all3
  obtain ⟨⟨qS_0_0, qS_0_1, qS_0_2, qS_0_3, qS_0_4⟩, -⟩ := id bS_0.all5
  refine (szView_ok _ V 1048576 _ hv1V (by omega) (by omega)).mono ?_; rintro e w1 ⟨rfl, hb1⟩
  clear qV_0_0 qV_0_1 qV_0_2 qS_0_0 qS_0_1 qS_0_2 qS_0_3 qS_0_4
  have z1 : w0.heap.size ≤ w1.heap.size := hb1.size
  have hT1 : Below w0.heap.size w0 w1 := hT0.trans (hb1.mono (by omega))
  have bV_1 := (Blk.ext bV_0 hb1 (Blk.lt bV_0))
  obtain ⟨⟨qV_1_0, qV_1_1, qV_1_2⟩, -⟩ := id bV_1.all3
  have bS_1 := (Blk.ext bS_0 hb1 (Blk.lt bS_0))
  obtain ⟨⟨qS_1_0, qS_1_1, qS_1_2, qS_1_3, qS_1_4⟩, -⟩ := id bS_1.all5
  go_wp2_with fail
  clear qV_1_0 qV_1_1 qV_1_2 qS_1_0 qS_1_1 qS_1_2 qS_1_3 qS_1_4
  have qqV := fun x : ExtW w1 => (Blk.ext bV_1 x.h (Blk.lt bV_1)).all3.1
  have qqS := fun x : ExtW w1 => (Blk.ext bS_1 x.h (Blk.lt bS_1)).all5.1
  refine region_mkL 10 [8] (by kernel_rfl) (by kernel_rfl) (by kernel_rfl) (fun _ _ _ _ _ h => h) ?_
  apply Exists.intro
  simp only [List.take_succ_cons, List.take_zero, List.drop_succ_cons, List.drop_zero]
  repeat (first
    | (apply grow_val (by rfl); (focus (intro x; (go_simp; try with_reducible rfl); done)); simp only [Act.put, List.setIfInBounds_toArray, List.set_cons_zero, List.set_cons_succ])
    | (apply grow_skip (by rfl); simp only [Act.put, List.setIfInBounds_toArray, List.set_cons_zero, List.set_cons_succ]))
  apply grow_viewF (fun v => v) id_inj V (by rfl)
  · intro x hF K Q hK
    go_simp
    (go_at_call 17; refine (toView_any _ V _ (hv1V.ext (hT1.trans (x.h.mono (by omega)))) hsz1V hsz2V).mono ?_; rintro e w' ⟨s', t', rfl, ho, hp, hs, hb⟩; exact hK _ _ _ hb ho hp hs)
  intro Aw1 cw1 Bw1 dw1 Fw1 Ow1 hFw1 hOw1
  simp only [Act.put, List.setIfInBounds_toArray, List.set_cons_zero, List.set_cons_succ]
  repeat (first
    | (apply grow_val (by rfl); (focus (intro x; (go_simp; try with_reducible rfl); done)); simp only [Act.put, List.setIfInBounds_toArray, List.set_cons_zero, List.set_cons_succ])
    | (apply grow_skip (by rfl); simp only [Act.put, List.setIfInBounds_toArray, List.set_cons_zero, List.set_cons_succ]))
  apply grow_call (by rfl)
  · intro x K Q hK
    go_simp
    (go_at_call 18; refine (toSlice_any _ S _ ⟨rfl, wqS⟩).mono ?_; rintro e w' ⟨rfl, hb⟩; exact hK _ hb)
  simp only [SL.val]
  simp only [Act.put, List.setIfInBounds_toArray, List.set_cons_zero, List.set_cons_succ]
  repeat (first
    | (apply grow_val (by rfl); (focus (intro x; (go_simp; try with_reducible rfl); done)); simp only [Act.put, List.setIfInBounds_toArray, List.set_cons_zero, List.set_cons_succ])
    | (apply grow_skip (by rfl); simp only [Act.put, List.setIfInBounds_toArray, List.set_cons_zero, List.set_cons_succ]))
  apply grow_viewF (tupB (okCut V D S)) (tupB_inj (okCut V D S)) (sliceL V D S) (by rfl)
  · intro x hF K Q hK
    have h1 := hFw1 _ (hF 1 (by kernel_rfl))
    go_simp
    (go_at_call 16; refine (sSliceDim_any _ _ V D S _ (Own.view h1.1 h1.2.1) ⟨wfD1, wfD2⟩ ⟨rfl, wqS⟩).mono ?_; rintro e w' ⟨s', t', rfl, ho, hp, hs, hb⟩; exact hK _ _ _ hb ho hp hs)
  intro Aw5 cw5 Bw5 dw5 Fw5 Ow5 hFw5 hOw5
  simp only [tupB, Act.put, List.setIfInBounds_toArray, List.set_cons_zero, List.set_cons_succ]
  repeat (first
    | (apply grow_val (by rfl); (focus (intro x; (go_simp; try with_reducible rfl); done)); simp only [Act.put, List.setIfInBounds_toArray, List.set_cons_zero, List.set_cons_succ])
    | (apply grow_skip (by rfl); simp only [Act.put, List.setIfInBounds_toArray, List.set_cons_zero, List.set_cons_succ]))
  apply grow_fn (fun d => d.getD 0 undef) [.tuple #[.agg #[.int .i64 (sliceL V D S).base, .slice Aw5 (sliceL V D S).shape.length cw5, .slice Bw5 (sliceL V D S).strides.length dw5], .bool (okCut V D S)]] (by kernel_rfl) (by rfl)
  · intro x hF
    refine ⟨_, by (go_simp; try rfl), rfl⟩
  intro vw6 Fw6 hFw6
  simp only [Act.put, List.setIfInBounds_toArray, List.set_cons_zero, List.set_cons_succ]
  apply grow_fn (fun d => tupAt 0 (d.getD 0 undef)) [vw6] (by kernel_rfl) (by rfl)
  · intro x hF
    have e : vw6 = .tuple #[.agg #[.int .i64 (sliceL V D S).base, .slice Aw5 (sliceL V D S).shape.length cw5, .slice Bw5 (sliceL V D S).strides.length dw5], .bool (okCut V D S)] := hFw6 _ (hF 6 (by kernel_rfl))
    subst e
    refine ⟨_, by (go_simp; try rfl), rfl⟩
  intro vw7 Fw7 hFw7
  simp only [Act.put, List.setIfInBounds_toArray, List.set_cons_zero, List.set_cons_succ]
  apply grow_fn (fun d => tupAt 1 (d.getD 0 undef)) [vw6] (by kernel_rfl) (by rfl)
  · intro x hF
    have e : vw6 = .tuple #[.agg #[.int .i64 (sliceL V D S).base, .slice Aw5 (sliceL V D S).shape.length cw5, .slice Bw5 (sliceL V D S).strides.length dw5], .bool (okCut V D S)] := hFw6 _ (hF 6 (by kernel_rfl))
    subst e
    refine ⟨_, by (go_simp; try rfl), rfl⟩
  intro vw8 Fw8 hFw8
  simp only [Act.put, List.setIfInBounds_toArray, List.set_cons_zero, List.set_cons_succ]
  apply grow_blk (28) (#[.int .i64 0, .slice none 0 0, .slice none 0 0]) (by rfl)
  · intro x
    go_simp
  intro gw9 hgw9 Fw9 Ow9 hFw9 hOw9
  simp only [Act.put, List.setIfInBounds_toArray, List.set_cons_zero, List.set_cons_succ]
  repeat (first
    | (apply grow_val (by rfl); (focus (intro x; (go_simp; try with_reducible rfl); done)); simp only [Act.put, List.setIfInBounds_toArray, List.set_cons_zero, List.set_cons_succ])
    | (apply grow_skip (by rfl); simp only [Act.put, List.setIfInBounds_toArray, List.set_cons_zero, List.set_cons_succ]))
  refine grow_nil ?_
  intro x hF hS
  have hm := hFw5 _ (hF 5 (by omega))
  have hB := hFw9 _ (hF 9 (by omega))
  have em : vw6 = .tuple #[.agg #[.int .i64 (sliceL V D S).base, .slice Aw5 (sliceL V D S).shape.length cw5, .slice Bw5 (sliceL V D S).strides.length dw5], .bool (okCut V D S)] := hFw6 _ (hF 6 (by omega))
  subst em
  have e0 : vw7 = .agg #[.int .i64 (sliceL V D S).base, .slice Aw5 (sliceL V D S).shape.length cw5, .slice Bw5 (sliceL V D S).strides.length dw5] := hFw7 _ (hF 7 (by omega))
  have e1 : vw8 = .bool (okCut V D S) := hFw8 _ (hF 8 (by omega))
  subst e0 e1
  have hdis : ∀ q, within2 (.slice Aw5 (sliceL V D S).shape.length cw5) (.slice Bw5 (sliceL V D S).strides.length dw5) q → q ≠ gw9 := fun q h e => hS 5 9 (by omega) (by omega) (by omega) q (hOw5 q h) (e ▸ hOw9)
  obtain ⟨wx, hbx⟩ := x
  simp only at hm hB
  clear hF hS
  have hgl := hB.lt
  have hn1 : ∀ q, Value.ownBlock (.slice Aw5 (sliceL V D S).shape.length cw5) = some q → q ≠ gw9 := fun q h => hdis q ⟨q, q, .inl h, .inl h, Nat.le_refl _, Nat.le_refl _⟩
  have hn2 : ∀ q, Value.ownBlock (.slice Bw5 (sliceL V D S).strides.length dw5) = some q → q ≠ gw9 := fun q h => hdis q ⟨q, q, .inr h, .inr h, Nat.le_refl _, Nat.le_refl _⟩
  obtain ⟨low, hiw, l1w, l2w, l3w, sgwrs, sgwrt, ldw⟩ := ival hm.1.seg hm.2.1.seg hdis hgw9 hgl
  obtain ⟨hNg, hbg⟩ := built_view (sliceL V D S).base hB hbx hm.1 hm.2.1 hm.2.2 hgw9 hn1 hn2
  have hzz : wx.heap.size = (((wx.setCell ⟨gw9, 0, none⟩ (.int .i64 (sliceL V D S).base)).setCell ⟨gw9, 1, none⟩ (.slice Aw5 (sliceL V D S).shape.length cw5)).setCell ⟨gw9, 2, none⟩ (.slice Bw5 (sliceL V D S).strides.length dw5)).heap.size := by simp
  have HZZ := hid hzz
  have HN := hid hNg
  clear hzz hNg hdis hn1 hn2 hm
  clear qqV qqS hFw5 hFw6 hFw7 hFw8 hFw9 hFw1 hOw5 hOw9 hOw1
  obtain ⟨⟨y0, y1, y2⟩, y3, y4, y5⟩ := hB.all3
  obtain ⟨uV_0, uV_1, uV_2⟩ := (Blk.ext bV_1 hbx (Blk.lt bV_1)).all3.1
  obtain ⟨mV_0, mV_1, mV_2⟩ := (Blk.far3 (g' := gw9) (Blk.ext bV_1 hbx (Blk.lt bV_1)) (by omega) (.int .i64 (sliceL V D S).base) (.slice Aw5 (sliceL V D S).shape.length cw5) (.slice Bw5 (sliceL V D S).strides.length dw5)).all3.1
  obtain ⟨uS_0, uS_1, uS_2, uS_3, uS_4⟩ := (Blk.ext bS_1 hbx (Blk.lt bS_1)).all5.1
  obtain ⟨mS_0, mS_1, mS_2, mS_3, mS_4⟩ := (Blk.far3 (g' := gw9) (Blk.ext bS_1 hbx (Blk.lt bS_1)) (by omega) (.int .i64 (sliceL V D S).base) (.slice Aw5 (sliceL V D S).shape.length cw5) (.slice Bw5 (sliceL V D S).strides.length dw5)).all5.1
  obtain ⟨nw_0, nw_1, nw_2⟩ := HN.out.box.all3.1
  have hb2 := hbg
  clear hbg
  go_wp2_with fail
  clear y0 y1 y2 y3 y4 y5 uV_0 uV_1 uV_2 mV_0 mV_1 mV_2 uS_0 uS_1 uS_2 uS_3 uS_4 mS_0 mS_1 mS_2 mS_3 mS_4 nw_0 nw_1 nw_2
  have hzz := HZZ.out
  have hNg := HN.out
  clear HZZ HN hB hbx
  generalize ((wx.setCell ⟨gw9, 0, none⟩ (.int .i64 (sliceL V D S).base)).setCell ⟨gw9, 1, none⟩ (.slice Aw5 (sliceL V D S).shape.length cw5)).setCell ⟨gw9, 2, none⟩ (.slice Bw5 (sliceL V D S).strides.length dw5) = w2 at *
  have bw_2 := hNg.box
  have howrs := hNg.s
  have howrt := hNg.t
  have sepw := hNg.sep
  clear hNg
  have z2 : w1.heap.size ≤ w2.heap.size := hb2.size
  have hT2 : Below w0.heap.size w0 w2 := hT1.trans (hb2.mono (by omega))
  have zlw : gw9 < w2.heap.size := bw_2.lt
  have bV_2 := (Blk.ext bV_1 hb2 (Blk.lt bV_1))
  clear bV_1
  obtain ⟨⟨qV_2_0, qV_2_1, qV_2_2⟩, -⟩ := id bV_2.all3
  have bS_2 := (Blk.ext bS_1 hb2 (Blk.lt bS_1))
  clear bS_1
  obtain ⟨⟨qS_2_0, qS_2_1, qS_2_2, qS_2_3, qS_2_4⟩, -⟩ := id bS_2.all5
  obtain ⟨⟨qw_2_0, qw_2_1, qw_2_2⟩, -⟩ := id bw_2.all3
  go_wp2_with fail
  refine (toView_any _ V _ (hv1V.ext hT2) hsz1V hsz2V).mono ?_; rintro e w3 ⟨xxVs, xxVt, rfl, hoxVs, hoxVt, sepxV, hb3⟩
  clear qV_2_0 qV_2_1 qV_2_2 qS_2_0 qS_2_1 qS_2_2 qS_2_3 qS_2_4 qw_2_0 qw_2_1 qw_2_2
  have z3 : w2.heap.size ≤ w3.heap.size := hb3.size
  have hT3 : Below w0.heap.size w0 w3 := hT2.trans (hb3.mono (by omega))
  have bV_3 := (Blk.ext bV_2 hb3 (Blk.lt bV_2))
  clear bV_2
  obtain ⟨⟨qV_3_0, qV_3_1, qV_3_2⟩, -⟩ := id bV_3.all3
  have bS_3 := (Blk.ext bS_2 hb3 (Blk.lt bS_2))
  clear bS_2
  obtain ⟨⟨qS_3_0, qS_3_1, qS_3_2, qS_3_3, qS_3_4⟩, -⟩ := id bS_3.all5
  have bw_3 := (Blk.ext bw_2 hb3 (Blk.lt bw_2))
  clear bw_2
  obtain ⟨⟨qw_3_0, qw_3_1, qw_3_2⟩, -⟩ := id bw_3.all3
  have sgxVs := hoxVs.seg
  have sgxVt := hoxVt.seg
  obtain ⟨AxVs, cxVs, exVs⟩ := hoxVs.form
  obtain ⟨AxVt, cxVt, exVt⟩ := hoxVt.form
  subst exVs exVt
  have bxV_4 := Blk.new w3 28 #[.int .i64 V.base, .slice AxVs V.shape.length cxVs, .slice AxVt V.strides.length cxVt]
  have hb4 := below_alloc w3 (.cells #[.int .i64 V.base, .slice AxVs V.shape.length cxVs, .slice AxVt V.strides.length cxVt] 28)
  obtain ⟨mV_3_0, mV_3_1, mV_3_2⟩ := (Blk.ext bV_3 (below_alloc w3 (.cells #[.int .i64 V.base, .slice AxVs V.shape.length cxVs, .slice AxVt V.strides.length cxVt] 28)) (Blk.lt bV_3)).all3.1
  obtain ⟨mS_3_0, mS_3_1, mS_3_2, mS_3_3, mS_3_4⟩ := (Blk.ext bS_3 (below_alloc w3 (.cells #[.int .i64 V.base, .slice AxVs V.shape.length cxVs, .slice AxVt V.strides.length cxVt] 28)) (Blk.lt bS_3)).all5.1
  obtain ⟨mw_3_0, mw_3_1, mw_3_2⟩ := (Blk.ext bw_3 (below_alloc w3 (.cells #[.int .i64 V.base, .slice AxVs V.shape.length cxVs, .slice AxVt V.strides.length cxVt] 28)) (Blk.lt bw_3)).all3.1
  go_wp2_with fail
  generalize w3.alloc (.cells #[.int .i64 V.base, .slice AxVs V.shape.length cxVs, .slice AxVt V.strides.length cxVt] 28) = w4 at *
  clear qV_3_0 qV_3_1 qV_3_2 qS_3_0 qS_3_1 qS_3_2 qS_3_3 qS_3_4 qw_3_0 qw_3_1 qw_3_2 mV_3_0 mV_3_1 mV_3_2 mS_3_0 mS_3_1 mS_3_2 mS_3_3 mS_3_4 mw_3_0 mw_3_1 mw_3_2
  have z4 : w3.heap.size ≤ w4.heap.size := hb4.size
  have hT4 : Below w0.heap.size w0 w4 := hT3.trans (hb4.mono (by omega))
  have zlxV : w3.heap.size < w4.heap.size := bxV_4.lt
  have bV_4 := (Blk.ext bV_3 hb4 (Blk.lt bV_3))
  clear bV_3
  obtain ⟨⟨qV_4_0, qV_4_1, qV_4_2⟩, -⟩ := id bV_4.all3
  have bS_4 := (Blk.ext bS_3 hb4 (Blk.lt bS_3))
  clear bS_3
  obtain ⟨⟨qS_4_0, qS_4_1, qS_4_2, qS_4_3, qS_4_4⟩, -⟩ := id bS_4.all5
  have bw_4 := (Blk.ext bw_3 hb4 (Blk.lt bw_3))
  clear bw_3
  obtain ⟨⟨qw_4_0, qw_4_1, qw_4_2⟩, -⟩ := id bw_4.all3
  obtain ⟨⟨qxV_4_0, qxV_4_1, qxV_4_2⟩, -⟩ := id bxV_4.all3
  go_wp2_with fail
  clear qV_4_0 qV_4_1 qV_4_2 qS_4_0 qS_4_1 qS_4_2 qS_4_3 qS_4_4 qw_4_0 qw_4_1 qw_4_2 qxV_4_0 qxV_4_1 qxV_4_2
  have qqV := fun x : ExtW w4 => (Blk.ext bV_4 x.h (Blk.lt bV_4)).all3.1
  have qqS := fun x : ExtW w4 => (Blk.ext bS_4 x.h (Blk.lt bS_4)).all5.1
  have qqw := fun x : ExtW w4 => (Blk.ext bw_4 x.h (Blk.lt bw_4)).all3.1
  have qqxV := fun x : ExtW w4 => (Blk.ext bxV_4 x.h (Blk.lt bxV_4)).all3.1
  refine region_mkL 9 [7] (by kernel_rfl) (by kernel_rfl) (by kernel_rfl) (fun _ _ _ _ _ h => h) ?_
  apply Exists.intro
  simp only [List.take_succ_cons, List.take_zero, List.drop_succ_cons, List.drop_zero]
  repeat (first
    | (apply grow_val (by rfl); (focus (intro x; (go_simp; try with_reducible rfl); done)); simp only [Act.put, List.setIfInBounds_toArray, List.set_cons_zero, List.set_cons_succ])
    | (apply grow_skip (by rfl); simp only [Act.put, List.setIfInBounds_toArray, List.set_cons_zero, List.set_cons_succ]))
  apply grow_call (by rfl)
  · intro x K Q hK
    go_simp
    (go_at_call 18; refine (toSlice_any _ S _ ⟨rfl, wqS⟩).mono ?_; rintro e w' ⟨rfl, hb⟩; exact hK _ hb)
  simp only [SL.val]
  simp only [Act.put, List.setIfInBounds_toArray, List.set_cons_zero, List.set_cons_succ]
  repeat (first
    | (apply grow_val (by rfl); (focus (intro x; (go_simp; try with_reducible rfl); done)); simp only [Act.put, List.setIfInBounds_toArray, List.set_cons_zero, List.set_cons_succ])
    | (apply grow_skip (by rfl); simp only [Act.put, List.setIfInBounds_toArray, List.set_cons_zero, List.set_cons_succ]))
  apply grow_viewF (tupB (okCut V D S)) (tupB_inj (okCut V D S)) (sliceL V D S) (by rfl)
  · intro x hF K Q hK
    go_simp
    (go_at_call 19; refine (SliceDim_any _ _ V D S _ (Own.view ((hoxVs.ext hb4).ext x.h) ((hoxVt.ext hb4).ext x.h)) ⟨wfD1, wfD2⟩ ⟨rfl, wqS⟩).mono ?_; rintro e w' ⟨s', t', rfl, ho, hp, hs, hb⟩; exact hK _ _ _ hb ho hp hs)
  intro Ag4 cg4 Bg4 dg4 Fg4 Og4 hFg4 hOg4
  simp only [tupB, Act.put, List.setIfInBounds_toArray, List.set_cons_zero, List.set_cons_succ]
  repeat (first
    | (apply grow_val (by rfl); (focus (intro x; (go_simp; try with_reducible rfl); done)); simp only [Act.put, List.setIfInBounds_toArray, List.set_cons_zero, List.set_cons_succ])
    | (apply grow_skip (by rfl); simp only [Act.put, List.setIfInBounds_toArray, List.set_cons_zero, List.set_cons_succ]))
  apply grow_fn (fun d => d.getD 0 undef) [.tuple #[.agg #[.int .i64 (sliceL V D S).base, .slice Ag4 (sliceL V D S).shape.length cg4, .slice Bg4 (sliceL V D S).strides.length dg4], .bool (okCut V D S)]] (by kernel_rfl) (by rfl)
  · intro x hF
    refine ⟨_, by (go_simp; try rfl), rfl⟩
  intro vg5 Fg5 hFg5
  simp only [Act.put, List.setIfInBounds_toArray, List.set_cons_zero, List.set_cons_succ]
  apply grow_fn (fun d => tupAt 0 (d.getD 0 undef)) [vg5] (by kernel_rfl) (by rfl)
  · intro x hF
    have e : vg5 = .tuple #[.agg #[.int .i64 (sliceL V D S).base, .slice Ag4 (sliceL V D S).shape.length cg4, .slice Bg4 (sliceL V D S).strides.length dg4], .bool (okCut V D S)] := hFg5 _ (hF 5 (by kernel_rfl))
    subst e
    refine ⟨_, by (go_simp; try rfl), rfl⟩
  intro vg6 Fg6 hFg6
  simp only [Act.put, List.setIfInBounds_toArray, List.set_cons_zero, List.set_cons_succ]
  apply grow_fn (fun d => tupAt 1 (d.getD 0 undef)) [vg5] (by kernel_rfl) (by rfl)
  · intro x hF
    have e : vg5 = .tuple #[.agg #[.int .i64 (sliceL V D S).base, .slice Ag4 (sliceL V D S).shape.length cg4, .slice Bg4 (sliceL V D S).strides.length dg4], .bool (okCut V D S)] := hFg5 _ (hF 5 (by kernel_rfl))
    subst e
    refine ⟨_, by (go_simp; try rfl), rfl⟩
  intro vg7 Fg7 hFg7
  simp only [Act.put, List.setIfInBounds_toArray, List.set_cons_zero, List.set_cons_succ]
  apply grow_blk (28) (#[.int .i64 0, .slice none 0 0, .slice none 0 0]) (by rfl)
  · intro x
    go_simp
  intro gg8 hgg8 Fg8 Og8 hFg8 hOg8
  simp only [Act.put, List.setIfInBounds_toArray, List.set_cons_zero, List.set_cons_succ]
  repeat (first
    | (apply grow_val (by rfl); (focus (intro x; (go_simp; try with_reducible rfl); done)); simp only [Act.put, List.setIfInBounds_toArray, List.set_cons_zero, List.set_cons_succ])
    | (apply grow_skip (by rfl); simp only [Act.put, List.setIfInBounds_toArray, List.set_cons_zero, List.set_cons_succ]))
  refine grow_nil ?_
  intro x hF hS
  have hm := hFg4 _ (hF 4 (by omega))
  have hB := hFg8 _ (hF 8 (by omega))
  have em : vg5 = .tuple #[.agg #[.int .i64 (sliceL V D S).base, .slice Ag4 (sliceL V D S).shape.length cg4, .slice Bg4 (sliceL V D S).strides.length dg4], .bool (okCut V D S)] := hFg5 _ (hF 5 (by omega))
  subst em
  have e0 : vg6 = .agg #[.int .i64 (sliceL V D S).base, .slice Ag4 (sliceL V D S).shape.length cg4, .slice Bg4 (sliceL V D S).strides.length dg4] := hFg6 _ (hF 6 (by omega))
  have e1 : vg7 = .bool (okCut V D S) := hFg7 _ (hF 7 (by omega))
  subst e0 e1
  have hdis : ∀ q, within2 (.slice Ag4 (sliceL V D S).shape.length cg4) (.slice Bg4 (sliceL V D S).strides.length dg4) q → q ≠ gg8 := fun q h e => hS 4 8 (by omega) (by omega) (by omega) q (hOg4 q h) (e ▸ hOg8)
  obtain ⟨wx, hbx⟩ := x
  simp only at hm hB
  clear hF hS
  have hgl := hB.lt
  have hn1 : ∀ q, Value.ownBlock (.slice Ag4 (sliceL V D S).shape.length cg4) = some q → q ≠ gg8 := fun q h => hdis q ⟨q, q, .inl h, .inl h, Nat.le_refl _, Nat.le_refl _⟩
  have hn2 : ∀ q, Value.ownBlock (.slice Bg4 (sliceL V D S).strides.length dg4) = some q → q ≠ gg8 := fun q h => hdis q ⟨q, q, .inr h, .inr h, Nat.le_refl _, Nat.le_refl _⟩
  obtain ⟨log, hig, l1g, l2g, l3g, sggrs, sggrt, ldg⟩ := ival hm.1.seg hm.2.1.seg hdis hgg8 hgl
  obtain ⟨hNg, hbg⟩ := built_view (sliceL V D S).base hB hbx hm.1 hm.2.1 hm.2.2 hgg8 hn1 hn2
  have hzz : wx.heap.size = (((wx.setCell ⟨gg8, 0, none⟩ (.int .i64 (sliceL V D S).base)).setCell ⟨gg8, 1, none⟩ (.slice Ag4 (sliceL V D S).shape.length cg4)).setCell ⟨gg8, 2, none⟩ (.slice Bg4 (sliceL V D S).strides.length dg4)).heap.size := by simp
  have HZZ := hid hzz
  have HN := hid hNg
  clear hzz hNg hdis hn1 hn2 hm
  clear qqV qqS qqw qqxV hFg4 hFg5 hFg6 hFg7 hFg8 hOg4 hOg8
  obtain ⟨⟨y0, y1, y2⟩, y3, y4, y5⟩ := hB.all3
  obtain ⟨uV_0, uV_1, uV_2⟩ := (Blk.ext bV_4 hbx (Blk.lt bV_4)).all3.1
  obtain ⟨mV_0, mV_1, mV_2⟩ := (Blk.far3 (g' := gg8) (Blk.ext bV_4 hbx (Blk.lt bV_4)) (by omega) (.int .i64 (sliceL V D S).base) (.slice Ag4 (sliceL V D S).shape.length cg4) (.slice Bg4 (sliceL V D S).strides.length dg4)).all3.1
  obtain ⟨uS_0, uS_1, uS_2, uS_3, uS_4⟩ := (Blk.ext bS_4 hbx (Blk.lt bS_4)).all5.1
  obtain ⟨mS_0, mS_1, mS_2, mS_3, mS_4⟩ := (Blk.far3 (g' := gg8) (Blk.ext bS_4 hbx (Blk.lt bS_4)) (by omega) (.int .i64 (sliceL V D S).base) (.slice Ag4 (sliceL V D S).shape.length cg4) (.slice Bg4 (sliceL V D S).strides.length dg4)).all5.1
  obtain ⟨uw_0, uw_1, uw_2⟩ := (Blk.ext bw_4 hbx (Blk.lt bw_4)).all3.1
  obtain ⟨mw_0, mw_1, mw_2⟩ := (Blk.far3 (g' := gg8) (Blk.ext bw_4 hbx (Blk.lt bw_4)) (by omega) (.int .i64 (sliceL V D S).base) (.slice Ag4 (sliceL V D S).shape.length cg4) (.slice Bg4 (sliceL V D S).strides.length dg4)).all3.1
  obtain ⟨uxV_0, uxV_1, uxV_2⟩ := (Blk.ext bxV_4 hbx (Blk.lt bxV_4)).all3.1
  obtain ⟨mxV_0, mxV_1, mxV_2⟩ := (Blk.far3 (g' := gg8) (Blk.ext bxV_4 hbx (Blk.lt bxV_4)) (by omega) (.int .i64 (sliceL V D S).base) (.slice Ag4 (sliceL V D S).shape.length cg4) (.slice Bg4 (sliceL V D S).strides.length dg4)).all3.1
  obtain ⟨ng_0, ng_1, ng_2⟩ := HN.out.box.all3.1
  have hb5 := hbg
  clear hbg
  go_wp2_with fail
  clear y0 y1 y2 y3 y4 y5 uV_0 uV_1 uV_2 mV_0 mV_1 mV_2 uS_0 uS_1 uS_2 uS_3 uS_4 mS_0 mS_1 mS_2 mS_3 mS_4 uw_0 uw_1 uw_2 mw_0 mw_1 mw_2 uxV_0 uxV_1 uxV_2 mxV_0 mxV_1 mxV_2 ng_0 ng_1 ng_2
  have hzz := HZZ.out
  have hNg := HN.out
  clear HZZ HN hB hbx
  generalize ((wx.setCell ⟨gg8, 0, none⟩ (.int .i64 (sliceL V D S).base)).setCell ⟨gg8, 1, none⟩ (.slice Ag4 (sliceL V D S).shape.length cg4)).setCell ⟨gg8, 2, none⟩ (.slice Bg4 (sliceL V D S).strides.length dg4) = w5 at *
  have bg_5 := hNg.box
  have hogrs := hNg.s
  have hogrt := hNg.t
  have sepg := hNg.sep
  clear hNg
  have z5 : w4.heap.size ≤ w5.heap.size := hb5.size
  have hT5 : Below w0.heap.size w0 w5 := hT4.trans (hb5.mono (by omega))
  have zlg : gg8 < w5.heap.size := bg_5.lt
  have bV_5 := (Blk.ext bV_4 hb5 (Blk.lt bV_4))
  clear bV_4
  obtain ⟨⟨qV_5_0, qV_5_1, qV_5_2⟩, -⟩ := id bV_5.all3
  have bS_5 := (Blk.ext bS_4 hb5 (Blk.lt bS_4))
  clear bS_4
  obtain ⟨⟨qS_5_0, qS_5_1, qS_5_2, qS_5_3, qS_5_4⟩, -⟩ := id bS_5.all5
  have bw_5 := (Blk.ext bw_4 hb5 (Blk.lt bw_4))
  clear bw_4
  obtain ⟨⟨qw_5_0, qw_5_1, qw_5_2⟩, -⟩ := id bw_5.all3
  have bxV_5 := (Blk.ext bxV_4 hb5 (Blk.lt bxV_4))
  clear bxV_4
  obtain ⟨⟨qxV_5_0, qxV_5_1, qxV_5_2⟩, -⟩ := id bxV_5.all3
  obtain ⟨⟨qg_5_0, qg_5_1, qg_5_2⟩, -⟩ := id bg_5.all3
  go_wp2_with fail
  refine (eqView_yes _ _ (sliceL V D S) _ (Own.view hogrs hogrt) (Own.view (((howrs.ext hb3).ext hb4).ext hb5) (((howrt.ext hb3).ext hb4).ext hb5))).mono ?_; rintro e w6 ⟨rfl, hb6⟩
  clear qV_5_0 qV_5_1 qV_5_2 qS_5_0 qS_5_1 qS_5_2 qS_5_3 qS_5_4 qw_5_0 qw_5_1 qw_5_2 qxV_5_0 qxV_5_1 qxV_5_2 qg_5_0 qg_5_1 qg_5_2
  have z6 : w5.heap.size ≤ w6.heap.size := hb6.size
  have hT6 : Below w0.heap.size w0 w6 := hT5.trans (hb6.mono (by omega))
  have bV_6 := (Blk.ext bV_5 hb6 (Blk.lt bV_5))
  clear bV_5
  obtain ⟨⟨qV_6_0, qV_6_1, qV_6_2⟩, -⟩ := id bV_6.all3
  have bS_6 := (Blk.ext bS_5 hb6 (Blk.lt bS_5))
  clear bS_5
  obtain ⟨⟨qS_6_0, qS_6_1, qS_6_2, qS_6_3, qS_6_4⟩, -⟩ := id bS_6.all5
  have bw_6 := (Blk.ext bw_5 hb6 (Blk.lt bw_5))
  clear bw_5
  obtain ⟨⟨qw_6_0, qw_6_1, qw_6_2⟩, -⟩ := id bw_6.all3
  have bxV_6 := (Blk.ext bxV_5 hb6 (Blk.lt bxV_5))
  clear bxV_5
  obtain ⟨⟨qxV_6_0, qxV_6_1, qxV_6_2⟩, -⟩ := id bxV_6.all3
  have bg_6 := (Blk.ext bg_5 hb6 (Blk.lt bg_5))
  clear bg_5
  obtain ⟨⟨qg_6_0, qg_6_1, qg_6_2⟩, -⟩ := id bg_6.all3
  go_wp2_with fail
  have hTd : Below w0.heap.size w0 w6.drew := hT6.drew
  have hoys := ((((hoxVs.ext hb4).ext hb5).ext hb6).ext (below_drew w6))
  have hoyt := ((((hoxVt.ext hb4).ext hb5).ext hb6).ext (below_drew w6))
  go_region_held3 (fun w' => w'.cell? ⟨w3.heap.size, 0, none⟩ = some (.int .i64 V.base) ∧ w'.cell? ⟨w3.heap.size, 1, none⟩ = some (.slice AxVs V.shape.length cxVs) ∧ w'.cell? ⟨w3.heap.size, 2, none⟩ = some (.slice AxVt V.strides.length cxVt) ∧ w'.cell? ⟨w.heap.size, 0, none⟩ = some (.int .i64 V.base) ∧ w'.cell? ⟨w.heap.size, 1, none⟩ = some (sV) ∧ w'.cell? ⟨w.heap.size, 2, none⟩ = some (tV))
    (first | go_keep | exact hK8 | exact hK9)
    (first
      | (go_at_call 17; refine (toView_any _ V _ (hv1V.ext hTd) hsz1V hsz2V).mono ?_; rintro e w8 ⟨ys, yt, rfl, hozs, hozt, -, hb8⟩; have hK8 : w8.cell? ⟨w3.heap.size, 0, none⟩ = some (.int .i64 V.base) ∧ w8.cell? ⟨w3.heap.size, 1, none⟩ = some (.slice AxVs V.shape.length cxVs) ∧ w8.cell? ⟨w3.heap.size, 2, none⟩ = some (.slice AxVt V.strides.length cxVt) ∧ w8.cell? ⟨w.heap.size, 0, none⟩ = some (.int .i64 V.base) ∧ w8.cell? ⟨w.heap.size, 1, none⟩ = some (sV) ∧ w8.cell? ⟨w.heap.size, 2, none⟩ = some (tV) := ⟨Blk.cell (Blk.ext (Blk.ext bxV_6 (below_drew w6) (Blk.lt bxV_6)) hb8 (Blk.lt (Blk.ext bxV_6 (below_drew w6) (Blk.lt bxV_6)))) 0, Blk.cell (Blk.ext (Blk.ext bxV_6 (below_drew w6) (Blk.lt bxV_6)) hb8 (Blk.lt (Blk.ext bxV_6 (below_drew w6) (Blk.lt bxV_6)))) 1, Blk.cell (Blk.ext (Blk.ext bxV_6 (below_drew w6) (Blk.lt bxV_6)) hb8 (Blk.lt (Blk.ext bxV_6 (below_drew w6) (Blk.lt bxV_6)))) 2, Blk.cell (Blk.ext (Blk.ext bV_6 (below_drew w6) (Blk.lt bV_6)) hb8 (Blk.lt (Blk.ext bV_6 (below_drew w6) (Blk.lt bV_6)))) 0, Blk.cell (Blk.ext (Blk.ext bV_6 (below_drew w6) (Blk.lt bV_6)) hb8 (Blk.lt (Blk.ext bV_6 (below_drew w6) (Blk.lt bV_6)))) 1, Blk.cell (Blk.ext (Blk.ext bV_6 (below_drew w6) (Blk.lt bV_6)) hb8 (Blk.lt (Blk.ext bV_6 (below_drew w6) (Blk.lt bV_6)))) 2⟩)
      | (go_at_call 20; refine (eqView_yes _ _ V _ (Own.view (hoys.ext hb8) (hoyt.ext hb8)) (Own.view hozs hozt)).mono ?_; rintro e w9 ⟨rfl, hb9⟩; have hK9 : w9.cell? ⟨w3.heap.size, 0, none⟩ = some (.int .i64 V.base) ∧ w9.cell? ⟨w3.heap.size, 1, none⟩ = some (.slice AxVs V.shape.length cxVs) ∧ w9.cell? ⟨w3.heap.size, 2, none⟩ = some (.slice AxVt V.strides.length cxVt) ∧ w9.cell? ⟨w.heap.size, 0, none⟩ = some (.int .i64 V.base) ∧ w9.cell? ⟨w.heap.size, 1, none⟩ = some (sV) ∧ w9.cell? ⟨w.heap.size, 2, none⟩ = some (tV) := ⟨Blk.cell (Blk.ext (Blk.ext (Blk.ext bxV_6 (below_drew w6) (Blk.lt bxV_6)) hb8 (Blk.lt (Blk.ext bxV_6 (below_drew w6) (Blk.lt bxV_6)))) hb9 (Blk.lt (Blk.ext (Blk.ext bxV_6 (below_drew w6) (Blk.lt bxV_6)) hb8 (Blk.lt (Blk.ext bxV_6 (below_drew w6) (Blk.lt bxV_6)))))) 0, Blk.cell (Blk.ext (Blk.ext (Blk.ext bxV_6 (below_drew w6) (Blk.lt bxV_6)) hb8 (Blk.lt (Blk.ext bxV_6 (below_drew w6) (Blk.lt bxV_6)))) hb9 (Blk.lt (Blk.ext (Blk.ext bxV_6 (below_drew w6) (Blk.lt bxV_6)) hb8 (Blk.lt (Blk.ext bxV_6 (below_drew w6) (Blk.lt bxV_6)))))) 1, Blk.cell (Blk.ext (Blk.ext (Blk.ext bxV_6 (below_drew w6) (Blk.lt bxV_6)) hb8 (Blk.lt (Blk.ext bxV_6 (below_drew w6) (Blk.lt bxV_6)))) hb9 (Blk.lt (Blk.ext (Blk.ext bxV_6 (below_drew w6) (Blk.lt bxV_6)) hb8 (Blk.lt (Blk.ext bxV_6 (below_drew w6) (Blk.lt bxV_6)))))) 2, Blk.cell (Blk.ext (Blk.ext (Blk.ext bV_6 (below_drew w6) (Blk.lt bV_6)) hb8 (Blk.lt (Blk.ext bV_6 (below_drew w6) (Blk.lt bV_6)))) hb9 (Blk.lt (Blk.ext (Blk.ext bV_6 (below_drew w6) (Blk.lt bV_6)) hb8 (Blk.lt (Blk.ext bV_6 (below_drew w6) (Blk.lt bV_6)))))) 0, Blk.cell (Blk.ext (Blk.ext (Blk.ext bV_6 (below_drew w6) (Blk.lt bV_6)) hb8 (Blk.lt (Blk.ext bV_6 (below_drew w6) (Blk.lt bV_6)))) hb9 (Blk.lt (Blk.ext (Blk.ext bV_6 (below_drew w6) (Blk.lt bV_6)) hb8 (Blk.lt (Blk.ext bV_6 (below_drew w6) (Blk.lt bV_6)))))) 1, Blk.cell (Blk.ext (Blk.ext (Blk.ext bV_6 (below_drew w6) (Blk.lt bV_6)) hb8 (Blk.lt (Blk.ext bV_6 (below_drew w6) (Blk.lt bV_6)))) hb9 (Blk.lt (Blk.ext (Blk.ext bV_6 (below_drew w6) (Blk.lt bV_6)) hb8 (Blk.lt (Blk.ext bV_6 (below_drew w6) (Blk.lt bV_6)))))) 2⟩))
  clear qV_6_0 qV_6_1 qV_6_2 qS_6_0 qS_6_1 qS_6_2 qS_6_3 qS_6_4 qw_6_0 qw_6_1 qw_6_2 qxV_6_0 qxV_6_1 qxV_6_2 qg_6_0 qg_6_1 qg_6_2
  clear hK8 hK9 hoys hozs hoyt hozt
  have z7 : w6.heap.size ≤ w6.drew.heap.size := Nat.le_refl _
  have hT7 := hTd
  have z8 : w6.drew.heap.size ≤ w8.heap.size := hb8.size
  have hT8 : Below w0.heap.size w0 w8 := hT7.trans (hb8.mono (by omega))
  have z9 : w8.heap.size ≤ w9.heap.size := hb9.size
  have hT9 : Below w0.heap.size w0 w9 := hT8.trans (hb9.mono (by omega))
  clear hTd
  have bV_9 := (Blk.ext (Blk.ext (Blk.ext bV_6 (below_drew w6) (Blk.lt bV_6)) hb8 (Blk.lt (Blk.ext bV_6 (below_drew w6) (Blk.lt bV_6)))) hb9 (Blk.lt (Blk.ext (Blk.ext bV_6 (below_drew w6) (Blk.lt bV_6)) hb8 (Blk.lt (Blk.ext bV_6 (below_drew w6) (Blk.lt bV_6))))))
  clear bV_6
  obtain ⟨⟨qV_9_0, qV_9_1, qV_9_2⟩, -⟩ := id bV_9.all3
  have bS_9 := (Blk.ext (Blk.ext (Blk.ext bS_6 (below_drew w6) (Blk.lt bS_6)) hb8 (Blk.lt (Blk.ext bS_6 (below_drew w6) (Blk.lt bS_6)))) hb9 (Blk.lt (Blk.ext (Blk.ext bS_6 (below_drew w6) (Blk.lt bS_6)) hb8 (Blk.lt (Blk.ext bS_6 (below_drew w6) (Blk.lt bS_6))))))
  clear bS_6
  obtain ⟨⟨qS_9_0, qS_9_1, qS_9_2, qS_9_3, qS_9_4⟩, -⟩ := id bS_9.all5
  have bw_9 := (Blk.ext (Blk.ext (Blk.ext bw_6 (below_drew w6) (Blk.lt bw_6)) hb8 (Blk.lt (Blk.ext bw_6 (below_drew w6) (Blk.lt bw_6)))) hb9 (Blk.lt (Blk.ext (Blk.ext bw_6 (below_drew w6) (Blk.lt bw_6)) hb8 (Blk.lt (Blk.ext bw_6 (below_drew w6) (Blk.lt bw_6))))))
  clear bw_6
  obtain ⟨⟨qw_9_0, qw_9_1, qw_9_2⟩, -⟩ := id bw_9.all3
  have bxV_9 := (Blk.ext (Blk.ext (Blk.ext bxV_6 (below_drew w6) (Blk.lt bxV_6)) hb8 (Blk.lt (Blk.ext bxV_6 (below_drew w6) (Blk.lt bxV_6)))) hb9 (Blk.lt (Blk.ext (Blk.ext bxV_6 (below_drew w6) (Blk.lt bxV_6)) hb8 (Blk.lt (Blk.ext bxV_6 (below_drew w6) (Blk.lt bxV_6))))))
  clear bxV_6
  obtain ⟨⟨qxV_9_0, qxV_9_1, qxV_9_2⟩, -⟩ := id bxV_9.all3
  have bg_9 := (Blk.ext (Blk.ext (Blk.ext bg_6 (below_drew w6) (Blk.lt bg_6)) hb8 (Blk.lt (Blk.ext bg_6 (below_drew w6) (Blk.lt bg_6)))) hb9 (Blk.lt (Blk.ext (Blk.ext bg_6 (below_drew w6) (Blk.lt bg_6)) hb8 (Blk.lt (Blk.ext bg_6 (below_drew w6) (Blk.lt bg_6))))))
  clear bg_6
  obtain ⟨⟨qg_9_0, qg_9_1, qg_9_2⟩, -⟩ := id bg_9.all3
  go_wp2_with fail
  refine (markView_any _ _ _ V.shape V.strides (1) w2.heap.size w2.heap.size w2.heap.size w3.heap.size _ ((((((hoxVs.ext hb4).ext hb5).ext hb6).ext (below_drew w6)).ext hb8).ext hb9) ((((((hoxVt.ext hb4).ext hb5).ext hb6).ext (below_drew w6)).ext hb8).ext hb9) sepxV sgxVs sgxVt hsz1V hsz2V (by omega)).mono ?_; rintro e w10 ⟨rfl, -, -, hb10⟩
  clear qV_9_0 qV_9_1 qV_9_2 qS_9_0 qS_9_1 qS_9_2 qS_9_3 qS_9_4 qw_9_0 qw_9_1 qw_9_2 qxV_9_0 qxV_9_1 qxV_9_2 qg_9_0 qg_9_1 qg_9_2
  have z10 : w9.heap.size ≤ w10.heap.size := hb10.size
  have hT10 : Below w0.heap.size w0 w10 := hT9.trans (hb10.below (by omega) (by omega))
  have bV_10 := (Blk.chg bV_9 hb10 (by omega))
  clear bV_9
  obtain ⟨⟨qV_10_0, qV_10_1, qV_10_2⟩, -⟩ := id bV_10.all3
  have bS_10 := (Blk.chg bS_9 hb10 (by omega))
  clear bS_9
  obtain ⟨⟨qS_10_0, qS_10_1, qS_10_2, qS_10_3, qS_10_4⟩, -⟩ := id bS_10.all5
  have bw_10 := (Blk.chg bw_9 hb10 (by omega))
  clear bw_9
  obtain ⟨⟨qw_10_0, qw_10_1, qw_10_2⟩, -⟩ := id bw_10.all3
  have bg_10 := (Blk.chg bg_9 hb10 (by omega))
  clear bg_9
  obtain ⟨⟨qg_10_0, qg_10_1, qg_10_2⟩, -⟩ := id bg_10.all3
  go_wp2_with fail
  refine (eqView_yes _ _ (sliceL V D S) _ (Own.view (((((hogrs.ext hb6).ext (below_drew w6)).ext hb8).ext hb9).chg hb10 sggrs (by omega)) (((((hogrt.ext hb6).ext (below_drew w6)).ext hb8).ext hb9).chg hb10 sggrt (by omega))) (Own.view ((((((((howrs.ext hb3).ext hb4).ext hb5).ext hb6).ext (below_drew w6)).ext hb8).ext hb9).chg hb10 sgwrs (by omega)) ((((((((howrt.ext hb3).ext hb4).ext hb5).ext hb6).ext (below_drew w6)).ext hb8).ext hb9).chg hb10 sgwrt (by omega)))).mono ?_; rintro e w11 ⟨rfl, hb11⟩
  clear qV_10_0 qV_10_1 qV_10_2 qS_10_0 qS_10_1 qS_10_2 qS_10_3 qS_10_4 qw_10_0 qw_10_1 qw_10_2 qg_10_0 qg_10_1 qg_10_2
  have z11 : w10.heap.size ≤ w11.heap.size := hb11.size
  have hT11 : Below w0.heap.size w0 w11 := hT10.trans (hb11.mono (by omega))
  have bV_11 := (Blk.ext bV_10 hb11 (Blk.lt bV_10))
  clear bV_10
  obtain ⟨⟨qV_11_0, qV_11_1, qV_11_2⟩, -⟩ := id bV_11.all3
  have bS_11 := (Blk.ext bS_10 hb11 (Blk.lt bS_10))
  clear bS_10
  obtain ⟨⟨qS_11_0, qS_11_1, qS_11_2, qS_11_3, qS_11_4⟩, -⟩ := id bS_11.all5
  have bw_11 := (Blk.ext bw_10 hb11 (Blk.lt bw_10))
  clear bw_10
  obtain ⟨⟨qw_11_0, qw_11_1, qw_11_2⟩, -⟩ := id bw_11.all3
  have bg_11 := (Blk.ext bg_10 hb11 (Blk.lt bg_10))
  clear bg_10
  obtain ⟨⟨qg_11_0, qg_11_1, qg_11_2⟩, -⟩ := id bg_11.all3
  have hlr := sliceL_len V D S
  have hlr1 : (sliceL V D S).shape.length ≤ 1048576 := by omega
  have hlr2 : (sliceL V D S).strides.length ≤ 1048576 := by omega
  go_wp2_with fail
  refine (markView_any _ _ _ (sliceL V D S).shape (sliceL V D S).strides (1) w4.heap.size w4.heap.size log hig _ ((((((hogrs.ext hb6).ext (below_drew w6)).ext hb8).ext hb9).chg hb10 sggrs (by omega)).ext hb11) ((((((hogrt.ext hb6).ext (below_drew w6)).ext hb8).ext hb9).chg hb10 sggrt (by omega)).ext hb11) sepg sggrs sggrt hlr1 hlr2 (by omega)).mono ?_; rintro e w12 ⟨rfl, hom1, hom2, hb12⟩
  clear qV_11_0 qV_11_1 qV_11_2 qS_11_0 qS_11_1 qS_11_2 qS_11_3 qS_11_4 qw_11_0 qw_11_1 qw_11_2 qg_11_0 qg_11_1 qg_11_2
  have z12 : w11.heap.size ≤ w12.heap.size := hb12.size
  have hT12 : Below w0.heap.size w0 w12 := hT11.trans (hb12.below (by omega) (by omega))
  have bV_12 := (Blk.chg bV_11 hb12 (by omega))
  clear bV_11
  obtain ⟨⟨qV_12_0, qV_12_1, qV_12_2⟩, -⟩ := id bV_12.all3
  have bS_12 := (Blk.chg bS_11 hb12 (by omega))
  clear bS_11
  obtain ⟨⟨qS_12_0, qS_12_1, qS_12_2, qS_12_3, qS_12_4⟩, -⟩ := id bS_12.all5
  have bw_12 := (Blk.chg bw_11 hb12 (by omega))
  clear bw_11
  obtain ⟨⟨qw_12_0, qw_12_1, qw_12_2⟩, -⟩ := id bw_12.all3
  have bg_12 := (Blk.chg bg_11 hb12 (by omega))
  clear bg_11
  obtain ⟨⟨qg_12_0, qg_12_1, qg_12_2⟩, -⟩ := id bg_12.all3
  go_wp2_with fail
  refine (heldView_any _ _ _ (sliceL V D S).shape.length (sliceL V D S).strides.length (1) _ (Own.ints hom1) (Own.ints hom2) hlr1 hlr2 (by omega)).mono ?_; rintro e w13 ⟨rfl, hb13⟩
  clear qV_12_0 qV_12_1 qV_12_2 qS_12_0 qS_12_1 qS_12_2 qS_12_3 qS_12_4 qw_12_0 qw_12_1 qw_12_2 qg_12_0 qg_12_1 qg_12_2
  have z13 : w12.heap.size ≤ w13.heap.size := hb13.size
  have hT13 : Below w0.heap.size w0 w13 := hT12.trans (hb13.mono (by omega))
  have bV_13 := (Blk.ext bV_12 hb13 (Blk.lt bV_12))
  clear bV_12
  obtain ⟨⟨qV_13_0, qV_13_1, qV_13_2⟩, -⟩ := id bV_13.all3
  have bS_13 := (Blk.ext bS_12 hb13 (Blk.lt bS_12))
  clear bS_12
  obtain ⟨⟨qS_13_0, qS_13_1, qS_13_2, qS_13_3, qS_13_4⟩, -⟩ := id bS_13.all5
  have bw_13 := (Blk.ext bw_12 hb13 (Blk.lt bw_12))
  clear bw_12
  obtain ⟨⟨qw_13_0, qw_13_1, qw_13_2⟩, -⟩ := id bw_13.all3
  have bg_13 := (Blk.ext bg_12 hb13 (Blk.lt bg_12))
  clear bg_12
  obtain ⟨⟨qg_13_0, qg_13_1, qg_13_2⟩, -⟩ := id bg_13.all3
  go_wp2_with fail
  clear qV_13_0 qV_13_1 qV_13_2 qS_13_0 qS_13_1 qS_13_2 qS_13_3 qS_13_4 qw_13_0 qw_13_1 qw_13_2 qg_13_0 qg_13_1 qg_13_2
  have qqV := fun x : ExtW w13 => (Blk.ext bV_13 x.h (Blk.lt bV_13)).all3.1
  have qqS := fun x : ExtW w13 => (Blk.ext bS_13 x.h (Blk.lt bS_13)).all5.1
  have qqw := fun x : ExtW w13 => (Blk.ext bw_13 x.h (Blk.lt bw_13)).all3.1
  have qqg := fun x : ExtW w13 => (Blk.ext bg_13 x.h (Blk.lt bg_13)).all3.1
  refine region_mkL 10 [8] (by kernel_rfl) (by kernel_rfl) (by kernel_rfl) (fun _ _ _ _ _ h => h) ?_
  apply Exists.intro
  simp only [List.take_succ_cons, List.take_zero, List.drop_succ_cons, List.drop_zero]
  repeat (first
    | (apply grow_val (by rfl); (focus (intro x; (go_simp; try with_reducible rfl); done)); simp only [Act.put, List.setIfInBounds_toArray, List.set_cons_zero, List.set_cons_succ])
    | (apply grow_skip (by rfl); simp only [Act.put, List.setIfInBounds_toArray, List.set_cons_zero, List.set_cons_succ]))
  apply grow_viewF (fun v => v) id_inj V (by rfl)
  · intro x hF K Q hK
    go_simp
    (go_at_call 17; refine (toView_any _ V _ (hv1V.ext (hT13.trans (x.h.mono (by omega)))) hsz1V hsz2V).mono ?_; rintro e w' ⟨s', t', rfl, ho, hp, hs, hb⟩; exact hK _ _ _ hb ho hp hs)
  intro Ah1 ch1 Bh1 dh1 Fh1 Oh1 hFh1 hOh1
  simp only [Act.put, List.setIfInBounds_toArray, List.set_cons_zero, List.set_cons_succ]
  repeat (first
    | (apply grow_val (by rfl); (focus (intro x; (go_simp; try with_reducible rfl); done)); simp only [Act.put, List.setIfInBounds_toArray, List.set_cons_zero, List.set_cons_succ])
    | (apply grow_skip (by rfl); simp only [Act.put, List.setIfInBounds_toArray, List.set_cons_zero, List.set_cons_succ]))
  apply grow_call (by rfl)
  · intro x K Q hK
    go_simp
    (go_at_call 18; refine (toSlice_any _ S _ ⟨rfl, wqS⟩).mono ?_; rintro e w' ⟨rfl, hb⟩; exact hK _ hb)
  simp only [SL.val]
  simp only [Act.put, List.setIfInBounds_toArray, List.set_cons_zero, List.set_cons_succ]
  repeat (first
    | (apply grow_val (by rfl); (focus (intro x; (go_simp; try with_reducible rfl); done)); simp only [Act.put, List.setIfInBounds_toArray, List.set_cons_zero, List.set_cons_succ])
    | (apply grow_skip (by rfl); simp only [Act.put, List.setIfInBounds_toArray, List.set_cons_zero, List.set_cons_succ]))
  apply grow_viewF (tupB (okCut V D S)) (tupB_inj (okCut V D S)) (sliceL V D S) (by rfl)
  · intro x hF K Q hK
    have h1 := hFh1 _ (hF 1 (by kernel_rfl))
    go_simp
    (go_at_call 19; refine (SliceDim_any _ _ V D S _ (Own.view h1.1 h1.2.1) ⟨wfD1, wfD2⟩ ⟨rfl, wqS⟩).mono ?_; rintro e w' ⟨s', t', rfl, ho, hp, hs, hb⟩; exact hK _ _ _ hb ho hp hs)
  intro Ah5 ch5 Bh5 dh5 Fh5 Oh5 hFh5 hOh5
  simp only [tupB, Act.put, List.setIfInBounds_toArray, List.set_cons_zero, List.set_cons_succ]
  repeat (first
    | (apply grow_val (by rfl); (focus (intro x; (go_simp; try with_reducible rfl); done)); simp only [Act.put, List.setIfInBounds_toArray, List.set_cons_zero, List.set_cons_succ])
    | (apply grow_skip (by rfl); simp only [Act.put, List.setIfInBounds_toArray, List.set_cons_zero, List.set_cons_succ]))
  apply grow_fn (fun d => d.getD 0 undef) [.tuple #[.agg #[.int .i64 (sliceL V D S).base, .slice Ah5 (sliceL V D S).shape.length ch5, .slice Bh5 (sliceL V D S).strides.length dh5], .bool (okCut V D S)]] (by kernel_rfl) (by rfl)
  · intro x hF
    refine ⟨_, by (go_simp; try rfl), rfl⟩
  intro vh6 Fh6 hFh6
  simp only [Act.put, List.setIfInBounds_toArray, List.set_cons_zero, List.set_cons_succ]
  apply grow_fn (fun d => tupAt 0 (d.getD 0 undef)) [vh6] (by kernel_rfl) (by rfl)
  · intro x hF
    have e : vh6 = .tuple #[.agg #[.int .i64 (sliceL V D S).base, .slice Ah5 (sliceL V D S).shape.length ch5, .slice Bh5 (sliceL V D S).strides.length dh5], .bool (okCut V D S)] := hFh6 _ (hF 6 (by kernel_rfl))
    subst e
    refine ⟨_, by (go_simp; try rfl), rfl⟩
  intro vh7 Fh7 hFh7
  simp only [Act.put, List.setIfInBounds_toArray, List.set_cons_zero, List.set_cons_succ]
  apply grow_fn (fun d => tupAt 1 (d.getD 0 undef)) [vh6] (by kernel_rfl) (by rfl)
  · intro x hF
    have e : vh6 = .tuple #[.agg #[.int .i64 (sliceL V D S).base, .slice Ah5 (sliceL V D S).shape.length ch5, .slice Bh5 (sliceL V D S).strides.length dh5], .bool (okCut V D S)] := hFh6 _ (hF 6 (by kernel_rfl))
    subst e
    refine ⟨_, by (go_simp; try rfl), rfl⟩
  intro vh8 Fh8 hFh8
  simp only [Act.put, List.setIfInBounds_toArray, List.set_cons_zero, List.set_cons_succ]
  apply grow_blk (28) (#[.int .i64 0, .slice none 0 0, .slice none 0 0]) (by rfl)
  · intro x
    go_simp
  intro gh9 hgh9 Fh9 Oh9 hFh9 hOh9
  simp only [Act.put, List.setIfInBounds_toArray, List.set_cons_zero, List.set_cons_succ]
  repeat (first
    | (apply grow_val (by rfl); (focus (intro x; (go_simp; try with_reducible rfl); done)); simp only [Act.put, List.setIfInBounds_toArray, List.set_cons_zero, List.set_cons_succ])
    | (apply grow_skip (by rfl); simp only [Act.put, List.setIfInBounds_toArray, List.set_cons_zero, List.set_cons_succ]))
  refine grow_nil ?_
  intro x hF hS
  have hm := hFh5 _ (hF 5 (by omega))
  have hB := hFh9 _ (hF 9 (by omega))
  have em : vh6 = .tuple #[.agg #[.int .i64 (sliceL V D S).base, .slice Ah5 (sliceL V D S).shape.length ch5, .slice Bh5 (sliceL V D S).strides.length dh5], .bool (okCut V D S)] := hFh6 _ (hF 6 (by omega))
  subst em
  have e0 : vh7 = .agg #[.int .i64 (sliceL V D S).base, .slice Ah5 (sliceL V D S).shape.length ch5, .slice Bh5 (sliceL V D S).strides.length dh5] := hFh7 _ (hF 7 (by omega))
  have e1 : vh8 = .bool (okCut V D S) := hFh8 _ (hF 8 (by omega))
  subst e0 e1
  have hdis : ∀ q, within2 (.slice Ah5 (sliceL V D S).shape.length ch5) (.slice Bh5 (sliceL V D S).strides.length dh5) q → q ≠ gh9 := fun q h e => hS 5 9 (by omega) (by omega) (by omega) q (hOh5 q h) (e ▸ hOh9)
  obtain ⟨wx, hbx⟩ := x
  simp only at hm hB
  clear hF hS
  have hgl := hB.lt
  have hn1 : ∀ q, Value.ownBlock (.slice Ah5 (sliceL V D S).shape.length ch5) = some q → q ≠ gh9 := fun q h => hdis q ⟨q, q, .inl h, .inl h, Nat.le_refl _, Nat.le_refl _⟩
  have hn2 : ∀ q, Value.ownBlock (.slice Bh5 (sliceL V D S).strides.length dh5) = some q → q ≠ gh9 := fun q h => hdis q ⟨q, q, .inr h, .inr h, Nat.le_refl _, Nat.le_refl _⟩
  obtain ⟨loh, hih, l1h, l2h, l3h, sghrs, sghrt, ldh⟩ := ival hm.1.seg hm.2.1.seg hdis hgh9 hgl
  obtain ⟨hNg, hbg⟩ := built_view (sliceL V D S).base hB hbx hm.1 hm.2.1 hm.2.2 hgh9 hn1 hn2
  have hzz : wx.heap.size = (((wx.setCell ⟨gh9, 0, none⟩ (.int .i64 (sliceL V D S).base)).setCell ⟨gh9, 1, none⟩ (.slice Ah5 (sliceL V D S).shape.length ch5)).setCell ⟨gh9, 2, none⟩ (.slice Bh5 (sliceL V D S).strides.length dh5)).heap.size := by simp
  have HZZ := hid hzz
  have HN := hid hNg
  clear hzz hNg hdis hn1 hn2 hm
  clear qqV qqS qqw qqg hFh5 hFh6 hFh7 hFh8 hFh9 hFh1 hOh5 hOh9 hOh1
  obtain ⟨⟨y0, y1, y2⟩, y3, y4, y5⟩ := hB.all3
  obtain ⟨uV_0, uV_1, uV_2⟩ := (Blk.ext bV_13 hbx (Blk.lt bV_13)).all3.1
  obtain ⟨mV_0, mV_1, mV_2⟩ := (Blk.far3 (g' := gh9) (Blk.ext bV_13 hbx (Blk.lt bV_13)) (by omega) (.int .i64 (sliceL V D S).base) (.slice Ah5 (sliceL V D S).shape.length ch5) (.slice Bh5 (sliceL V D S).strides.length dh5)).all3.1
  obtain ⟨uS_0, uS_1, uS_2, uS_3, uS_4⟩ := (Blk.ext bS_13 hbx (Blk.lt bS_13)).all5.1
  obtain ⟨mS_0, mS_1, mS_2, mS_3, mS_4⟩ := (Blk.far3 (g' := gh9) (Blk.ext bS_13 hbx (Blk.lt bS_13)) (by omega) (.int .i64 (sliceL V D S).base) (.slice Ah5 (sliceL V D S).shape.length ch5) (.slice Bh5 (sliceL V D S).strides.length dh5)).all5.1
  obtain ⟨uw_0, uw_1, uw_2⟩ := (Blk.ext bw_13 hbx (Blk.lt bw_13)).all3.1
  obtain ⟨mw_0, mw_1, mw_2⟩ := (Blk.far3 (g' := gh9) (Blk.ext bw_13 hbx (Blk.lt bw_13)) (by omega) (.int .i64 (sliceL V D S).base) (.slice Ah5 (sliceL V D S).shape.length ch5) (.slice Bh5 (sliceL V D S).strides.length dh5)).all3.1
  obtain ⟨ug_0, ug_1, ug_2⟩ := (Blk.ext bg_13 hbx (Blk.lt bg_13)).all3.1
  obtain ⟨mg_0, mg_1, mg_2⟩ := (Blk.far3 (g' := gh9) (Blk.ext bg_13 hbx (Blk.lt bg_13)) (by omega) (.int .i64 (sliceL V D S).base) (.slice Ah5 (sliceL V D S).shape.length ch5) (.slice Bh5 (sliceL V D S).strides.length dh5)).all3.1
  obtain ⟨nh_0, nh_1, nh_2⟩ := HN.out.box.all3.1
  have hb14 := hbg
  clear hbg
  go_wp2_with fail
  clear y0 y1 y2 y3 y4 y5 uV_0 uV_1 uV_2 mV_0 mV_1 mV_2 uS_0 uS_1 uS_2 uS_3 uS_4 mS_0 mS_1 mS_2 mS_3 mS_4 uw_0 uw_1 uw_2 mw_0 mw_1 mw_2 ug_0 ug_1 ug_2 mg_0 mg_1 mg_2 nh_0 nh_1 nh_2
  have hzz := HZZ.out
  have hNg := HN.out
  clear HZZ HN hB hbx
  generalize ((wx.setCell ⟨gh9, 0, none⟩ (.int .i64 (sliceL V D S).base)).setCell ⟨gh9, 1, none⟩ (.slice Ah5 (sliceL V D S).shape.length ch5)).setCell ⟨gh9, 2, none⟩ (.slice Bh5 (sliceL V D S).strides.length dh5) = w14 at *
  have bh_14 := hNg.box
  have hohrs := hNg.s
  have hohrt := hNg.t
  have seph := hNg.sep
  clear hNg
  have z14 : w13.heap.size ≤ w14.heap.size := hb14.size
  have hT14 : Below w0.heap.size w0 w14 := hT13.trans (hb14.mono (by omega))
  have zlh : gh9 < w14.heap.size := bh_14.lt
  have bV_14 := (Blk.ext bV_13 hb14 (Blk.lt bV_13))
  clear bV_13
  obtain ⟨⟨qV_14_0, qV_14_1, qV_14_2⟩, -⟩ := id bV_14.all3
  have bS_14 := (Blk.ext bS_13 hb14 (Blk.lt bS_13))
  clear bS_13
  obtain ⟨⟨qS_14_0, qS_14_1, qS_14_2, qS_14_3, qS_14_4⟩, -⟩ := id bS_14.all5
  have bw_14 := (Blk.ext bw_13 hb14 (Blk.lt bw_13))
  clear bw_13
  obtain ⟨⟨qw_14_0, qw_14_1, qw_14_2⟩, -⟩ := id bw_14.all3
  have bg_14 := (Blk.ext bg_13 hb14 (Blk.lt bg_13))
  clear bg_13
  obtain ⟨⟨qg_14_0, qg_14_1, qg_14_2⟩, -⟩ := id bg_14.all3
  obtain ⟨⟨qh_14_0, qh_14_1, qh_14_2⟩, -⟩ := id bh_14.all3
  go_wp2_with fail
  refine (eqView_yes _ _ (sliceL V D S) _ (Own.view hohrs hohrt) (Own.view ((((((((((((howrs.ext hb3).ext hb4).ext hb5).ext hb6).ext (below_drew w6)).ext hb8).ext hb9).chg hb10 sgwrs (by omega)).ext hb11).chg hb12 sgwrs (by omega)).ext hb13).ext hb14) ((((((((((((howrt.ext hb3).ext hb4).ext hb5).ext hb6).ext (below_drew w6)).ext hb8).ext hb9).chg hb10 sgwrt (by omega)).ext hb11).chg hb12 sgwrt (by omega)).ext hb13).ext hb14))).mono ?_; rintro e w15 ⟨rfl, hb15⟩
  clear qV_14_0 qV_14_1 qV_14_2 qS_14_0 qS_14_1 qS_14_2 qS_14_3 qS_14_4 qw_14_0 qw_14_1 qw_14_2 qg_14_0 qg_14_1 qg_14_2 qh_14_0 qh_14_1 qh_14_2
  have z15 : w14.heap.size ≤ w15.heap.size := hb15.size
  have hT15 : Below w0.heap.size w0 w15 := hT14.trans (hb15.mono (by omega))
  have bV_15 := (Blk.ext bV_14 hb15 (Blk.lt bV_14))
  clear bV_14
  obtain ⟨⟨qV_15_0, qV_15_1, qV_15_2⟩, -⟩ := id bV_15.all3
  have bS_15 := (Blk.ext bS_14 hb15 (Blk.lt bS_14))
  clear bS_14
  obtain ⟨⟨qS_15_0, qS_15_1, qS_15_2, qS_15_3, qS_15_4⟩, -⟩ := id bS_15.all5
  have bw_15 := (Blk.ext bw_14 hb15 (Blk.lt bw_14))
  clear bw_14
  obtain ⟨⟨qw_15_0, qw_15_1, qw_15_2⟩, -⟩ := id bw_15.all3
  have bg_15 := (Blk.ext bg_14 hb15 (Blk.lt bg_14))
  clear bg_14
  obtain ⟨⟨qg_15_0, qg_15_1, qg_15_2⟩, -⟩ := id bg_15.all3
  have bh_15 := (Blk.ext bh_14 hb15 (Blk.lt bh_14))
  clear bh_14
  obtain ⟨⟨qh_15_0, qh_15_1, qh_15_2⟩, -⟩ := id bh_15.all3
  go_wp2_with fail
  refine (heldView_any _ _ _ (sliceL V D S).shape.length (sliceL V D S).strides.length (1) _ (Own.ints (((hom1.ext hb13).ext hb14).ext hb15)) (Own.ints (((hom2.ext hb13).ext hb14).ext hb15)) hlr1 hlr2 (by omega)).mono ?_; rintro e w16 ⟨rfl, hb16⟩
  clear qV_15_0 qV_15_1 qV_15_2 qS_15_0 qS_15_1 qS_15_2 qS_15_3 qS_15_4 qw_15_0 qw_15_1 qw_15_2 qg_15_0 qg_15_1 qg_15_2 qh_15_0 qh_15_1 qh_15_2
  have z16 : w15.heap.size ≤ w16.heap.size := hb16.size
  have hT16 : Below w0.heap.size w0 w16 := hT15.trans (hb16.mono (by omega))
  have bV_16 := (Blk.ext bV_15 hb16 (Blk.lt bV_15))
  clear bV_15
  obtain ⟨⟨qV_16_0, qV_16_1, qV_16_2⟩, -⟩ := id bV_16.all3
  have bS_16 := (Blk.ext bS_15 hb16 (Blk.lt bS_15))
  clear bS_15
  obtain ⟨⟨qS_16_0, qS_16_1, qS_16_2, qS_16_3, qS_16_4⟩, -⟩ := id bS_16.all5
  have bw_16 := (Blk.ext bw_15 hb16 (Blk.lt bw_15))
  clear bw_15
  obtain ⟨⟨qw_16_0, qw_16_1, qw_16_2⟩, -⟩ := id bw_16.all3
  have bg_16 := (Blk.ext bg_15 hb16 (Blk.lt bg_15))
  clear bg_15
  obtain ⟨⟨qg_16_0, qg_16_1, qg_16_2⟩, -⟩ := id bg_16.all3
  have bh_16 := (Blk.ext bh_15 hb16 (Blk.lt bh_15))
  clear bh_15
  obtain ⟨⟨qh_16_0, qh_16_1, qh_16_2⟩, -⟩ := id bh_16.all3
  go_wp2
  go_ret
  exact ⟨rfl, hW.trans (hT16.mono hW.size)⟩

end Go.Proofs.Ytbcmhjhiofpnlaa
