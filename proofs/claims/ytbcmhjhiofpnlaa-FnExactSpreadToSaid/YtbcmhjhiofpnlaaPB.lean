/- The walks of exact laws: each answers true at every input and changes nothing that was there. No conditions. (printed by genlaw2.py) -/
import Derived.Test.YtbcmhjhiofpnlaaZ3
import Derived.Test.YtbcmhjhiofpnlaaZ5
import Derived.Test.YtbcmhjhiofpnlaaL2
import Derived.Deep.RegionHeld3
namespace Go.Proofs.Ytbcmhjhiofpnlaa
open Go.RowKit

set_option maxRecDepth 100000 in
set_option maxHeartbeats 3200000 in
theorem FnExactSpreadTo_walk (vV : Value) (V : VL) (vX : Value) (X : List Int) (w : World) (hvV : ViewV w vV V) (hvX : Ints w vX X) :
    Calls Try.prog 7 #[vV, vX] w fun e w' => e = .returned (.bool true) ∧ Below w.heap.size w w' := by
  have hv0V := hvV
  obtain ⟨sV, tV, rfl, -, -⟩ := hvV
  have hW : Below w.heap.size w (w.alloc (.cells #[.int .i64 V.base, sV, tV] 24)) := Below.alloc (Below.refl w.heap.size w) (by simp <;> omega) (.cells #[.int .i64 V.base, sV, tV] 24)
  have bV_0 : Blk (w.alloc (.cells #[.int .i64 V.base, sV, tV] 24)) (w.heap.size) 24 #[.int .i64 V.base, sV, tV] := (Blk.new w 24 #[.int .i64 V.base, sV, tV])
  have hv1V := hv0V.ext hW
  have hv1X := hvX.ext hW
  by_cases hlX : 1048576 < X.length
  · obtain ⟨A0, c0, rfl, hk0, hm0, -⟩ := hvX
    unfold maxLen at hm0
    clear hv1X
    go_enter Try.func7, Try.ntmps7
    go_wp2
    go_ret
    exact ⟨rfl, hW⟩
  have hlX : X.length ≤ 1048576 := by omega
  by_cases hsV : 1048576 < V.shape.length + V.strides.length
  · have hzV : 1048576 < V.shape.length + V.strides.length := by omega
    obtain ⟨AX0, cX0, rfl, hkX0, hmX0, -⟩ := hvX
    unfold maxLen at hmX0
    go_enter Try.func7, Try.ntmps7
    go_wp2_with fail
    generalize (w.alloc (.cells #[.int .i64 V.base, sV, tV] 24)) = w0 at *
    have hT0 : Below w0.heap.size w0 w0 := Below.refl _ _
    have zlV : w.heap.size < w0.heap.size := bV_0.lt
    obtain ⟨⟨qV_0_0, qV_0_1, qV_0_2⟩, -⟩ := id bV_0.all3
    refine (szView_no _ V 1048576 _ (hv1V.ext hT0) hzV (by omega)).mono ?_; rintro e w1 ⟨rfl, hb1⟩
    clear qV_0_0 qV_0_1 qV_0_2
    have z1 : w0.heap.size ≤ w1.heap.size := hb1.size
    have hT1 : Below w0.heap.size w0 w1 := hT0.trans (hb1.mono (by omega))
    go_wp2
    go_ret
    exact ⟨rfl, hW.trans (hT1.mono hW.size)⟩
  have hsz1V : V.shape.length ≤ 1048576 := by omega
  have hsz2V : V.strides.length ≤ 1048576 := by omega
  obtain ⟨AX0, cX0, rfl, hkX0, hmX0, -⟩ := id hvX
  unfold maxLen at hmX0
  go_enter Try.func7, Try.ntmps7
  go_wp2_with fail
  generalize (w.alloc (.cells #[.int .i64 V.base, sV, tV] 24)) = w0 at *
  have hT0 : Below w0.heap.size w0 w0 := Below.refl _ _
  have zlV : w.heap.size < w0.heap.size := bV_0.lt
  obtain ⟨⟨qV_0_0, qV_0_1, qV_0_2⟩, -⟩ := id bV_0.all3
  refine (szView_ok _ V 1048576 _ hv1V (by omega) (by omega)).mono ?_; rintro e w1 ⟨rfl, hb1⟩
  clear qV_0_0 qV_0_1 qV_0_2
  have z1 : w0.heap.size ≤ w1.heap.size := hb1.size
  have hT1 : Below w0.heap.size w0 w1 := hT0.trans (hb1.mono (by omega))
  have bV_1 := (Blk.ext bV_0 hb1 (Blk.lt bV_0))
  obtain ⟨⟨qV_1_0, qV_1_1, qV_1_2⟩, -⟩ := id bV_1.all3
  go_wp2_with fail
  refine (toView_any _ V _ (hv1V.ext hT1) hsz1V hsz2V).mono ?_; rintro e w2 ⟨xwVs, xwVt, rfl, howVs, howVt, sepwV, hb2⟩
  clear qV_1_0 qV_1_1 qV_1_2
  have z2 : w1.heap.size ≤ w2.heap.size := hb2.size
  have hT2 : Below w0.heap.size w0 w2 := hT1.trans (hb2.mono (by omega))
  have bV_2 := (Blk.ext bV_1 hb2 (Blk.lt bV_1))
  clear bV_1
  obtain ⟨⟨qV_2_0, qV_2_1, qV_2_2⟩, -⟩ := id bV_2.all3
  go_wp2_with fail
  refine (toIntS_any _ X _ (hv1X.ext hT2) hlX).mono ?_; rintro e w3 ⟨xwX, rfl, howX, hb3⟩
  clear qV_2_0 qV_2_1 qV_2_2
  have z3 : w2.heap.size ≤ w3.heap.size := hb3.size
  have hT3 : Below w0.heap.size w0 w3 := hT2.trans (hb3.mono (by omega))
  have bV_3 := (Blk.ext bV_2 hb3 (Blk.lt bV_2))
  clear bV_2
  obtain ⟨⟨qV_3_0, qV_3_1, qV_3_2⟩, -⟩ := id bV_3.all3
  go_wp2_with fail
  refine (sSpreadTo_any _ _ V X _ (Own.view (howVs.ext hb3) (howVt.ext hb3)) (Own.ints howX)).mono ?_; rintro e w4 ⟨rws, rwt, rfl, howrs, howrt, sepw, hb4⟩
  clear qV_3_0 qV_3_1 qV_3_2
  have z4 : w3.heap.size ≤ w4.heap.size := hb4.size
  have hT4 : Below w0.heap.size w0 w4 := hT3.trans (hb4.mono (by omega))
  have bV_4 := (Blk.ext bV_3 hb4 (Blk.lt bV_3))
  clear bV_3
  obtain ⟨⟨qV_4_0, qV_4_1, qV_4_2⟩, -⟩ := id bV_4.all3
  have sgwrs := howrs.seg
  have sgwrt := howrt.seg
  obtain ⟨Aws, cws, ews⟩ := howrs.form
  obtain ⟨Awt, cwt, ewt⟩ := howrt.form
  subst ews ewt
  have bw_5 := Blk.new w4 28 #[.int .i64 (spreadL V X).base, .slice Aws (spreadL V X).shape.length cws, .slice Awt (spreadL V X).strides.length cwt]
  have hb5 := below_alloc w4 (.cells #[.int .i64 (spreadL V X).base, .slice Aws (spreadL V X).shape.length cws, .slice Awt (spreadL V X).strides.length cwt] 28)
  obtain ⟨mV_4_0, mV_4_1, mV_4_2⟩ := (Blk.ext bV_4 (below_alloc w4 (.cells #[.int .i64 (spreadL V X).base, .slice Aws (spreadL V X).shape.length cws, .slice Awt (spreadL V X).strides.length cwt] 28)) (Blk.lt bV_4)).all3.1
  go_wp2_with fail
  generalize w4.alloc (.cells #[.int .i64 (spreadL V X).base, .slice Aws (spreadL V X).shape.length cws, .slice Awt (spreadL V X).strides.length cwt] 28) = w5 at *
  clear qV_4_0 qV_4_1 qV_4_2 mV_4_0 mV_4_1 mV_4_2
  have z5 : w4.heap.size ≤ w5.heap.size := hb5.size
  have hT5 : Below w0.heap.size w0 w5 := hT4.trans (hb5.mono (by omega))
  have zlw : w4.heap.size < w5.heap.size := bw_5.lt
  have bV_5 := (Blk.ext bV_4 hb5 (Blk.lt bV_4))
  clear bV_4
  obtain ⟨⟨qV_5_0, qV_5_1, qV_5_2⟩, -⟩ := id bV_5.all3
  obtain ⟨⟨qw_5_0, qw_5_1, qw_5_2⟩, -⟩ := id bw_5.all3
  go_wp2_with fail
  refine (toView_any _ V _ (hv1V.ext hT5) hsz1V hsz2V).mono ?_; rintro e w6 ⟨xxVs, xxVt, rfl, hoxVs, hoxVt, sepxV, hb6⟩
  clear qV_5_0 qV_5_1 qV_5_2 qw_5_0 qw_5_1 qw_5_2
  have z6 : w5.heap.size ≤ w6.heap.size := hb6.size
  have hT6 : Below w0.heap.size w0 w6 := hT5.trans (hb6.mono (by omega))
  have bV_6 := (Blk.ext bV_5 hb6 (Blk.lt bV_5))
  clear bV_5
  obtain ⟨⟨qV_6_0, qV_6_1, qV_6_2⟩, -⟩ := id bV_6.all3
  have bw_6 := (Blk.ext bw_5 hb6 (Blk.lt bw_5))
  clear bw_5
  obtain ⟨⟨qw_6_0, qw_6_1, qw_6_2⟩, -⟩ := id bw_6.all3
  have sgxVs := hoxVs.seg
  have sgxVt := hoxVt.seg
  obtain ⟨AxVs, cxVs, exVs⟩ := hoxVs.form
  obtain ⟨AxVt, cxVt, exVt⟩ := hoxVt.form
  subst exVs exVt
  have bxV_7 := Blk.new w6 28 #[.int .i64 V.base, .slice AxVs V.shape.length cxVs, .slice AxVt V.strides.length cxVt]
  have hb7 := below_alloc w6 (.cells #[.int .i64 V.base, .slice AxVs V.shape.length cxVs, .slice AxVt V.strides.length cxVt] 28)
  obtain ⟨mV_6_0, mV_6_1, mV_6_2⟩ := (Blk.ext bV_6 (below_alloc w6 (.cells #[.int .i64 V.base, .slice AxVs V.shape.length cxVs, .slice AxVt V.strides.length cxVt] 28)) (Blk.lt bV_6)).all3.1
  obtain ⟨mw_6_0, mw_6_1, mw_6_2⟩ := (Blk.ext bw_6 (below_alloc w6 (.cells #[.int .i64 V.base, .slice AxVs V.shape.length cxVs, .slice AxVt V.strides.length cxVt] 28)) (Blk.lt bw_6)).all3.1
  go_wp2_with fail
  generalize w6.alloc (.cells #[.int .i64 V.base, .slice AxVs V.shape.length cxVs, .slice AxVt V.strides.length cxVt] 28) = w7 at *
  clear qV_6_0 qV_6_1 qV_6_2 qw_6_0 qw_6_1 qw_6_2 mV_6_0 mV_6_1 mV_6_2 mw_6_0 mw_6_1 mw_6_2
  have z7 : w6.heap.size ≤ w7.heap.size := hb7.size
  have hT7 : Below w0.heap.size w0 w7 := hT6.trans (hb7.mono (by omega))
  have zlxV : w6.heap.size < w7.heap.size := bxV_7.lt
  have bV_7 := (Blk.ext bV_6 hb7 (Blk.lt bV_6))
  clear bV_6
  obtain ⟨⟨qV_7_0, qV_7_1, qV_7_2⟩, -⟩ := id bV_7.all3
  have bw_7 := (Blk.ext bw_6 hb7 (Blk.lt bw_6))
  clear bw_6
  obtain ⟨⟨qw_7_0, qw_7_1, qw_7_2⟩, -⟩ := id bw_7.all3
  obtain ⟨⟨qxV_7_0, qxV_7_1, qxV_7_2⟩, -⟩ := id bxV_7.all3
  go_wp2_with fail
  refine (toIntS_any _ X _ (hv1X.ext hT7) hlX).mono ?_; rintro e w8 ⟨xxX, rfl, hoxX, hb8⟩
  clear qV_7_0 qV_7_1 qV_7_2 qw_7_0 qw_7_1 qw_7_2 qxV_7_0 qxV_7_1 qxV_7_2
  have z8 : w7.heap.size ≤ w8.heap.size := hb8.size
  have hT8 : Below w0.heap.size w0 w8 := hT7.trans (hb8.mono (by omega))
  have bV_8 := (Blk.ext bV_7 hb8 (Blk.lt bV_7))
  clear bV_7
  obtain ⟨⟨qV_8_0, qV_8_1, qV_8_2⟩, -⟩ := id bV_8.all3
  have bw_8 := (Blk.ext bw_7 hb8 (Blk.lt bw_7))
  clear bw_7
  obtain ⟨⟨qw_8_0, qw_8_1, qw_8_2⟩, -⟩ := id bw_8.all3
  have bxV_8 := (Blk.ext bxV_7 hb8 (Blk.lt bxV_7))
  clear bxV_7
  obtain ⟨⟨qxV_8_0, qxV_8_1, qxV_8_2⟩, -⟩ := id bxV_8.all3
  have sgxX := hoxX.seg
  go_wp2_with fail
  refine (SpreadTo_any _ _ V X _ (Own.view ((hoxVs.ext hb7).ext hb8) ((hoxVt.ext hb7).ext hb8)) (Own.ints hoxX)).mono ?_; rintro e w9 ⟨rgs, rgt, rfl, hogrs, hogrt, sepg, hb9⟩
  clear qV_8_0 qV_8_1 qV_8_2 qw_8_0 qw_8_1 qw_8_2 qxV_8_0 qxV_8_1 qxV_8_2
  have z9 : w8.heap.size ≤ w9.heap.size := hb9.size
  have hT9 : Below w0.heap.size w0 w9 := hT8.trans (hb9.mono (by omega))
  have bV_9 := (Blk.ext bV_8 hb9 (Blk.lt bV_8))
  clear bV_8
  obtain ⟨⟨qV_9_0, qV_9_1, qV_9_2⟩, -⟩ := id bV_9.all3
  have bw_9 := (Blk.ext bw_8 hb9 (Blk.lt bw_8))
  clear bw_8
  obtain ⟨⟨qw_9_0, qw_9_1, qw_9_2⟩, -⟩ := id bw_9.all3
  have bxV_9 := (Blk.ext bxV_8 hb9 (Blk.lt bxV_8))
  clear bxV_8
  obtain ⟨⟨qxV_9_0, qxV_9_1, qxV_9_2⟩, -⟩ := id bxV_9.all3
  have sggrs := hogrs.seg
  have sggrt := hogrt.seg
  obtain ⟨Ags, cgs, egs⟩ := hogrs.form
  obtain ⟨Agt, cgt, egt⟩ := hogrt.form
  subst egs egt
  have bg_10 := Blk.new w9 28 #[.int .i64 (spreadL V X).base, .slice Ags (spreadL V X).shape.length cgs, .slice Agt (spreadL V X).strides.length cgt]
  have hb10 := below_alloc w9 (.cells #[.int .i64 (spreadL V X).base, .slice Ags (spreadL V X).shape.length cgs, .slice Agt (spreadL V X).strides.length cgt] 28)
  obtain ⟨mV_9_0, mV_9_1, mV_9_2⟩ := (Blk.ext bV_9 (below_alloc w9 (.cells #[.int .i64 (spreadL V X).base, .slice Ags (spreadL V X).shape.length cgs, .slice Agt (spreadL V X).strides.length cgt] 28)) (Blk.lt bV_9)).all3.1
  obtain ⟨mw_9_0, mw_9_1, mw_9_2⟩ := (Blk.ext bw_9 (below_alloc w9 (.cells #[.int .i64 (spreadL V X).base, .slice Ags (spreadL V X).shape.length cgs, .slice Agt (spreadL V X).strides.length cgt] 28)) (Blk.lt bw_9)).all3.1
  obtain ⟨mxV_9_0, mxV_9_1, mxV_9_2⟩ := (Blk.ext bxV_9 (below_alloc w9 (.cells #[.int .i64 (spreadL V X).base, .slice Ags (spreadL V X).shape.length cgs, .slice Agt (spreadL V X).strides.length cgt] 28)) (Blk.lt bxV_9)).all3.1
  go_wp2_with fail
  generalize w9.alloc (.cells #[.int .i64 (spreadL V X).base, .slice Ags (spreadL V X).shape.length cgs, .slice Agt (spreadL V X).strides.length cgt] 28) = w10 at *
  clear qV_9_0 qV_9_1 qV_9_2 qw_9_0 qw_9_1 qw_9_2 qxV_9_0 qxV_9_1 qxV_9_2 mV_9_0 mV_9_1 mV_9_2 mw_9_0 mw_9_1 mw_9_2 mxV_9_0 mxV_9_1 mxV_9_2
  have z10 : w9.heap.size ≤ w10.heap.size := hb10.size
  have hT10 : Below w0.heap.size w0 w10 := hT9.trans (hb10.mono (by omega))
  have zlg : w9.heap.size < w10.heap.size := bg_10.lt
  have bV_10 := (Blk.ext bV_9 hb10 (Blk.lt bV_9))
  clear bV_9
  obtain ⟨⟨qV_10_0, qV_10_1, qV_10_2⟩, -⟩ := id bV_10.all3
  have bw_10 := (Blk.ext bw_9 hb10 (Blk.lt bw_9))
  clear bw_9
  obtain ⟨⟨qw_10_0, qw_10_1, qw_10_2⟩, -⟩ := id bw_10.all3
  have bxV_10 := (Blk.ext bxV_9 hb10 (Blk.lt bxV_9))
  clear bxV_9
  obtain ⟨⟨qxV_10_0, qxV_10_1, qxV_10_2⟩, -⟩ := id bxV_10.all3
  obtain ⟨⟨qg_10_0, qg_10_1, qg_10_2⟩, -⟩ := id bg_10.all3
  go_wp2_with fail
  refine (eqView_yes _ _ (spreadL V X) _ (Own.view (hogrs.ext hb10) (hogrt.ext hb10)) (Own.view ((((((howrs.ext hb5).ext hb6).ext hb7).ext hb8).ext hb9).ext hb10) ((((((howrt.ext hb5).ext hb6).ext hb7).ext hb8).ext hb9).ext hb10))).mono ?_; rintro e w11 ⟨rfl, hb11⟩
  clear qV_10_0 qV_10_1 qV_10_2 qw_10_0 qw_10_1 qw_10_2 qxV_10_0 qxV_10_1 qxV_10_2 qg_10_0 qg_10_1 qg_10_2
  have z11 : w10.heap.size ≤ w11.heap.size := hb11.size
  have hT11 : Below w0.heap.size w0 w11 := hT10.trans (hb11.mono (by omega))
  have bV_11 := (Blk.ext bV_10 hb11 (Blk.lt bV_10))
  clear bV_10
  obtain ⟨⟨qV_11_0, qV_11_1, qV_11_2⟩, -⟩ := id bV_11.all3
  have bw_11 := (Blk.ext bw_10 hb11 (Blk.lt bw_10))
  clear bw_10
  obtain ⟨⟨qw_11_0, qw_11_1, qw_11_2⟩, -⟩ := id bw_11.all3
  have bxV_11 := (Blk.ext bxV_10 hb11 (Blk.lt bxV_10))
  clear bxV_10
  obtain ⟨⟨qxV_11_0, qxV_11_1, qxV_11_2⟩, -⟩ := id bxV_11.all3
  have bg_11 := (Blk.ext bg_10 hb11 (Blk.lt bg_10))
  clear bg_10
  obtain ⟨⟨qg_11_0, qg_11_1, qg_11_2⟩, -⟩ := id bg_11.all3
  go_wp2_with fail
  have hTd : Below w0.heap.size w0 w11.drew := hT11.drew
  have hoys := ((((((hoxVs.ext hb7).ext hb8).ext hb9).ext hb10).ext hb11).ext (below_drew w11))
  have hoyt := ((((((hoxVt.ext hb7).ext hb8).ext hb9).ext hb10).ext hb11).ext (below_drew w11))
  go_region_held3 (fun w' => w'.cell? ⟨w6.heap.size, 0, none⟩ = some (.int .i64 V.base) ∧ w'.cell? ⟨w6.heap.size, 1, none⟩ = some (.slice AxVs V.shape.length cxVs) ∧ w'.cell? ⟨w6.heap.size, 2, none⟩ = some (.slice AxVt V.strides.length cxVt) ∧ w'.cell? ⟨w.heap.size, 0, none⟩ = some (.int .i64 V.base) ∧ w'.cell? ⟨w.heap.size, 1, none⟩ = some (sV) ∧ w'.cell? ⟨w.heap.size, 2, none⟩ = some (tV))
    (first | go_keep | exact hK13 | exact hK14)
    (first
      | (go_at_call 17; refine (toView_any _ V _ (hv1V.ext hTd) hsz1V hsz2V).mono ?_; rintro e w13 ⟨ys, yt, rfl, hozs, hozt, -, hb13⟩; have hK13 : w13.cell? ⟨w6.heap.size, 0, none⟩ = some (.int .i64 V.base) ∧ w13.cell? ⟨w6.heap.size, 1, none⟩ = some (.slice AxVs V.shape.length cxVs) ∧ w13.cell? ⟨w6.heap.size, 2, none⟩ = some (.slice AxVt V.strides.length cxVt) ∧ w13.cell? ⟨w.heap.size, 0, none⟩ = some (.int .i64 V.base) ∧ w13.cell? ⟨w.heap.size, 1, none⟩ = some (sV) ∧ w13.cell? ⟨w.heap.size, 2, none⟩ = some (tV) := ⟨Blk.cell (Blk.ext (Blk.ext bxV_11 (below_drew w11) (Blk.lt bxV_11)) hb13 (Blk.lt (Blk.ext bxV_11 (below_drew w11) (Blk.lt bxV_11)))) 0, Blk.cell (Blk.ext (Blk.ext bxV_11 (below_drew w11) (Blk.lt bxV_11)) hb13 (Blk.lt (Blk.ext bxV_11 (below_drew w11) (Blk.lt bxV_11)))) 1, Blk.cell (Blk.ext (Blk.ext bxV_11 (below_drew w11) (Blk.lt bxV_11)) hb13 (Blk.lt (Blk.ext bxV_11 (below_drew w11) (Blk.lt bxV_11)))) 2, Blk.cell (Blk.ext (Blk.ext bV_11 (below_drew w11) (Blk.lt bV_11)) hb13 (Blk.lt (Blk.ext bV_11 (below_drew w11) (Blk.lt bV_11)))) 0, Blk.cell (Blk.ext (Blk.ext bV_11 (below_drew w11) (Blk.lt bV_11)) hb13 (Blk.lt (Blk.ext bV_11 (below_drew w11) (Blk.lt bV_11)))) 1, Blk.cell (Blk.ext (Blk.ext bV_11 (below_drew w11) (Blk.lt bV_11)) hb13 (Blk.lt (Blk.ext bV_11 (below_drew w11) (Blk.lt bV_11)))) 2⟩)
      | (go_at_call 20; refine (eqView_yes _ _ V _ (Own.view (hoys.ext hb13) (hoyt.ext hb13)) (Own.view hozs hozt)).mono ?_; rintro e w14 ⟨rfl, hb14⟩; have hK14 : w14.cell? ⟨w6.heap.size, 0, none⟩ = some (.int .i64 V.base) ∧ w14.cell? ⟨w6.heap.size, 1, none⟩ = some (.slice AxVs V.shape.length cxVs) ∧ w14.cell? ⟨w6.heap.size, 2, none⟩ = some (.slice AxVt V.strides.length cxVt) ∧ w14.cell? ⟨w.heap.size, 0, none⟩ = some (.int .i64 V.base) ∧ w14.cell? ⟨w.heap.size, 1, none⟩ = some (sV) ∧ w14.cell? ⟨w.heap.size, 2, none⟩ = some (tV) := ⟨Blk.cell (Blk.ext (Blk.ext (Blk.ext bxV_11 (below_drew w11) (Blk.lt bxV_11)) hb13 (Blk.lt (Blk.ext bxV_11 (below_drew w11) (Blk.lt bxV_11)))) hb14 (Blk.lt (Blk.ext (Blk.ext bxV_11 (below_drew w11) (Blk.lt bxV_11)) hb13 (Blk.lt (Blk.ext bxV_11 (below_drew w11) (Blk.lt bxV_11)))))) 0, Blk.cell (Blk.ext (Blk.ext (Blk.ext bxV_11 (below_drew w11) (Blk.lt bxV_11)) hb13 (Blk.lt (Blk.ext bxV_11 (below_drew w11) (Blk.lt bxV_11)))) hb14 (Blk.lt (Blk.ext (Blk.ext bxV_11 (below_drew w11) (Blk.lt bxV_11)) hb13 (Blk.lt (Blk.ext bxV_11 (below_drew w11) (Blk.lt bxV_11)))))) 1, Blk.cell (Blk.ext (Blk.ext (Blk.ext bxV_11 (below_drew w11) (Blk.lt bxV_11)) hb13 (Blk.lt (Blk.ext bxV_11 (below_drew w11) (Blk.lt bxV_11)))) hb14 (Blk.lt (Blk.ext (Blk.ext bxV_11 (below_drew w11) (Blk.lt bxV_11)) hb13 (Blk.lt (Blk.ext bxV_11 (below_drew w11) (Blk.lt bxV_11)))))) 2, Blk.cell (Blk.ext (Blk.ext (Blk.ext bV_11 (below_drew w11) (Blk.lt bV_11)) hb13 (Blk.lt (Blk.ext bV_11 (below_drew w11) (Blk.lt bV_11)))) hb14 (Blk.lt (Blk.ext (Blk.ext bV_11 (below_drew w11) (Blk.lt bV_11)) hb13 (Blk.lt (Blk.ext bV_11 (below_drew w11) (Blk.lt bV_11)))))) 0, Blk.cell (Blk.ext (Blk.ext (Blk.ext bV_11 (below_drew w11) (Blk.lt bV_11)) hb13 (Blk.lt (Blk.ext bV_11 (below_drew w11) (Blk.lt bV_11)))) hb14 (Blk.lt (Blk.ext (Blk.ext bV_11 (below_drew w11) (Blk.lt bV_11)) hb13 (Blk.lt (Blk.ext bV_11 (below_drew w11) (Blk.lt bV_11)))))) 1, Blk.cell (Blk.ext (Blk.ext (Blk.ext bV_11 (below_drew w11) (Blk.lt bV_11)) hb13 (Blk.lt (Blk.ext bV_11 (below_drew w11) (Blk.lt bV_11)))) hb14 (Blk.lt (Blk.ext (Blk.ext bV_11 (below_drew w11) (Blk.lt bV_11)) hb13 (Blk.lt (Blk.ext bV_11 (below_drew w11) (Blk.lt bV_11)))))) 2⟩))
  clear qV_11_0 qV_11_1 qV_11_2 qw_11_0 qw_11_1 qw_11_2 qxV_11_0 qxV_11_1 qxV_11_2 qg_11_0 qg_11_1 qg_11_2
  clear hK13 hK14 hoys hozs hoyt hozt
  have z12 : w11.heap.size ≤ w11.drew.heap.size := Nat.le_refl _
  have hT12 := hTd
  have z13 : w11.drew.heap.size ≤ w13.heap.size := hb13.size
  have hT13 : Below w0.heap.size w0 w13 := hT12.trans (hb13.mono (by omega))
  have z14 : w13.heap.size ≤ w14.heap.size := hb14.size
  have hT14 : Below w0.heap.size w0 w14 := hT13.trans (hb14.mono (by omega))
  clear hTd
  have bV_14 := (Blk.ext (Blk.ext (Blk.ext bV_11 (below_drew w11) (Blk.lt bV_11)) hb13 (Blk.lt (Blk.ext bV_11 (below_drew w11) (Blk.lt bV_11)))) hb14 (Blk.lt (Blk.ext (Blk.ext bV_11 (below_drew w11) (Blk.lt bV_11)) hb13 (Blk.lt (Blk.ext bV_11 (below_drew w11) (Blk.lt bV_11))))))
  clear bV_11
  obtain ⟨⟨qV_14_0, qV_14_1, qV_14_2⟩, -⟩ := id bV_14.all3
  have bw_14 := (Blk.ext (Blk.ext (Blk.ext bw_11 (below_drew w11) (Blk.lt bw_11)) hb13 (Blk.lt (Blk.ext bw_11 (below_drew w11) (Blk.lt bw_11)))) hb14 (Blk.lt (Blk.ext (Blk.ext bw_11 (below_drew w11) (Blk.lt bw_11)) hb13 (Blk.lt (Blk.ext bw_11 (below_drew w11) (Blk.lt bw_11))))))
  clear bw_11
  obtain ⟨⟨qw_14_0, qw_14_1, qw_14_2⟩, -⟩ := id bw_14.all3
  have bxV_14 := (Blk.ext (Blk.ext (Blk.ext bxV_11 (below_drew w11) (Blk.lt bxV_11)) hb13 (Blk.lt (Blk.ext bxV_11 (below_drew w11) (Blk.lt bxV_11)))) hb14 (Blk.lt (Blk.ext (Blk.ext bxV_11 (below_drew w11) (Blk.lt bxV_11)) hb13 (Blk.lt (Blk.ext bxV_11 (below_drew w11) (Blk.lt bxV_11))))))
  clear bxV_11
  obtain ⟨⟨qxV_14_0, qxV_14_1, qxV_14_2⟩, -⟩ := id bxV_14.all3
  have bg_14 := (Blk.ext (Blk.ext (Blk.ext bg_11 (below_drew w11) (Blk.lt bg_11)) hb13 (Blk.lt (Blk.ext bg_11 (below_drew w11) (Blk.lt bg_11)))) hb14 (Blk.lt (Blk.ext (Blk.ext bg_11 (below_drew w11) (Blk.lt bg_11)) hb13 (Blk.lt (Blk.ext bg_11 (below_drew w11) (Blk.lt bg_11))))))
  clear bg_11
  obtain ⟨⟨qg_14_0, qg_14_1, qg_14_2⟩, -⟩ := id bg_14.all3
  go_wp2_with fail
  refine (toIntS_any _ X _ (hv1X.ext hT14) hlX).mono ?_; rintro e w15 ⟨yy, rfl, hoyy, hb15⟩
  clear qV_14_0 qV_14_1 qV_14_2 qw_14_0 qw_14_1 qw_14_2 qxV_14_0 qxV_14_1 qxV_14_2 qg_14_0 qg_14_1 qg_14_2
  have z15 : w14.heap.size ≤ w15.heap.size := hb15.size
  have hT15 : Below w0.heap.size w0 w15 := hT14.trans (hb15.mono (by omega))
  have bV_15 := (Blk.ext bV_14 hb15 (Blk.lt bV_14))
  clear bV_14
  obtain ⟨⟨qV_15_0, qV_15_1, qV_15_2⟩, -⟩ := id bV_15.all3
  have bw_15 := (Blk.ext bw_14 hb15 (Blk.lt bw_14))
  clear bw_14
  obtain ⟨⟨qw_15_0, qw_15_1, qw_15_2⟩, -⟩ := id bw_15.all3
  have bxV_15 := (Blk.ext bxV_14 hb15 (Blk.lt bxV_14))
  clear bxV_14
  obtain ⟨⟨qxV_15_0, qxV_15_1, qxV_15_2⟩, -⟩ := id bxV_15.all3
  have bg_15 := (Blk.ext bg_14 hb15 (Blk.lt bg_14))
  clear bg_14
  obtain ⟨⟨qg_15_0, qg_15_1, qg_15_2⟩, -⟩ := id bg_15.all3
  go_wp2_with fail
  refine (eqIntS_yes _ _ X _ (Own.ints (((((((hoxX.ext hb9).ext hb10).ext hb11).ext (below_drew w11)).ext hb13).ext hb14).ext hb15)) (Own.ints hoyy)).mono ?_; rintro e w16 ⟨rfl, hb16⟩
  clear qV_15_0 qV_15_1 qV_15_2 qw_15_0 qw_15_1 qw_15_2 qxV_15_0 qxV_15_1 qxV_15_2 qg_15_0 qg_15_1 qg_15_2
  have z16 : w15.heap.size ≤ w16.heap.size := hb16.size
  have hT16 : Below w0.heap.size w0 w16 := hT15.trans (hb16.mono (by omega))
  have bV_16 := (Blk.ext bV_15 hb16 (Blk.lt bV_15))
  clear bV_15
  obtain ⟨⟨qV_16_0, qV_16_1, qV_16_2⟩, -⟩ := id bV_16.all3
  have bw_16 := (Blk.ext bw_15 hb16 (Blk.lt bw_15))
  clear bw_15
  obtain ⟨⟨qw_16_0, qw_16_1, qw_16_2⟩, -⟩ := id bw_16.all3
  have bxV_16 := (Blk.ext bxV_15 hb16 (Blk.lt bxV_15))
  clear bxV_15
  obtain ⟨⟨qxV_16_0, qxV_16_1, qxV_16_2⟩, -⟩ := id bxV_16.all3
  have bg_16 := (Blk.ext bg_15 hb16 (Blk.lt bg_15))
  clear bg_15
  obtain ⟨⟨qg_16_0, qg_16_1, qg_16_2⟩, -⟩ := id bg_16.all3
  clear hoyy
  go_wp2_with fail
  refine (markView_any _ _ _ V.shape V.strides (1) w5.heap.size w5.heap.size w5.heap.size w6.heap.size _ ((((((((((hoxVs.ext hb7).ext hb8).ext hb9).ext hb10).ext hb11).ext (below_drew w11)).ext hb13).ext hb14).ext hb15).ext hb16) ((((((((((hoxVt.ext hb7).ext hb8).ext hb9).ext hb10).ext hb11).ext (below_drew w11)).ext hb13).ext hb14).ext hb15).ext hb16) sepxV sgxVs sgxVt hsz1V hsz2V (by omega)).mono ?_; rintro e w17 ⟨rfl, -, -, hb17⟩
  clear qV_16_0 qV_16_1 qV_16_2 qw_16_0 qw_16_1 qw_16_2 qxV_16_0 qxV_16_1 qxV_16_2 qg_16_0 qg_16_1 qg_16_2
  have z17 : w16.heap.size ≤ w17.heap.size := hb17.size
  have hT17 : Below w0.heap.size w0 w17 := hT16.trans (hb17.below (by omega) (by omega))
  have bV_17 := (Blk.chg bV_16 hb17 (by omega))
  clear bV_16
  obtain ⟨⟨qV_17_0, qV_17_1, qV_17_2⟩, -⟩ := id bV_17.all3
  have bw_17 := (Blk.chg bw_16 hb17 (by omega))
  clear bw_16
  obtain ⟨⟨qw_17_0, qw_17_1, qw_17_2⟩, -⟩ := id bw_17.all3
  have bg_17 := (Blk.chg bg_16 hb17 (by omega))
  clear bg_16
  obtain ⟨⟨qg_17_0, qg_17_1, qg_17_2⟩, -⟩ := id bg_17.all3
  go_wp2_with fail
  refine (markIntS_any _ X (1 + V.shape.length + V.strides.length) _ _ (((((((((hoxX.ext hb9).ext hb10).ext hb11).ext (below_drew w11)).ext hb13).ext hb14).ext hb15).ext hb16).chg hb17 sgxX (by omega)) hlX (by omega)).mono ?_; rintro e w18 ⟨rfl, -, hw18⟩
  have hb18 := Chg.of_grown hw18 sgxX
  clear qV_17_0 qV_17_1 qV_17_2 qw_17_0 qw_17_1 qw_17_2 qg_17_0 qg_17_1 qg_17_2
  have z18 : w17.heap.size ≤ w18.heap.size := hb18.size
  have hT18 : Below w0.heap.size w0 w18 := hT17.trans (hb18.below (by omega) (by omega))
  have bV_18 := (Blk.chg bV_17 hb18 (by omega))
  clear bV_17
  obtain ⟨⟨qV_18_0, qV_18_1, qV_18_2⟩, -⟩ := id bV_18.all3
  have bw_18 := (Blk.chg bw_17 hb18 (by omega))
  clear bw_17
  obtain ⟨⟨qw_18_0, qw_18_1, qw_18_2⟩, -⟩ := id bw_18.all3
  have bg_18 := (Blk.chg bg_17 hb18 (by omega))
  clear bg_17
  obtain ⟨⟨qg_18_0, qg_18_1, qg_18_2⟩, -⟩ := id bg_18.all3
  go_wp2_with fail
  refine (eqView_yes _ _ (spreadL V X) _ (Own.view (((((((((hogrs.ext hb10).ext hb11).ext (below_drew w11)).ext hb13).ext hb14).ext hb15).ext hb16).chg hb17 sggrs (by omega)).chg hb18 sggrs (by omega)) (((((((((hogrt.ext hb10).ext hb11).ext (below_drew w11)).ext hb13).ext hb14).ext hb15).ext hb16).chg hb17 sggrt (by omega)).chg hb18 sggrt (by omega))) (Own.view ((((((((((((((howrs.ext hb5).ext hb6).ext hb7).ext hb8).ext hb9).ext hb10).ext hb11).ext (below_drew w11)).ext hb13).ext hb14).ext hb15).ext hb16).chg hb17 sgwrs (by omega)).chg hb18 sgwrs (by omega)) ((((((((((((((howrt.ext hb5).ext hb6).ext hb7).ext hb8).ext hb9).ext hb10).ext hb11).ext (below_drew w11)).ext hb13).ext hb14).ext hb15).ext hb16).chg hb17 sgwrt (by omega)).chg hb18 sgwrt (by omega)))).mono ?_; rintro e w19 ⟨rfl, hb19⟩
  clear qV_18_0 qV_18_1 qV_18_2 qw_18_0 qw_18_1 qw_18_2 qg_18_0 qg_18_1 qg_18_2
  have z19 : w18.heap.size ≤ w19.heap.size := hb19.size
  have hT19 : Below w0.heap.size w0 w19 := hT18.trans (hb19.mono (by omega))
  have bV_19 := (Blk.ext bV_18 hb19 (Blk.lt bV_18))
  clear bV_18
  obtain ⟨⟨qV_19_0, qV_19_1, qV_19_2⟩, -⟩ := id bV_19.all3
  have bw_19 := (Blk.ext bw_18 hb19 (Blk.lt bw_18))
  clear bw_18
  obtain ⟨⟨qw_19_0, qw_19_1, qw_19_2⟩, -⟩ := id bw_19.all3
  have bg_19 := (Blk.ext bg_18 hb19 (Blk.lt bg_18))
  clear bg_18
  obtain ⟨⟨qg_19_0, qg_19_1, qg_19_2⟩, -⟩ := id bg_19.all3
  have hlr := spreadL_len V X
  have hlr1 : (spreadL V X).shape.length ≤ 1048576 := by omega
  have hlr2 : (spreadL V X).strides.length ≤ 1048576 := by omega
  go_wp2_with fail
  refine (markView_any _ _ _ (spreadL V X).shape (spreadL V X).strides (1) w8.heap.size w8.heap.size w8.heap.size w9.heap.size _ ((((((((((hogrs.ext hb10).ext hb11).ext (below_drew w11)).ext hb13).ext hb14).ext hb15).ext hb16).chg hb17 sggrs (by omega)).chg hb18 sggrs (by omega)).ext hb19) ((((((((((hogrt.ext hb10).ext hb11).ext (below_drew w11)).ext hb13).ext hb14).ext hb15).ext hb16).chg hb17 sggrt (by omega)).chg hb18 sggrt (by omega)).ext hb19) sepg sggrs sggrt hlr1 hlr2 (by omega)).mono ?_; rintro e w20 ⟨rfl, hom1, hom2, hb20⟩
  clear qV_19_0 qV_19_1 qV_19_2 qw_19_0 qw_19_1 qw_19_2 qg_19_0 qg_19_1 qg_19_2
  have z20 : w19.heap.size ≤ w20.heap.size := hb20.size
  have hT20 : Below w0.heap.size w0 w20 := hT19.trans (hb20.below (by omega) (by omega))
  have bV_20 := (Blk.chg bV_19 hb20 (by omega))
  clear bV_19
  obtain ⟨⟨qV_20_0, qV_20_1, qV_20_2⟩, -⟩ := id bV_20.all3
  have bw_20 := (Blk.chg bw_19 hb20 (by omega))
  clear bw_19
  obtain ⟨⟨qw_20_0, qw_20_1, qw_20_2⟩, -⟩ := id bw_20.all3
  have bg_20 := (Blk.chg bg_19 hb20 (by omega))
  clear bg_19
  obtain ⟨⟨qg_20_0, qg_20_1, qg_20_2⟩, -⟩ := id bg_20.all3
  go_wp2_with fail
  refine (heldView_any _ _ _ (spreadL V X).shape.length (spreadL V X).strides.length (1) _ (Own.ints hom1) (Own.ints hom2) hlr1 hlr2 (by omega)).mono ?_; rintro e w21 ⟨rfl, hb21⟩
  clear qV_20_0 qV_20_1 qV_20_2 qw_20_0 qw_20_1 qw_20_2 qg_20_0 qg_20_1 qg_20_2
  have z21 : w20.heap.size ≤ w21.heap.size := hb21.size
  have hT21 : Below w0.heap.size w0 w21 := hT20.trans (hb21.mono (by omega))
  have bV_21 := (Blk.ext bV_20 hb21 (Blk.lt bV_20))
  clear bV_20
  obtain ⟨⟨qV_21_0, qV_21_1, qV_21_2⟩, -⟩ := id bV_21.all3
  have bw_21 := (Blk.ext bw_20 hb21 (Blk.lt bw_20))
  clear bw_20
  obtain ⟨⟨qw_21_0, qw_21_1, qw_21_2⟩, -⟩ := id bw_21.all3
  have bg_21 := (Blk.ext bg_20 hb21 (Blk.lt bg_20))
  clear bg_20
  obtain ⟨⟨qg_21_0, qg_21_1, qg_21_2⟩, -⟩ := id bg_21.all3
  go_wp2_with fail
  refine (toView_any _ V _ (hv1V.ext hT21) hsz1V hsz2V).mono ?_; rintro e w22 ⟨xhVs, xhVt, rfl, hohVs, hohVt, sephV, hb22⟩
  clear qV_21_0 qV_21_1 qV_21_2 qw_21_0 qw_21_1 qw_21_2 qg_21_0 qg_21_1 qg_21_2
  have z22 : w21.heap.size ≤ w22.heap.size := hb22.size
  have hT22 : Below w0.heap.size w0 w22 := hT21.trans (hb22.mono (by omega))
  have bV_22 := (Blk.ext bV_21 hb22 (Blk.lt bV_21))
  clear bV_21
  obtain ⟨⟨qV_22_0, qV_22_1, qV_22_2⟩, -⟩ := id bV_22.all3
  have bw_22 := (Blk.ext bw_21 hb22 (Blk.lt bw_21))
  clear bw_21
  obtain ⟨⟨qw_22_0, qw_22_1, qw_22_2⟩, -⟩ := id bw_22.all3
  have bg_22 := (Blk.ext bg_21 hb22 (Blk.lt bg_21))
  clear bg_21
  obtain ⟨⟨qg_22_0, qg_22_1, qg_22_2⟩, -⟩ := id bg_22.all3
  go_wp2_with fail
  refine (toIntS_any _ X _ (hv1X.ext hT22) hlX).mono ?_; rintro e w23 ⟨xhX, rfl, hohX, hb23⟩
  clear qV_22_0 qV_22_1 qV_22_2 qw_22_0 qw_22_1 qw_22_2 qg_22_0 qg_22_1 qg_22_2
  have z23 : w22.heap.size ≤ w23.heap.size := hb23.size
  have hT23 : Below w0.heap.size w0 w23 := hT22.trans (hb23.mono (by omega))
  have bV_23 := (Blk.ext bV_22 hb23 (Blk.lt bV_22))
  clear bV_22
  obtain ⟨⟨qV_23_0, qV_23_1, qV_23_2⟩, -⟩ := id bV_23.all3
  have bw_23 := (Blk.ext bw_22 hb23 (Blk.lt bw_22))
  clear bw_22
  obtain ⟨⟨qw_23_0, qw_23_1, qw_23_2⟩, -⟩ := id bw_23.all3
  have bg_23 := (Blk.ext bg_22 hb23 (Blk.lt bg_22))
  clear bg_22
  obtain ⟨⟨qg_23_0, qg_23_1, qg_23_2⟩, -⟩ := id bg_23.all3
  go_wp2_with fail
  refine (SpreadTo_any _ _ V X _ (Own.view (hohVs.ext hb23) (hohVt.ext hb23)) (Own.ints hohX)).mono ?_; rintro e w24 ⟨rhs, rht, rfl, hohrs, hohrt, seph, hb24⟩
  clear qV_23_0 qV_23_1 qV_23_2 qw_23_0 qw_23_1 qw_23_2 qg_23_0 qg_23_1 qg_23_2
  have z24 : w23.heap.size ≤ w24.heap.size := hb24.size
  have hT24 : Below w0.heap.size w0 w24 := hT23.trans (hb24.mono (by omega))
  have bV_24 := (Blk.ext bV_23 hb24 (Blk.lt bV_23))
  clear bV_23
  obtain ⟨⟨qV_24_0, qV_24_1, qV_24_2⟩, -⟩ := id bV_24.all3
  have bw_24 := (Blk.ext bw_23 hb24 (Blk.lt bw_23))
  clear bw_23
  obtain ⟨⟨qw_24_0, qw_24_1, qw_24_2⟩, -⟩ := id bw_24.all3
  have bg_24 := (Blk.ext bg_23 hb24 (Blk.lt bg_23))
  clear bg_23
  obtain ⟨⟨qg_24_0, qg_24_1, qg_24_2⟩, -⟩ := id bg_24.all3
  have sghrs := hohrs.seg
  have sghrt := hohrt.seg
  obtain ⟨Ahs, chs, ehs⟩ := hohrs.form
  obtain ⟨Aht, cht, eht⟩ := hohrt.form
  subst ehs eht
  have bh_25 := Blk.new w24 28 #[.int .i64 (spreadL V X).base, .slice Ahs (spreadL V X).shape.length chs, .slice Aht (spreadL V X).strides.length cht]
  have hb25 := below_alloc w24 (.cells #[.int .i64 (spreadL V X).base, .slice Ahs (spreadL V X).shape.length chs, .slice Aht (spreadL V X).strides.length cht] 28)
  obtain ⟨mV_24_0, mV_24_1, mV_24_2⟩ := (Blk.ext bV_24 (below_alloc w24 (.cells #[.int .i64 (spreadL V X).base, .slice Ahs (spreadL V X).shape.length chs, .slice Aht (spreadL V X).strides.length cht] 28)) (Blk.lt bV_24)).all3.1
  obtain ⟨mw_24_0, mw_24_1, mw_24_2⟩ := (Blk.ext bw_24 (below_alloc w24 (.cells #[.int .i64 (spreadL V X).base, .slice Ahs (spreadL V X).shape.length chs, .slice Aht (spreadL V X).strides.length cht] 28)) (Blk.lt bw_24)).all3.1
  obtain ⟨mg_24_0, mg_24_1, mg_24_2⟩ := (Blk.ext bg_24 (below_alloc w24 (.cells #[.int .i64 (spreadL V X).base, .slice Ahs (spreadL V X).shape.length chs, .slice Aht (spreadL V X).strides.length cht] 28)) (Blk.lt bg_24)).all3.1
  go_wp2_with fail
  generalize w24.alloc (.cells #[.int .i64 (spreadL V X).base, .slice Ahs (spreadL V X).shape.length chs, .slice Aht (spreadL V X).strides.length cht] 28) = w25 at *
  clear qV_24_0 qV_24_1 qV_24_2 qw_24_0 qw_24_1 qw_24_2 qg_24_0 qg_24_1 qg_24_2 mV_24_0 mV_24_1 mV_24_2 mw_24_0 mw_24_1 mw_24_2 mg_24_0 mg_24_1 mg_24_2
  have z25 : w24.heap.size ≤ w25.heap.size := hb25.size
  have hT25 : Below w0.heap.size w0 w25 := hT24.trans (hb25.mono (by omega))
  have zlh : w24.heap.size < w25.heap.size := bh_25.lt
  have bV_25 := (Blk.ext bV_24 hb25 (Blk.lt bV_24))
  clear bV_24
  obtain ⟨⟨qV_25_0, qV_25_1, qV_25_2⟩, -⟩ := id bV_25.all3
  have bw_25 := (Blk.ext bw_24 hb25 (Blk.lt bw_24))
  clear bw_24
  obtain ⟨⟨qw_25_0, qw_25_1, qw_25_2⟩, -⟩ := id bw_25.all3
  have bg_25 := (Blk.ext bg_24 hb25 (Blk.lt bg_24))
  clear bg_24
  obtain ⟨⟨qg_25_0, qg_25_1, qg_25_2⟩, -⟩ := id bg_25.all3
  obtain ⟨⟨qh_25_0, qh_25_1, qh_25_2⟩, -⟩ := id bh_25.all3
  go_wp2_with fail
  refine (eqView_yes _ _ (spreadL V X) _ (Own.view (hohrs.ext hb25) (hohrt.ext hb25)) (Own.view (((((((((((((((((((((howrs.ext hb5).ext hb6).ext hb7).ext hb8).ext hb9).ext hb10).ext hb11).ext (below_drew w11)).ext hb13).ext hb14).ext hb15).ext hb16).chg hb17 sgwrs (by omega)).chg hb18 sgwrs (by omega)).ext hb19).chg hb20 sgwrs (by omega)).ext hb21).ext hb22).ext hb23).ext hb24).ext hb25) (((((((((((((((((((((howrt.ext hb5).ext hb6).ext hb7).ext hb8).ext hb9).ext hb10).ext hb11).ext (below_drew w11)).ext hb13).ext hb14).ext hb15).ext hb16).chg hb17 sgwrt (by omega)).chg hb18 sgwrt (by omega)).ext hb19).chg hb20 sgwrt (by omega)).ext hb21).ext hb22).ext hb23).ext hb24).ext hb25))).mono ?_; rintro e w26 ⟨rfl, hb26⟩
  clear qV_25_0 qV_25_1 qV_25_2 qw_25_0 qw_25_1 qw_25_2 qg_25_0 qg_25_1 qg_25_2 qh_25_0 qh_25_1 qh_25_2
  have z26 : w25.heap.size ≤ w26.heap.size := hb26.size
  have hT26 : Below w0.heap.size w0 w26 := hT25.trans (hb26.mono (by omega))
  have bV_26 := (Blk.ext bV_25 hb26 (Blk.lt bV_25))
  clear bV_25
  obtain ⟨⟨qV_26_0, qV_26_1, qV_26_2⟩, -⟩ := id bV_26.all3
  have bw_26 := (Blk.ext bw_25 hb26 (Blk.lt bw_25))
  clear bw_25
  obtain ⟨⟨qw_26_0, qw_26_1, qw_26_2⟩, -⟩ := id bw_26.all3
  have bg_26 := (Blk.ext bg_25 hb26 (Blk.lt bg_25))
  clear bg_25
  obtain ⟨⟨qg_26_0, qg_26_1, qg_26_2⟩, -⟩ := id bg_26.all3
  have bh_26 := (Blk.ext bh_25 hb26 (Blk.lt bh_25))
  clear bh_25
  obtain ⟨⟨qh_26_0, qh_26_1, qh_26_2⟩, -⟩ := id bh_26.all3
  go_wp2_with fail
  refine (heldView_any _ _ _ (spreadL V X).shape.length (spreadL V X).strides.length (1) _ (Own.ints ((((((hom1.ext hb21).ext hb22).ext hb23).ext hb24).ext hb25).ext hb26)) (Own.ints ((((((hom2.ext hb21).ext hb22).ext hb23).ext hb24).ext hb25).ext hb26)) hlr1 hlr2 (by omega)).mono ?_; rintro e w27 ⟨rfl, hb27⟩
  clear qV_26_0 qV_26_1 qV_26_2 qw_26_0 qw_26_1 qw_26_2 qg_26_0 qg_26_1 qg_26_2 qh_26_0 qh_26_1 qh_26_2
  have z27 : w26.heap.size ≤ w27.heap.size := hb27.size
  have hT27 : Below w0.heap.size w0 w27 := hT26.trans (hb27.mono (by omega))
  have bV_27 := (Blk.ext bV_26 hb27 (Blk.lt bV_26))
  clear bV_26
  obtain ⟨⟨qV_27_0, qV_27_1, qV_27_2⟩, -⟩ := id bV_27.all3
  have bw_27 := (Blk.ext bw_26 hb27 (Blk.lt bw_26))
  clear bw_26
  obtain ⟨⟨qw_27_0, qw_27_1, qw_27_2⟩, -⟩ := id bw_27.all3
  have bg_27 := (Blk.ext bg_26 hb27 (Blk.lt bg_26))
  clear bg_26
  obtain ⟨⟨qg_27_0, qg_27_1, qg_27_2⟩, -⟩ := id bg_27.all3
  have bh_27 := (Blk.ext bh_26 hb27 (Blk.lt bh_26))
  clear bh_26
  obtain ⟨⟨qh_27_0, qh_27_1, qh_27_2⟩, -⟩ := id bh_27.all3
  go_wp2
  go_ret
  exact ⟨rfl, hW.trans (hT27.mono hW.size)⟩

end Go.Proofs.Ytbcmhjhiofpnlaa
