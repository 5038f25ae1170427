/- The walks of exact laws: each answers true at every input and changes nothing that was there. No conditions. (printed by genlaw2.py) -/
import Derived.Test.YtldblcolnjkcaaaSD5
import Derived.Test.YtldblcolnjkcaaaSD6
import Derived.Test.YtldblcolnjkcaaaL5
import Derived.Deep.RegionHeld3
namespace Go.Proofs.Ytldblcolnjkcaaa
open Go.RowKit

set_option maxRecDepth 100000 in
set_option maxHeartbeats 3200000 in
theorem FnExactSumDim_walk (vT : Value) (T : TL) (D : Int) (w : World) (hvT : TensorV w vT T) (wfD : -9223372036854775808 ≤ D ∧ D ≤ 9223372036854775807) :
    Calls Try.prog 14 #[vT, .int .i64 D] w fun e w' => e = .returned (.bool true) ∧ Below w.heap.size w w' := by
  have hv0T := hvT
  obtain ⟨sT, tT, rfl, -, -⟩ := hvT
  obtain ⟨wfD1, wfD2⟩ := wfD
  have hW : Below w.heap.size w (w.alloc (.cells #[sT, tT] 73)) := Below.alloc (Below.refl w.heap.size w) (by simp <;> omega) (.cells #[sT, tT] 73)
  have bT_0 : Blk (w.alloc (.cells #[sT, tT] 73)) (w.heap.size) 73 #[sT, tT] := (Blk.new w 73 #[sT, tT])
  have hv1T := hv0T.ext hW
  by_cases hsT : 1048576 < T.shape.length + T.values.length
  · have hzT : 1048576 < T.shape.length + T.values.length := by omega
    go_enter Try.func14, Try.ntmps14
    go_wp2_with fail
    generalize (w.alloc (.cells #[sT, tT] 73)) = w0 at *
    have hT0 : Below w0.heap.size w0 w0 := Below.refl _ _
    have zlT : w.heap.size < w0.heap.size := bT_0.lt
    obtain ⟨⟨qT_0_0, qT_0_1⟩, -⟩ := id bT_0.all2
    refine (szTensor_no _ T 1048576 _ (hv1T.ext hT0) hzT (by omega)).mono ?_; rintro e w1 ⟨rfl, hb1⟩
    clear qT_0_0 qT_0_1
    have z1 : w0.heap.size ≤ w1.heap.size := hb1.size
    have hT1 : Below w0.heap.size w0 w1 := hT0.trans (hb1.mono (by omega))
    go_wp2
    go_ret
    exact ⟨rfl, hW.trans (hT1.mono hW.size)⟩
  have hsz1T : T.shape.length ≤ 1048576 := by omega
  have hsz2T : T.values.length ≤ 1048576 := by omega
  go_enter Try.func14, Try.ntmps14
  go_wp2_with fail
  generalize (w.alloc (.cells #[sT, tT] 73)) = w0 at *
  have hT0 : Below w0.heap.size w0 w0 := Below.refl _ _
  have zlT : w.heap.size < w0.heap.size := bT_0.lt
  obtain ⟨⟨qT_0_0, qT_0_1⟩, -⟩ := id bT_0.all2
  refine (szTensor_ok _ T 1048576 _ hv1T (by omega) (by omega)).mono ?_; rintro e w1 ⟨rfl, hb1⟩
  clear qT_0_0 qT_0_1
  have z1 : w0.heap.size ≤ w1.heap.size := hb1.size
  have hT1 : Below w0.heap.size w0 w1 := hT0.trans (hb1.mono (by omega))
  have bT_1 := (Blk.ext bT_0 hb1 (Blk.lt bT_0))
  obtain ⟨⟨qT_1_0, qT_1_1⟩, -⟩ := id bT_1.all2
  go_wp2_with fail
  refine (toTensor_any _ T _ (hv1T.ext hT1) hsz1T hsz2T).mono ?_; rintro e w2 ⟨xwTs, xwTt, rfl, howTs, howTt, sepwT, hb2⟩
  clear qT_1_0 qT_1_1
  have z2 : w1.heap.size ≤ w2.heap.size := hb2.size
  have hT2 : Below w0.heap.size w0 w2 := hT1.trans (hb2.mono (by omega))
  have bT_2 := (Blk.ext bT_1 hb2 (Blk.lt bT_1))
  clear bT_1
  obtain ⟨⟨qT_2_0, qT_2_1⟩, -⟩ := id bT_2.all2
  go_wp2_with fail
  refine (sSumDim_any _ T D _ (Own.tensor howTs howTt) ⟨wfD1, wfD2⟩).mono ?_; rintro e w3 ⟨rws, rwt, rfl, howrs, howrt, sepw, hb3⟩
  clear qT_2_0 qT_2_1
  have z3 : w2.heap.size ≤ w3.heap.size := hb3.size
  have hT3 : Below w0.heap.size w0 w3 := hT2.trans (hb3.mono (by omega))
  have bT_3 := (Blk.ext bT_2 hb3 (Blk.lt bT_2))
  clear bT_2
  obtain ⟨⟨qT_3_0, qT_3_1⟩, -⟩ := id bT_3.all2
  have sgwrs := howrs.seg
  have sgwrt := howrt.seg
  obtain ⟨Aws, cws, ews⟩ := howrs.form
  obtain ⟨Awt, cwt, ewt⟩ := howrt.form
  subst ews ewt
  have bw_4 := Blk.new w3 75 #[.slice Aws (sumDL T D).shape.length cws, .slice Awt (sumDL T D).values.length cwt]
  have hb4 := below_alloc w3 (.cells #[.slice Aws (sumDL T D).shape.length cws, .slice Awt (sumDL T D).values.length cwt] 75)
  obtain ⟨mT_3_0, mT_3_1⟩ := (Blk.ext bT_3 (below_alloc w3 (.cells #[.slice Aws (sumDL T D).shape.length cws, .slice Awt (sumDL T D).values.length cwt] 75)) (Blk.lt bT_3)).all2.1
  go_wp2_with fail
  generalize w3.alloc (.cells #[.slice Aws (sumDL T D).shape.length cws, .slice Awt (sumDL T D).values.length cwt] 75) = w4 at *
  clear qT_3_0 qT_3_1 mT_3_0 mT_3_1
  have z4 : w3.heap.size ≤ w4.heap.size := hb4.size
  have hT4 : Below w0.heap.size w0 w4 := hT3.trans (hb4.mono (by omega))
  have zlw : w3.heap.size < w4.heap.size := bw_4.lt
  have bT_4 := (Blk.ext bT_3 hb4 (Blk.lt bT_3))
  clear bT_3
  obtain ⟨⟨qT_4_0, qT_4_1⟩, -⟩ := id bT_4.all2
  obtain ⟨⟨qw_4_0, qw_4_1⟩, -⟩ := id bw_4.all2
  go_wp2_with fail
  refine (toTensor_any _ T _ (hv1T.ext hT4) hsz1T hsz2T).mono ?_; rintro e w5 ⟨xxTs, xxTt, rfl, hoxTs, hoxTt, sepxT, hb5⟩
  clear qT_4_0 qT_4_1 qw_4_0 qw_4_1
  have z5 : w4.heap.size ≤ w5.heap.size := hb5.size
  have hT5 : Below w0.heap.size w0 w5 := hT4.trans (hb5.mono (by omega))
  have bT_5 := (Blk.ext bT_4 hb5 (Blk.lt bT_4))
  clear bT_4
  obtain ⟨⟨qT_5_0, qT_5_1⟩, -⟩ := id bT_5.all2
  have bw_5 := (Blk.ext bw_4 hb5 (Blk.lt bw_4))
  clear bw_4
  obtain ⟨⟨qw_5_0, qw_5_1⟩, -⟩ := id bw_5.all2
  have sgxTs := hoxTs.seg
  have sgxTt := hoxTt.seg
  obtain ⟨AxTs, cxTs, exTs⟩ := hoxTs.form
  obtain ⟨AxTt, cxTt, exTt⟩ := hoxTt.form
  subst exTs exTt
  have bxT_6 := Blk.new w5 75 #[.slice AxTs T.shape.length cxTs, .slice AxTt T.values.length cxTt]
  have hb6 := below_alloc w5 (.cells #[.slice AxTs T.shape.length cxTs, .slice AxTt T.values.length cxTt] 75)
  obtain ⟨mT_5_0, mT_5_1⟩ := (Blk.ext bT_5 (below_alloc w5 (.cells #[.slice AxTs T.shape.length cxTs, .slice AxTt T.values.length cxTt] 75)) (Blk.lt bT_5)).all2.1
  obtain ⟨mw_5_0, mw_5_1⟩ := (Blk.ext bw_5 (below_alloc w5 (.cells #[.slice AxTs T.shape.length cxTs, .slice AxTt T.values.length cxTt] 75)) (Blk.lt bw_5)).all2.1
  go_wp2_with fail
  generalize w5.alloc (.cells #[.slice AxTs T.shape.length cxTs, .slice AxTt T.values.length cxTt] 75) = w6 at *
  clear qT_5_0 qT_5_1 qw_5_0 qw_5_1 mT_5_0 mT_5_1 mw_5_0 mw_5_1
  have z6 : w5.heap.size ≤ w6.heap.size := hb6.size
  have hT6 : Below w0.heap.size w0 w6 := hT5.trans (hb6.mono (by omega))
  have zlxT : w5.heap.size < w6.heap.size := bxT_6.lt
  have bT_6 := (Blk.ext bT_5 hb6 (Blk.lt bT_5))
  clear bT_5
  obtain ⟨⟨qT_6_0, qT_6_1⟩, -⟩ := id bT_6.all2
  have bw_6 := (Blk.ext bw_5 hb6 (Blk.lt bw_5))
  clear bw_5
  obtain ⟨⟨qw_6_0, qw_6_1⟩, -⟩ := id bw_6.all2
  obtain ⟨⟨qxT_6_0, qxT_6_1⟩, -⟩ := id bxT_6.all2
  go_wp2_with fail
  refine (SumDim_any _ T D _ (Own.tensor (hoxTs.ext hb6) (hoxTt.ext hb6)) ⟨wfD1, wfD2⟩).mono ?_; rintro e w7 ⟨rgs, rgt, rfl, hogrs, hogrt, sepg, hb7⟩
  clear qT_6_0 qT_6_1 qw_6_0 qw_6_1 qxT_6_0 qxT_6_1
  have z7 : w6.heap.size ≤ w7.heap.size := hb7.size
  have hT7 : Below w0.heap.size w0 w7 := hT6.trans (hb7.mono (by omega))
  have bT_7 := (Blk.ext bT_6 hb7 (Blk.lt bT_6))
  clear bT_6
  obtain ⟨⟨qT_7_0, qT_7_1⟩, -⟩ := id bT_7.all2
  have bw_7 := (Blk.ext bw_6 hb7 (Blk.lt bw_6))
  clear bw_6
  obtain ⟨⟨qw_7_0, qw_7_1⟩, -⟩ := id bw_7.all2
  have bxT_7 := (Blk.ext bxT_6 hb7 (Blk.lt bxT_6))
  clear bxT_6
  obtain ⟨⟨qxT_7_0, qxT_7_1⟩, -⟩ := id bxT_7.all2
  have sggrs := hogrs.seg
  have sggrt := hogrt.seg
  obtain ⟨Ags, cgs, egs⟩ := hogrs.form
  obtain ⟨Agt, cgt, egt⟩ := hogrt.form
  subst egs egt
  have bg_8 := Blk.new w7 75 #[.slice Ags (sumDL T D).shape.length cgs, .slice Agt (sumDL T D).values.length cgt]
  have hb8 := below_alloc w7 (.cells #[.slice Ags (sumDL T D).shape.length cgs, .slice Agt (sumDL T D).values.length cgt] 75)
  obtain ⟨mT_7_0, mT_7_1⟩ := (Blk.ext bT_7 (below_alloc w7 (.cells #[.slice Ags (sumDL T D).shape.length cgs, .slice Agt (sumDL T D).values.length cgt] 75)) (Blk.lt bT_7)).all2.1
  obtain ⟨mw_7_0, mw_7_1⟩ := (Blk.ext bw_7 (below_alloc w7 (.cells #[.slice Ags (sumDL T D).shape.length cgs, .slice Agt (sumDL T D).values.length cgt] 75)) (Blk.lt bw_7)).all2.1
  obtain ⟨mxT_7_0, mxT_7_1⟩ := (Blk.ext bxT_7 (below_alloc w7 (.cells #[.slice Ags (sumDL T D).shape.length cgs, .slice Agt (sumDL T D).values.length cgt] 75)) (Blk.lt bxT_7)).all2.1
  go_wp2_with fail
  generalize w7.alloc (.cells #[.slice Ags (sumDL T D).shape.length cgs, .slice Agt (sumDL T D).values.length cgt] 75) = w8 at *
  clear qT_7_0 qT_7_1 qw_7_0 qw_7_1 qxT_7_0 qxT_7_1 mT_7_0 mT_7_1 mw_7_0 mw_7_1 mxT_7_0 mxT_7_1
  have z8 : w7.heap.size ≤ w8.heap.size := hb8.size
  have hT8 : Below w0.heap.size w0 w8 := hT7.trans (hb8.mono (by omega))
  have zlg : w7.heap.size < w8.heap.size := bg_8.lt
  have bT_8 := (Blk.ext bT_7 hb8 (Blk.lt bT_7))
  clear bT_7
  obtain ⟨⟨qT_8_0, qT_8_1⟩, -⟩ := id bT_8.all2
  have bw_8 := (Blk.ext bw_7 hb8 (Blk.lt bw_7))
  clear bw_7
  obtain ⟨⟨qw_8_0, qw_8_1⟩, -⟩ := id bw_8.all2
  have bxT_8 := (Blk.ext bxT_7 hb8 (Blk.lt bxT_7))
  clear bxT_7
  obtain ⟨⟨qxT_8_0, qxT_8_1⟩, -⟩ := id bxT_8.all2
  obtain ⟨⟨qg_8_0, qg_8_1⟩, -⟩ := id bg_8.all2
  go_wp2_with fail
  refine (eqTensor_yes _ _ (sumDL T D) _ (Own.tensor (hogrs.ext hb8) (hogrt.ext hb8)) (Own.tensor (((((howrs.ext hb4).ext hb5).ext hb6).ext hb7).ext hb8) (((((howrt.ext hb4).ext hb5).ext hb6).ext hb7).ext hb8))).mono ?_; rintro e w9 ⟨rfl, hb9⟩
  clear qT_8_0 qT_8_1 qw_8_0 qw_8_1 qxT_8_0 qxT_8_1 qg_8_0 qg_8_1
  have z9 : w8.heap.size ≤ w9.heap.size := hb9.size
  have hT9 : Below w0.heap.size w0 w9 := hT8.trans (hb9.mono (by omega))
  have bT_9 := (Blk.ext bT_8 hb9 (Blk.lt bT_8))
  clear bT_8
  obtain ⟨⟨qT_9_0, qT_9_1⟩, -⟩ := id bT_9.all2
  have bw_9 := (Blk.ext bw_8 hb9 (Blk.lt bw_8))
  clear bw_8
  obtain ⟨⟨qw_9_0, qw_9_1⟩, -⟩ := id bw_9.all2
  have bxT_9 := (Blk.ext bxT_8 hb9 (Blk.lt bxT_8))
  clear bxT_8
  obtain ⟨⟨qxT_9_0, qxT_9_1⟩, -⟩ := id bxT_9.all2
  have bg_9 := (Blk.ext bg_8 hb9 (Blk.lt bg_8))
  clear bg_8
  obtain ⟨⟨qg_9_0, qg_9_1⟩, -⟩ := id bg_9.all2
  go_wp2_with fail
  have hTd : Below w0.heap.size w0 w9.drew := hT9.drew
  have hoys := (((((hoxTs.ext hb6).ext hb7).ext hb8).ext hb9).ext (below_drew w9))
  have hoyt := (((((hoxTt.ext hb6).ext hb7).ext hb8).ext hb9).ext (below_drew w9))
  go_region_held3 (fun w' => w'.cell? ⟨w5.heap.size, 0, none⟩ = some (.slice AxTs T.shape.length cxTs) ∧ w'.cell? ⟨w5.heap.size, 1, none⟩ = some (.slice AxTt T.values.length cxTt) ∧ w'.cell? ⟨w.heap.size, 0, none⟩ = some (sT) ∧ w'.cell? ⟨w.heap.size, 1, none⟩ = some (tT))
    (first | go_keep | exact hK11 | exact hK12)
    (first
      | (go_at_call 62; refine (toTensor_any _ T _ (hv1T.ext hTd) hsz1T hsz2T).mono ?_; rintro e w11 ⟨ys, yt, rfl, hozs, hozt, -, hb11⟩; have hK11 : w11.cell? ⟨w5.heap.size, 0, none⟩ = some (.slice AxTs T.shape.length cxTs) ∧ w11.cell? ⟨w5.heap.size, 1, none⟩ = some (.slice AxTt T.values.length cxTt) ∧ w11.cell? ⟨w.heap.size, 0, none⟩ = some (sT) ∧ w11.cell? ⟨w.heap.size, 1, none⟩ = some (tT) := ⟨Blk.cell (Blk.ext (Blk.ext bxT_9 (below_drew w9) (Blk.lt bxT_9)) hb11 (Blk.lt (Blk.ext bxT_9 (below_drew w9) (Blk.lt bxT_9)))) 0, Blk.cell (Blk.ext (Blk.ext bxT_9 (below_drew w9) (Blk.lt bxT_9)) hb11 (Blk.lt (Blk.ext bxT_9 (below_drew w9) (Blk.lt bxT_9)))) 1, Blk.cell (Blk.ext (Blk.ext bT_9 (below_drew w9) (Blk.lt bT_9)) hb11 (Blk.lt (Blk.ext bT_9 (below_drew w9) (Blk.lt bT_9)))) 0, Blk.cell (Blk.ext (Blk.ext bT_9 (below_drew w9) (Blk.lt bT_9)) hb11 (Blk.lt (Blk.ext bT_9 (below_drew w9) (Blk.lt bT_9)))) 1⟩)
      | (go_at_call 65; refine (eqTensor_yes _ _ T _ (Own.tensor (hoys.ext hb11) (hoyt.ext hb11)) (Own.tensor hozs hozt)).mono ?_; rintro e w12 ⟨rfl, hb12⟩; have hK12 : w12.cell? ⟨w5.heap.size, 0, none⟩ = some (.slice AxTs T.shape.length cxTs) ∧ w12.cell? ⟨w5.heap.size, 1, none⟩ = some (.slice AxTt T.values.length cxTt) ∧ w12.cell? ⟨w.heap.size, 0, none⟩ = some (sT) ∧ w12.cell? ⟨w.heap.size, 1, none⟩ = some (tT) := ⟨Blk.cell (Blk.ext (Blk.ext (Blk.ext bxT_9 (below_drew w9) (Blk.lt bxT_9)) hb11 (Blk.lt (Blk.ext bxT_9 (below_drew w9) (Blk.lt bxT_9)))) hb12 (Blk.lt (Blk.ext (Blk.ext bxT_9 (below_drew w9) (Blk.lt bxT_9)) hb11 (Blk.lt (Blk.ext bxT_9 (below_drew w9) (Blk.lt bxT_9)))))) 0, Blk.cell (Blk.ext (Blk.ext (Blk.ext bxT_9 (below_drew w9) (Blk.lt bxT_9)) hb11 (Blk.lt (Blk.ext bxT_9 (below_drew w9) (Blk.lt bxT_9)))) hb12 (Blk.lt (Blk.ext (Blk.ext bxT_9 (below_drew w9) (Blk.lt bxT_9)) hb11 (Blk.lt (Blk.ext bxT_9 (below_drew w9) (Blk.lt bxT_9)))))) 1, Blk.cell (Blk.ext (Blk.ext (Blk.ext bT_9 (below_drew w9) (Blk.lt bT_9)) hb11 (Blk.lt (Blk.ext bT_9 (below_drew w9) (Blk.lt bT_9)))) hb12 (Blk.lt (Blk.ext (Blk.ext bT_9 (below_drew w9) (Blk.lt bT_9)) hb11 (Blk.lt (Blk.ext bT_9 (below_drew w9) (Blk.lt bT_9)))))) 0, Blk.cell (Blk.ext (Blk.ext (Blk.ext bT_9 (below_drew w9) (Blk.lt bT_9)) hb11 (Blk.lt (Blk.ext bT_9 (below_drew w9) (Blk.lt bT_9)))) hb12 (Blk.lt (Blk.ext (Blk.ext bT_9 (below_drew w9) (Blk.lt bT_9)) hb11 (Blk.lt (Blk.ext bT_9 (below_drew w9) (Blk.lt bT_9)))))) 1⟩))
  clear qT_9_0 qT_9_1 qw_9_0 qw_9_1 qxT_9_0 qxT_9_1 qg_9_0 qg_9_1
  clear hK11 hK12 hoys hozs hoyt hozt
  have z10 : w9.heap.size ≤ w9.drew.heap.size := Nat.le_refl _
  have hT10 := hTd
  have z11 : w9.drew.heap.size ≤ w11.heap.size := hb11.size
  have hT11 : Below w0.heap.size w0 w11 := hT10.trans (hb11.mono (by omega))
  have z12 : w11.heap.size ≤ w12.heap.size := hb12.size
  have hT12 : Below w0.heap.size w0 w12 := hT11.trans (hb12.mono (by omega))
  clear hTd
  have bT_12 := (Blk.ext (Blk.ext (Blk.ext bT_9 (below_drew w9) (Blk.lt bT_9)) hb11 (Blk.lt (Blk.ext bT_9 (below_drew w9) (Blk.lt bT_9)))) hb12 (Blk.lt (Blk.ext (Blk.ext bT_9 (below_drew w9) (Blk.lt bT_9)) hb11 (Blk.lt (Blk.ext bT_9 (below_drew w9) (Blk.lt bT_9))))))
  clear bT_9
  obtain ⟨⟨qT_12_0, qT_12_1⟩, -⟩ := id bT_12.all2
  have bw_12 := (Blk.ext (Blk.ext (Blk.ext bw_9 (below_drew w9) (Blk.lt bw_9)) hb11 (Blk.lt (Blk.ext bw_9 (below_drew w9) (Blk.lt bw_9)))) hb12 (Blk.lt (Blk.ext (Blk.ext bw_9 (below_drew w9) (Blk.lt bw_9)) hb11 (Blk.lt (Blk.ext bw_9 (below_drew w9) (Blk.lt bw_9))))))
  clear bw_9
  obtain ⟨⟨qw_12_0, qw_12_1⟩, -⟩ := id bw_12.all2
  have bxT_12 := (Blk.ext (Blk.ext (Blk.ext bxT_9 (below_drew w9) (Blk.lt bxT_9)) hb11 (Blk.lt (Blk.ext bxT_9 (below_drew w9) (Blk.lt bxT_9)))) hb12 (Blk.lt (Blk.ext (Blk.ext bxT_9 (below_drew w9) (Blk.lt bxT_9)) hb11 (Blk.lt (Blk.ext bxT_9 (below_drew w9) (Blk.lt bxT_9))))))
  clear bxT_9
  obtain ⟨⟨qxT_12_0, qxT_12_1⟩, -⟩ := id bxT_12.all2
  have bg_12 := (Blk.ext (Blk.ext (Blk.ext bg_9 (below_drew w9) (Blk.lt bg_9)) hb11 (Blk.lt (Blk.ext bg_9 (below_drew w9) (Blk.lt bg_9)))) hb12 (Blk.lt (Blk.ext (Blk.ext bg_9 (below_drew w9) (Blk.lt bg_9)) hb11 (Blk.lt (Blk.ext bg_9 (below_drew w9) (Blk.lt bg_9))))))
  clear bg_9
  obtain ⟨⟨qg_12_0, qg_12_1⟩, -⟩ := id bg_12.all2
  go_wp2_with fail
  refine (markTensor_any _ _ T.shape T.values (1) w4.heap.size w4.heap.size w4.heap.size w5.heap.size _ (((((((hoxTs.ext hb6).ext hb7).ext hb8).ext hb9).ext (below_drew w9)).ext hb11).ext hb12) (((((((hoxTt.ext hb6).ext hb7).ext hb8).ext hb9).ext (below_drew w9)).ext hb11).ext hb12) sepxT sgxTs sgxTt hsz1T hsz2T (by omega)).mono ?_; rintro e w13 ⟨rfl, -, -, hb13⟩
  clear qT_12_0 qT_12_1 qw_12_0 qw_12_1 qxT_12_0 qxT_12_1 qg_12_0 qg_12_1
  have z13 : w12.heap.size ≤ w13.heap.size := hb13.size
  have hT13 : Below w0.heap.size w0 w13 := hT12.trans (hb13.below (by omega) (by omega))
  have bT_13 := (Blk.chg bT_12 hb13 (by omega))
  clear bT_12
  obtain ⟨⟨qT_13_0, qT_13_1⟩, -⟩ := id bT_13.all2
  have bw_13 := (Blk.chg bw_12 hb13 (by omega))
  clear bw_12
  obtain ⟨⟨qw_13_0, qw_13_1⟩, -⟩ := id bw_13.all2
  have bg_13 := (Blk.chg bg_12 hb13 (by omega))
  clear bg_12
  obtain ⟨⟨qg_13_0, qg_13_1⟩, -⟩ := id bg_13.all2
  go_wp2_with fail
  refine (eqTensor_yes _ _ (sumDL T D) _ (Own.tensor ((((((hogrs.ext hb8).ext hb9).ext (below_drew w9)).ext hb11).ext hb12).chg hb13 sggrs (by omega)) ((((((hogrt.ext hb8).ext hb9).ext (below_drew w9)).ext hb11).ext hb12).chg hb13 sggrt (by omega))) (Own.tensor ((((((((((howrs.ext hb4).ext hb5).ext hb6).ext hb7).ext hb8).ext hb9).ext (below_drew w9)).ext hb11).ext hb12).chg hb13 sgwrs (by omega)) ((((((((((howrt.ext hb4).ext hb5).ext hb6).ext hb7).ext hb8).ext hb9).ext (below_drew w9)).ext hb11).ext hb12).chg hb13 sgwrt (by omega)))).mono ?_; rintro e w14 ⟨rfl, hb14⟩
  clear qT_13_0 qT_13_1 qw_13_0 qw_13_1 qg_13_0 qg_13_1
  have z14 : w13.heap.size ≤ w14.heap.size := hb14.size
  have hT14 : Below w0.heap.size w0 w14 := hT13.trans (hb14.mono (by omega))
  have bT_14 := (Blk.ext bT_13 hb14 (Blk.lt bT_13))
  clear bT_13
  obtain ⟨⟨qT_14_0, qT_14_1⟩, -⟩ := id bT_14.all2
  have bw_14 := (Blk.ext bw_13 hb14 (Blk.lt bw_13))
  clear bw_13
  obtain ⟨⟨qw_14_0, qw_14_1⟩, -⟩ := id bw_14.all2
  have bg_14 := (Blk.ext bg_13 hb14 (Blk.lt bg_13))
  clear bg_13
  obtain ⟨⟨qg_14_0, qg_14_1⟩, -⟩ := id bg_14.all2
  have hlr := sumDL_len T D
  have hlr1 : (sumDL T D).shape.length ≤ 1048576 := by omega
  have hlr2 : (sumDL T D).values.length ≤ 1048576 := by omega
  go_wp2_with fail
  refine (markTensor_any _ _ (sumDL T D).shape (sumDL T D).values (1) w6.heap.size w6.heap.size w6.heap.size w7.heap.size _ (((((((hogrs.ext hb8).ext hb9).ext (below_drew w9)).ext hb11).ext hb12).chg hb13 sggrs (by omega)).ext hb14) (((((((hogrt.ext hb8).ext hb9).ext (below_drew w9)).ext hb11).ext hb12).chg hb13 sggrt (by omega)).ext hb14) sepg sggrs sggrt hlr1 hlr2 (by omega)).mono ?_; rintro e w15 ⟨rfl, hom1, hom2, hb15⟩
  clear qT_14_0 qT_14_1 qw_14_0 qw_14_1 qg_14_0 qg_14_1
  have z15 : w14.heap.size ≤ w15.heap.size := hb15.size
  have hT15 : Below w0.heap.size w0 w15 := hT14.trans (hb15.below (by omega) (by omega))
  have bT_15 := (Blk.chg bT_14 hb15 (by omega))
  clear bT_14
  obtain ⟨⟨qT_15_0, qT_15_1⟩, -⟩ := id bT_15.all2
  have bw_15 := (Blk.chg bw_14 hb15 (by omega))
  clear bw_14
  obtain ⟨⟨qw_15_0, qw_15_1⟩, -⟩ := id bw_15.all2
  have bg_15 := (Blk.chg bg_14 hb15 (by omega))
  clear bg_14
  obtain ⟨⟨qg_15_0, qg_15_1⟩, -⟩ := id bg_15.all2
  go_wp2_with fail
  refine (heldTensor_any _ _ (sumDL T D).shape.length (sumDL T D).values.length (1) _ (Own.ints hom1) (Own.ints hom2) hlr1 hlr2 (by omega)).mono ?_; rintro e w16 ⟨rfl, hb16⟩
  clear qT_15_0 qT_15_1 qw_15_0 qw_15_1 qg_15_0 qg_15_1
  have z16 : w15.heap.size ≤ w16.heap.size := hb16.size
  have hT16 : Below w0.heap.size w0 w16 := hT15.trans (hb16.mono (by omega))
  have bT_16 := (Blk.ext bT_15 hb16 (Blk.lt bT_15))
  clear bT_15
  obtain ⟨⟨qT_16_0, qT_16_1⟩, -⟩ := id bT_16.all2
  have bw_16 := (Blk.ext bw_15 hb16 (Blk.lt bw_15))
  clear bw_15
  obtain ⟨⟨qw_16_0, qw_16_1⟩, -⟩ := id bw_16.all2
  have bg_16 := (Blk.ext bg_15 hb16 (Blk.lt bg_15))
  clear bg_15
  obtain ⟨⟨qg_16_0, qg_16_1⟩, -⟩ := id bg_16.all2
  go_wp2_with fail
  refine (toTensor_any _ T _ (hv1T.ext hT16) hsz1T hsz2T).mono ?_; rintro e w17 ⟨xhTs, xhTt, rfl, hohTs, hohTt, sephT, hb17⟩
  clear qT_16_0 qT_16_1 qw_16_0 qw_16_1 qg_16_0 qg_16_1
  have z17 : w16.heap.size ≤ w17.heap.size := hb17.size
  have hT17 : Below w0.heap.size w0 w17 := hT16.trans (hb17.mono (by omega))
  have bT_17 := (Blk.ext bT_16 hb17 (Blk.lt bT_16))
  clear bT_16
  obtain ⟨⟨qT_17_0, qT_17_1⟩, -⟩ := id bT_17.all2
  have bw_17 := (Blk.ext bw_16 hb17 (Blk.lt bw_16))
  clear bw_16
  obtain ⟨⟨qw_17_0, qw_17_1⟩, -⟩ := id bw_17.all2
  have bg_17 := (Blk.ext bg_16 hb17 (Blk.lt bg_16))
  clear bg_16
  obtain ⟨⟨qg_17_0, qg_17_1⟩, -⟩ := id bg_17.all2
  go_wp2_with fail
  refine (SumDim_any _ T D _ (Own.tensor hohTs hohTt) ⟨wfD1, wfD2⟩).mono ?_; rintro e w18 ⟨rhs, rht, rfl, hohrs, hohrt, seph, hb18⟩
  clear qT_17_0 qT_17_1 qw_17_0 qw_17_1 qg_17_0 qg_17_1
  have z18 : w17.heap.size ≤ w18.heap.size := hb18.size
  have hT18 : Below w0.heap.size w0 w18 := hT17.trans (hb18.mono (by omega))
  have bT_18 := (Blk.ext bT_17 hb18 (Blk.lt bT_17))
  clear bT_17
  obtain ⟨⟨qT_18_0, qT_18_1⟩, -⟩ := id bT_18.all2
  have bw_18 := (Blk.ext bw_17 hb18 (Blk.lt bw_17))
  clear bw_17
  obtain ⟨⟨qw_18_0, qw_18_1⟩, -⟩ := id bw_18.all2
  have bg_18 := (Blk.ext bg_17 hb18 (Blk.lt bg_17))
  clear bg_17
  obtain ⟨⟨qg_18_0, qg_18_1⟩, -⟩ := id bg_18.all2
  have sghrs := hohrs.seg
  have sghrt := hohrt.seg
  obtain ⟨Ahs, chs, ehs⟩ := hohrs.form
  obtain ⟨Aht, cht, eht⟩ := hohrt.form
  subst ehs eht
  have bh_19 := Blk.new w18 75 #[.slice Ahs (sumDL T D).shape.length chs, .slice Aht (sumDL T D).values.length cht]
  have hb19 := below_alloc w18 (.cells #[.slice Ahs (sumDL T D).shape.length chs, .slice Aht (sumDL T D).values.length cht] 75)
  obtain ⟨mT_18_0, mT_18_1⟩ := (Blk.ext bT_18 (below_alloc w18 (.cells #[.slice Ahs (sumDL T D).shape.length chs, .slice Aht (sumDL T D).values.length cht] 75)) (Blk.lt bT_18)).all2.1
  obtain ⟨mw_18_0, mw_18_1⟩ := (Blk.ext bw_18 (below_alloc w18 (.cells #[.slice Ahs (sumDL T D).shape.length chs, .slice Aht (sumDL T D).values.length cht] 75)) (Blk.lt bw_18)).all2.1
  obtain ⟨mg_18_0, mg_18_1⟩ := (Blk.ext bg_18 (below_alloc w18 (.cells #[.slice Ahs (sumDL T D).shape.length chs, .slice Aht (sumDL T D).values.length cht] 75)) (Blk.lt bg_18)).all2.1
  go_wp2_with fail
  generalize w18.alloc (.cells #[.slice Ahs (sumDL T D).shape.length chs, .slice Aht (sumDL T D).values.length cht] 75) = w19 at *
  clear qT_18_0 qT_18_1 qw_18_0 qw_18_1 qg_18_0 qg_18_1 mT_18_0 mT_18_1 mw_18_0 mw_18_1 mg_18_0 mg_18_1
  have z19 : w18.heap.size ≤ w19.heap.size := hb19.size
  have hT19 : Below w0.heap.size w0 w19 := hT18.trans (hb19.mono (by omega))
  have zlh : w18.heap.size < w19.heap.size := bh_19.lt
  have bT_19 := (Blk.ext bT_18 hb19 (Blk.lt bT_18))
  clear bT_18
  obtain ⟨⟨qT_19_0, qT_19_1⟩, -⟩ := id bT_19.all2
  have bw_19 := (Blk.ext bw_18 hb19 (Blk.lt bw_18))
  clear bw_18
  obtain ⟨⟨qw_19_0, qw_19_1⟩, -⟩ := id bw_19.all2
  have bg_19 := (Blk.ext bg_18 hb19 (Blk.lt bg_18))
  clear bg_18
  obtain ⟨⟨qg_19_0, qg_19_1⟩, -⟩ := id bg_19.all2
  obtain ⟨⟨qh_19_0, qh_19_1⟩, -⟩ := id bh_19.all2
  go_wp2_with fail
  refine (eqTensor_yes _ _ (sumDL T D) _ (Own.tensor (hohrs.ext hb19) (hohrt.ext hb19)) (Own.tensor ((((((((((((((((howrs.ext hb4).ext hb5).ext hb6).ext hb7).ext hb8).ext hb9).ext (below_drew w9)).ext hb11).ext hb12).chg hb13 sgwrs (by omega)).ext hb14).chg hb15 sgwrs (by omega)).ext hb16).ext hb17).ext hb18).ext hb19) ((((((((((((((((howrt.ext hb4).ext hb5).ext hb6).ext hb7).ext hb8).ext hb9).ext (below_drew w9)).ext hb11).ext hb12).chg hb13 sgwrt (by omega)).ext hb14).chg hb15 sgwrt (by omega)).ext hb16).ext hb17).ext hb18).ext hb19))).mono ?_; rintro e w20 ⟨rfl, hb20⟩
  clear qT_19_0 qT_19_1 qw_19_0 qw_19_1 qg_19_0 qg_19_1 qh_19_0 qh_19_1
  have z20 : w19.heap.size ≤ w20.heap.size := hb20.size
  have hT20 : Below w0.heap.size w0 w20 := hT19.trans (hb20.mono (by omega))
  have bT_20 := (Blk.ext bT_19 hb20 (Blk.lt bT_19))
  clear bT_19
  obtain ⟨⟨qT_20_0, qT_20_1⟩, -⟩ := id bT_20.all2
  have bw_20 := (Blk.ext bw_19 hb20 (Blk.lt bw_19))
  clear bw_19
  obtain ⟨⟨qw_20_0, qw_20_1⟩, -⟩ := id bw_20.all2
  have bg_20 := (Blk.ext bg_19 hb20 (Blk.lt bg_19))
  clear bg_19
  obtain ⟨⟨qg_20_0, qg_20_1⟩, -⟩ := id bg_20.all2
  have bh_20 := (Blk.ext bh_19 hb20 (Blk.lt bh_19))
  clear bh_19
  obtain ⟨⟨qh_20_0, qh_20_1⟩, -⟩ := id bh_20.all2
  go_wp2_with fail
  refine (heldTensor_any _ _ (sumDL T D).shape.length (sumDL T D).values.length (1) _ (Own.ints (((((hom1.ext hb16).ext hb17).ext hb18).ext hb19).ext hb20)) (Own.ints (((((hom2.ext hb16).ext hb17).ext hb18).ext hb19).ext hb20)) hlr1 hlr2 (by omega)).mono ?_; rintro e w21 ⟨rfl, hb21⟩
  clear qT_20_0 qT_20_1 qw_20_0 qw_20_1 qg_20_0 qg_20_1 qh_20_0 qh_20_1
  have z21 : w20.heap.size ≤ w21.heap.size := hb21.size
  have hT21 : Below w0.heap.size w0 w21 := hT20.trans (hb21.mono (by omega))
  have bT_21 := (Blk.ext bT_20 hb21 (Blk.lt bT_20))
  clear bT_20
  obtain ⟨⟨qT_21_0, qT_21_1⟩, -⟩ := id bT_21.all2
  have bw_21 := (Blk.ext bw_20 hb21 (Blk.lt bw_20))
  clear bw_20
  obtain ⟨⟨qw_21_0, qw_21_1⟩, -⟩ := id bw_21.all2
  have bg_21 := (Blk.ext bg_20 hb21 (Blk.lt bg_20))
  clear bg_20
  obtain ⟨⟨qg_21_0, qg_21_1⟩, -⟩ := id bg_21.all2
  have bh_21 := (Blk.ext bh_20 hb21 (Blk.lt bh_20))
  clear bh_20
  obtain ⟨⟨qh_21_0, qh_21_1⟩, -⟩ := id bh_21.all2
  go_wp2
  go_ret
  exact ⟨rfl, hW.trans (hT21.mono hW.size)⟩

end Go.Proofs.Ytldblcolnjkcaaa
