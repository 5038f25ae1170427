/- The walks of exact laws: each answers true at every input and changes nothing that was there. No conditions. (printed by genlaw2.py) -/
import Derived.Test.YtldblcolnjkcaaaTT1
import Derived.Test.YtldblcolnjkcaaaTT2
import Derived.Test.YtldblcolnjkcaaaL5
import Derived.Test.YtldblcolnjkcaaaL3
import Derived.Test.YtldblcolnjkcaaaL1
import Derived.Deep.RegionHeld3
namespace Go.Proofs.Ytldblcolnjkcaaa
open Go.RowKit

set_option maxRecDepth 100000 in
set_option maxHeartbeats 3200000 in
theorem FnExactTurnTensor_walk (vT : Value) (T : TL) (vO : Value) (O : List Int) (w : World) (hvT : TensorV w vT T) (hvO : Ints w vO O) :
    Calls Try.prog 10 #[vT, vO] w fun e w' => e = .returned (.bool true) ∧ Below w.heap.size w w' := by
  have hv0T := hvT
  obtain ⟨sT, tT, rfl, -, -⟩ := hvT
  have hW : Below w.heap.size w (w.alloc (.cells #[sT, tT] 73)) := Below.alloc (Below.refl w.heap.size w) (by simp <;> omega) (.cells #[sT, tT] 73)
  have bT_0 : Blk (w.alloc (.cells #[sT, tT] 73)) (w.heap.size) 73 #[sT, tT] := (Blk.new w 73 #[sT, tT])
  have hv1T := hv0T.ext hW
  have hv1O := hvO.ext hW
  by_cases hlO : 1048576 < O.length
  · obtain ⟨A0, c0, rfl, hk0, hm0, -⟩ := hvO
    unfold maxLen at hm0
    clear hv1O
    go_enter Try.func10, Try.ntmps10
    go_wp2
    go_ret
    exact ⟨rfl, hW⟩
  have hlO : O.length ≤ 1048576 := by omega
  by_cases hsT : 1048576 < T.shape.length + T.values.length
  · have hzT : 1048576 < T.shape.length + T.values.length := by omega
    obtain ⟨AO0, cO0, rfl, hkO0, hmO0, -⟩ := hvO
    unfold maxLen at hmO0
    go_enter Try.func10, Try.ntmps10
    go_wp2_with fail
    generalize (w.alloc (.cells #[sT, tT] 73)) = w0 at *
    have hT0 : Below w0.heap.size w0 w0 := Below.refl _ _
    have zlT : w.heap.size < w0.heap.size := bT_0.lt
    obtain ⟨⟨qT_0_0, qT_0_1⟩, -⟩ := id bT_0.all2
    refine (szTensor_no _ T 1048576 _ (hv1T.ext hT0) hzT (by omega)).mono ?_; rintro e w1 ⟨rfl, hb1⟩
    clear qT_0_0 qT_0_1
    have z1 : w0.heap.size ≤ w1.heap.size := hb1.size
    have hT1 : Below w0.heap.size w0 w1 := hT0.trans (hb1.mono (by omega))
    go_wp2
    go_ret
    exact ⟨rfl, hW.trans (hT1.mono hW.size)⟩
  have hsz1T : T.shape.length ≤ 1048576 := by omega
  have hsz2T : T.values.length ≤ 1048576 := by omega
  obtain ⟨AO0, cO0, rfl, hkO0, hmO0, -⟩ := id hvO
  unfold maxLen at hmO0
  go_enter Try.func10, Try.ntmps10
  go_wp2_with fail
  generalize (w.alloc (.cells #[sT, tT] 73)) = w0 at *
  have hT0 : Below w0.heap.size w0 w0 := Below.refl _ _
  have zlT : w.heap.size < w0.heap.size := bT_0.lt
  obtain ⟨⟨qT_0_0, qT_0_1⟩, -⟩ := id bT_0.all2
  refine (szTensor_ok _ T 1048576 _ hv1T (by omega) (by omega)).mono ?_; rintro e w1 ⟨rfl, hb1⟩
  clear qT_0_0 qT_0_1
  have z1 : w0.heap.size ≤ w1.heap.size := hb1.size
  have hT1 : Below w0.heap.size w0 w1 := hT0.trans (hb1.mono (by omega))
  have bT_1 := (Blk.ext bT_0 hb1 (Blk.lt bT_0))
  obtain ⟨⟨qT_1_0, qT_1_1⟩, -⟩ := id bT_1.all2
  go_wp2_with fail
  refine (toTensor_any _ T _ (hv1T.ext hT1) hsz1T hsz2T).mono ?_; rintro e w2 ⟨xwTs, xwTt, rfl, howTs, howTt, sepwT, hb2⟩
  clear qT_1_0 qT_1_1
  have z2 : w1.heap.size ≤ w2.heap.size := hb2.size
  have hT2 : Below w0.heap.size w0 w2 := hT1.trans (hb2.mono (by omega))
  have bT_2 := (Blk.ext bT_1 hb2 (Blk.lt bT_1))
  clear bT_1
  obtain ⟨⟨qT_2_0, qT_2_1⟩, -⟩ := id bT_2.all2
  go_wp2_with fail
  refine (toIntS_any _ O _ (hv1O.ext hT2) hlO).mono ?_; rintro e w3 ⟨xwO, rfl, howO, hb3⟩
  clear qT_2_0 qT_2_1
  have z3 : w2.heap.size ≤ w3.heap.size := hb3.size
  have hT3 : Below w0.heap.size w0 w3 := hT2.trans (hb3.mono (by omega))
  have bT_3 := (Blk.ext bT_2 hb3 (Blk.lt bT_2))
  clear bT_2
  obtain ⟨⟨qT_3_0, qT_3_1⟩, -⟩ := id bT_3.all2
  go_wp2_with fail
  refine (sTurnTensor_any _ _ T O _ (Own.tensor (howTs.ext hb3) (howTt.ext hb3)) (Own.ints howO)).mono ?_; rintro e w4 ⟨rws, rwt, rfl, howrs, howrt, sepw, hb4⟩
  clear qT_3_0 qT_3_1
  have z4 : w3.heap.size ≤ w4.heap.size := hb4.size
  have hT4 : Below w0.heap.size w0 w4 := hT3.trans (hb4.mono (by omega))
  have bT_4 := (Blk.ext bT_3 hb4 (Blk.lt bT_3))
  clear bT_3
  obtain ⟨⟨qT_4_0, qT_4_1⟩, -⟩ := id bT_4.all2
  have sgwrs := howrs.seg
  have sgwrt := howrt.seg
  obtain ⟨Aws, cws, ews⟩ := howrs.form
  obtain ⟨Awt, cwt, ewt⟩ := howrt.form
  subst ews ewt
  have bw_5 := Blk.new w4 75 #[.slice Aws (turnL T O).shape.length cws, .slice Awt (turnL T O).values.length cwt]
  have hb5 := below_alloc w4 (.cells #[.slice Aws (turnL T O).shape.length cws, .slice Awt (turnL T O).values.length cwt] 75)
  obtain ⟨mT_4_0, mT_4_1⟩ := (Blk.ext bT_4 (below_alloc w4 (.cells #[.slice Aws (turnL T O).shape.length cws, .slice Awt (turnL T O).values.length cwt] 75)) (Blk.lt bT_4)).all2.1
  go_wp2_with fail
  generalize w4.alloc (.cells #[.slice Aws (turnL T O).shape.length cws, .slice Awt (turnL T O).values.length cwt] 75) = w5 at *
  clear qT_4_0 qT_4_1 mT_4_0 mT_4_1
  have z5 : w4.heap.size ≤ w5.heap.size := hb5.size
  have hT5 : Below w0.heap.size w0 w5 := hT4.trans (hb5.mono (by omega))
  have zlw : w4.heap.size < w5.heap.size := bw_5.lt
  have bT_5 := (Blk.ext bT_4 hb5 (Blk.lt bT_4))
  clear bT_4
  obtain ⟨⟨qT_5_0, qT_5_1⟩, -⟩ := id bT_5.all2
  obtain ⟨⟨qw_5_0, qw_5_1⟩, -⟩ := id bw_5.all2
  go_wp2_with fail
  refine (toTensor_any _ T _ (hv1T.ext hT5) hsz1T hsz2T).mono ?_; rintro e w6 ⟨xxTs, xxTt, rfl, hoxTs, hoxTt, sepxT, hb6⟩
  clear qT_5_0 qT_5_1 qw_5_0 qw_5_1
  have z6 : w5.heap.size ≤ w6.heap.size := hb6.size
  have hT6 : Below w0.heap.size w0 w6 := hT5.trans (hb6.mono (by omega))
  have bT_6 := (Blk.ext bT_5 hb6 (Blk.lt bT_5))
  clear bT_5
  obtain ⟨⟨qT_6_0, qT_6_1⟩, -⟩ := id bT_6.all2
  have bw_6 := (Blk.ext bw_5 hb6 (Blk.lt bw_5))
  clear bw_5
  obtain ⟨⟨qw_6_0, qw_6_1⟩, -⟩ := id bw_6.all2
  have sgxTs := hoxTs.seg
  have sgxTt := hoxTt.seg
  obtain ⟨AxTs, cxTs, exTs⟩ := hoxTs.form
  obtain ⟨AxTt, cxTt, exTt⟩ := hoxTt.form
  subst exTs exTt
  have bxT_7 := Blk.new w6 75 #[.slice AxTs T.shape.length cxTs, .slice AxTt T.values.length cxTt]
  have hb7 := below_alloc w6 (.cells #[.slice AxTs T.shape.length cxTs, .slice AxTt T.values.length cxTt] 75)
  obtain ⟨mT_6_0, mT_6_1⟩ := (Blk.ext bT_6 (below_alloc w6 (.cells #[.slice AxTs T.shape.length cxTs, .slice AxTt T.values.length cxTt] 75)) (Blk.lt bT_6)).all2.1
  obtain ⟨mw_6_0, mw_6_1⟩ := (Blk.ext bw_6 (below_alloc w6 (.cells #[.slice AxTs T.shape.length cxTs, .slice AxTt T.values.length cxTt] 75)) (Blk.lt bw_6)).all2.1
  go_wp2_with fail
  generalize w6.alloc (.cells #[.slice AxTs T.shape.length cxTs, .slice AxTt T.values.length cxTt] 75) = w7 at *
  clear qT_6_0 qT_6_1 qw_6_0 qw_6_1 mT_6_0 mT_6_1 mw_6_0 mw_6_1
  have z7 : w6.heap.size ≤ w7.heap.size := hb7.size
  have hT7 : Below w0.heap.size w0 w7 := hT6.trans (hb7.mono (by omega))
  have zlxT : w6.heap.size < w7.heap.size := bxT_7.lt
  have bT_7 := (Blk.ext bT_6 hb7 (Blk.lt bT_6))
  clear bT_6
  obtain ⟨⟨qT_7_0, qT_7_1⟩, -⟩ := id bT_7.all2
  have bw_7 := (Blk.ext bw_6 hb7 (Blk.lt bw_6))
  clear bw_6
  obtain ⟨⟨qw_7_0, qw_7_1⟩, -⟩ := id bw_7.all2
  obtain ⟨⟨qxT_7_0, qxT_7_1⟩, -⟩ := id bxT_7.all2
  go_wp2_with fail
  refine (toIntS_any _ O _ (hv1O.ext hT7) hlO).mono ?_; rintro e w8 ⟨xxO, rfl, hoxO, hb8⟩
  clear qT_7_0 qT_7_1 qw_7_0 qw_7_1 qxT_7_0 qxT_7_1
  have z8 : w7.heap.size ≤ w8.heap.size := hb8.size
  have hT8 : Below w0.heap.size w0 w8 := hT7.trans (hb8.mono (by omega))
  have bT_8 := (Blk.ext bT_7 hb8 (Blk.lt bT_7))
  clear bT_7
  obtain ⟨⟨qT_8_0, qT_8_1⟩, -⟩ := id bT_8.all2
  have bw_8 := (Blk.ext bw_7 hb8 (Blk.lt bw_7))
  clear bw_7
  obtain ⟨⟨qw_8_0, qw_8_1⟩, -⟩ := id bw_8.all2
  have bxT_8 := (Blk.ext bxT_7 hb8 (Blk.lt bxT_7))
  clear bxT_7
  obtain ⟨⟨qxT_8_0, qxT_8_1⟩, -⟩ := id bxT_8.all2
  have sgxO := hoxO.seg
  go_wp2_with fail
  refine (TurnTensor_any _ _ T O _ (Own.tensor ((hoxTs.ext hb7).ext hb8) ((hoxTt.ext hb7).ext hb8)) (Own.ints hoxO)).mono ?_; rintro e w9 ⟨rgs, rgt, rfl, hogrs, hogrt, sepg, hb9⟩
  clear qT_8_0 qT_8_1 qw_8_0 qw_8_1 qxT_8_0 qxT_8_1
  have z9 : w8.heap.size ≤ w9.heap.size := hb9.size
  have hT9 : Below w0.heap.size w0 w9 := hT8.trans (hb9.mono (by omega))
  have bT_9 := (Blk.ext bT_8 hb9 (Blk.lt bT_8))
  clear bT_8
  obtain ⟨⟨qT_9_0, qT_9_1⟩, -⟩ := id bT_9.all2
  have bw_9 := (Blk.ext bw_8 hb9 (Blk.lt bw_8))
  clear bw_8
  obtain ⟨⟨qw_9_0, qw_9_1⟩, -⟩ := id bw_9.all2
  have bxT_9 := (Blk.ext bxT_8 hb9 (Blk.lt bxT_8))
  clear bxT_8
  obtain ⟨⟨qxT_9_0, qxT_9_1⟩, -⟩ := id bxT_9.all2
  have sggrs := hogrs.seg
  have sggrt := hogrt.seg
  obtain ⟨Ags, cgs, egs⟩ := hogrs.form
  obtain ⟨Agt, cgt, egt⟩ := hogrt.form
  subst egs egt
  have bg_10 := Blk.new w9 75 #[.slice Ags (turnL T O).shape.length cgs, .slice Agt (turnL T O).values.length cgt]
  have hb10 := below_alloc w9 (.cells #[.slice Ags (turnL T O).shape.length cgs, .slice Agt (turnL T O).values.length cgt] 75)
  obtain ⟨mT_9_0, mT_9_1⟩ := (Blk.ext bT_9 (below_alloc w9 (.cells #[.slice Ags (turnL T O).shape.length cgs, .slice Agt (turnL T O).values.length cgt] 75)) (Blk.lt bT_9)).all2.1
  obtain ⟨mw_9_0, mw_9_1⟩ := (Blk.ext bw_9 (below_alloc w9 (.cells #[.slice Ags (turnL T O).shape.length cgs, .slice Agt (turnL T O).values.length cgt] 75)) (Blk.lt bw_9)).all2.1
  obtain ⟨mxT_9_0, mxT_9_1⟩ := (Blk.ext bxT_9 (below_alloc w9 (.cells #[.slice Ags (turnL T O).shape.length cgs, .slice Agt (turnL T O).values.length cgt] 75)) (Blk.lt bxT_9)).all2.1
  go_wp2_with fail
  generalize w9.alloc (.cells #[.slice Ags (turnL T O).shape.length cgs, .slice Agt (turnL T O).values.length cgt] 75) = w10 at *
  clear qT_9_0 qT_9_1 qw_9_0 qw_9_1 qxT_9_0 qxT_9_1 mT_9_0 mT_9_1 mw_9_0 mw_9_1 mxT_9_0 mxT_9_1
  have z10 : w9.heap.size ≤ w10.heap.size := hb10.size
  have hT10 : Below w0.heap.size w0 w10 := hT9.trans (hb10.mono (by omega))
  have zlg : w9.heap.size < w10.heap.size := bg_10.lt
  have bT_10 := (Blk.ext bT_9 hb10 (Blk.lt bT_9))
  clear bT_9
  obtain ⟨⟨qT_10_0, qT_10_1⟩, -⟩ := id bT_10.all2
  have bw_10 := (Blk.ext bw_9 hb10 (Blk.lt bw_9))
  clear bw_9
  obtain ⟨⟨qw_10_0, qw_10_1⟩, -⟩ := id bw_10.all2
  have bxT_10 := (Blk.ext bxT_9 hb10 (Blk.lt bxT_9))
  clear bxT_9
  obtain ⟨⟨qxT_10_0, qxT_10_1⟩, -⟩ := id bxT_10.all2
  obtain ⟨⟨qg_10_0, qg_10_1⟩, -⟩ := id bg_10.all2
  go_wp2_with fail
  refine (eqTensor_yes _ _ (turnL T O) _ (Own.tensor (hogrs.ext hb10) (hogrt.ext hb10)) (Own.tensor ((((((howrs.ext hb5).ext hb6).ext hb7).ext hb8).ext hb9).ext hb10) ((((((howrt.ext hb5).ext hb6).ext hb7).ext hb8).ext hb9).ext hb10))).mono ?_; rintro e w11 ⟨rfl, hb11⟩
  clear qT_10_0 qT_10_1 qw_10_0 qw_10_1 qxT_10_0 qxT_10_1 qg_10_0 qg_10_1
  have z11 : w10.heap.size ≤ w11.heap.size := hb11.size
  have hT11 : Below w0.heap.size w0 w11 := hT10.trans (hb11.mono (by omega))
  have bT_11 := (Blk.ext bT_10 hb11 (Blk.lt bT_10))
  clear bT_10
  obtain ⟨⟨qT_11_0, qT_11_1⟩, -⟩ := id bT_11.all2
  have bw_11 := (Blk.ext bw_10 hb11 (Blk.lt bw_10))
  clear bw_10
  obtain ⟨⟨qw_11_0, qw_11_1⟩, -⟩ := id bw_11.all2
  have bxT_11 := (Blk.ext bxT_10 hb11 (Blk.lt bxT_10))
  clear bxT_10
  obtain ⟨⟨qxT_11_0, qxT_11_1⟩, -⟩ := id bxT_11.all2
  have bg_11 := (Blk.ext bg_10 hb11 (Blk.lt bg_10))
  clear bg_10
  obtain ⟨⟨qg_11_0, qg_11_1⟩, -⟩ := id bg_11.all2
  go_wp2_with fail
  have hTd : Below w0.heap.size w0 w11.drew := hT11.drew
  have hoys := ((((((hoxTs.ext hb7).ext hb8).ext hb9).ext hb10).ext hb11).ext (below_drew w11))
  have hoyt := ((((((hoxTt.ext hb7).ext hb8).ext hb9).ext hb10).ext hb11).ext (below_drew w11))
  go_region_held3 (fun w' => w'.cell? ⟨w6.heap.size, 0, none⟩ = some (.slice AxTs T.shape.length cxTs) ∧ w'.cell? ⟨w6.heap.size, 1, none⟩ = some (.slice AxTt T.values.length cxTt) ∧ w'.cell? ⟨w.heap.size, 0, none⟩ = some (sT) ∧ w'.cell? ⟨w.heap.size, 1, none⟩ = some (tT))
    (first | go_keep | exact hK13 | exact hK14)
    (first
      | (go_at_call 62; refine (toTensor_any _ T _ (hv1T.ext hTd) hsz1T hsz2T).mono ?_; rintro e w13 ⟨ys, yt, rfl, hozs, hozt, -, hb13⟩; have hK13 : w13.cell? ⟨w6.heap.size, 0, none⟩ = some (.slice AxTs T.shape.length cxTs) ∧ w13.cell? ⟨w6.heap.size, 1, none⟩ = some (.slice AxTt T.values.length cxTt) ∧ w13.cell? ⟨w.heap.size, 0, none⟩ = some (sT) ∧ w13.cell? ⟨w.heap.size, 1, none⟩ = some (tT) := ⟨Blk.cell (Blk.ext (Blk.ext bxT_11 (below_drew w11) (Blk.lt bxT_11)) hb13 (Blk.lt (Blk.ext bxT_11 (below_drew w11) (Blk.lt bxT_11)))) 0, Blk.cell (Blk.ext (Blk.ext bxT_11 (below_drew w11) (Blk.lt bxT_11)) hb13 (Blk.lt (Blk.ext bxT_11 (below_drew w11) (Blk.lt bxT_11)))) 1, Blk.cell (Blk.ext (Blk.ext bT_11 (below_drew w11) (Blk.lt bT_11)) hb13 (Blk.lt (Blk.ext bT_11 (below_drew w11) (Blk.lt bT_11)))) 0, Blk.cell (Blk.ext (Blk.ext bT_11 (below_drew w11) (Blk.lt bT_11)) hb13 (Blk.lt (Blk.ext bT_11 (below_drew w11) (Blk.lt bT_11)))) 1⟩)
      | (go_at_call 65; refine (eqTensor_yes _ _ T _ (Own.tensor (hoys.ext hb13) (hoyt.ext hb13)) (Own.tensor hozs hozt)).mono ?_; rintro e w14 ⟨rfl, hb14⟩; have hK14 : w14.cell? ⟨w6.heap.size, 0, none⟩ = some (.slice AxTs T.shape.length cxTs) ∧ w14.cell? ⟨w6.heap.size, 1, none⟩ = some (.slice AxTt T.values.length cxTt) ∧ w14.cell? ⟨w.heap.size, 0, none⟩ = some (sT) ∧ w14.cell? ⟨w.heap.size, 1, none⟩ = some (tT) := ⟨Blk.cell (Blk.ext (Blk.ext (Blk.ext bxT_11 (below_drew w11) (Blk.lt bxT_11)) hb13 (Blk.lt (Blk.ext bxT_11 (below_drew w11) (Blk.lt bxT_11)))) hb14 (Blk.lt (Blk.ext (Blk.ext bxT_11 (below_drew w11) (Blk.lt bxT_11)) hb13 (Blk.lt (Blk.ext bxT_11 (below_drew w11) (Blk.lt bxT_11)))))) 0, Blk.cell (Blk.ext (Blk.ext (Blk.ext bxT_11 (below_drew w11) (Blk.lt bxT_11)) hb13 (Blk.lt (Blk.ext bxT_11 (below_drew w11) (Blk.lt bxT_11)))) hb14 (Blk.lt (Blk.ext (Blk.ext bxT_11 (below_drew w11) (Blk.lt bxT_11)) hb13 (Blk.lt (Blk.ext bxT_11 (below_drew w11) (Blk.lt bxT_11)))))) 1, Blk.cell (Blk.ext (Blk.ext (Blk.ext bT_11 (below_drew w11) (Blk.lt bT_11)) hb13 (Blk.lt (Blk.ext bT_11 (below_drew w11) (Blk.lt bT_11)))) hb14 (Blk.lt (Blk.ext (Blk.ext bT_11 (below_drew w11) (Blk.lt bT_11)) hb13 (Blk.lt (Blk.ext bT_11 (below_drew w11) (Blk.lt bT_11)))))) 0, Blk.cell (Blk.ext (Blk.ext (Blk.ext bT_11 (below_drew w11) (Blk.lt bT_11)) hb13 (Blk.lt (Blk.ext bT_11 (below_drew w11) (Blk.lt bT_11)))) hb14 (Blk.lt (Blk.ext (Blk.ext bT_11 (below_drew w11) (Blk.lt bT_11)) hb13 (Blk.lt (Blk.ext bT_11 (below_drew w11) (Blk.lt bT_11)))))) 1⟩))
  clear qT_11_0 qT_11_1 qw_11_0 qw_11_1 qxT_11_0 qxT_11_1 qg_11_0 qg_11_1
  clear hK13 hK14 hoys hozs hoyt hozt
  have z12 : w11.heap.size ≤ w11.drew.heap.size := Nat.le_refl _
  have hT12 := hTd
  have z13 : w11.drew.heap.size ≤ w13.heap.size := hb13.size
  have hT13 : Below w0.heap.size w0 w13 := hT12.trans (hb13.mono (by omega))
  have z14 : w13.heap.size ≤ w14.heap.size := hb14.size
  have hT14 : Below w0.heap.size w0 w14 := hT13.trans (hb14.mono (by omega))
  clear hTd
  have bT_14 := (Blk.ext (Blk.ext (Blk.ext bT_11 (below_drew w11) (Blk.lt bT_11)) hb13 (Blk.lt (Blk.ext bT_11 (below_drew w11) (Blk.lt bT_11)))) hb14 (Blk.lt (Blk.ext (Blk.ext bT_11 (below_drew w11) (Blk.lt bT_11)) hb13 (Blk.lt (Blk.ext bT_11 (below_drew w11) (Blk.lt bT_11))))))
  clear bT_11
  obtain ⟨⟨qT_14_0, qT_14_1⟩, -⟩ := id bT_14.all2
  have bw_14 := (Blk.ext (Blk.ext (Blk.ext bw_11 (below_drew w11) (Blk.lt bw_11)) hb13 (Blk.lt (Blk.ext bw_11 (below_drew w11) (Blk.lt bw_11)))) hb14 (Blk.lt (Blk.ext (Blk.ext bw_11 (below_drew w11) (Blk.lt bw_11)) hb13 (Blk.lt (Blk.ext bw_11 (below_drew w11) (Blk.lt bw_11))))))
  clear bw_11
  obtain ⟨⟨qw_14_0, qw_14_1⟩, -⟩ := id bw_14.all2
  have bxT_14 := (Blk.ext (Blk.ext (Blk.ext bxT_11 (below_drew w11) (Blk.lt bxT_11)) hb13 (Blk.lt (Blk.ext bxT_11 (below_drew w11) (Blk.lt bxT_11)))) hb14 (Blk.lt (Blk.ext (Blk.ext bxT_11 (below_drew w11) (Blk.lt bxT_11)) hb13 (Blk.lt (Blk.ext bxT_11 (below_drew w11) (Blk.lt bxT_11))))))
  clear bxT_11
  obtain ⟨⟨qxT_14_0, qxT_14_1⟩, -⟩ := id bxT_14.all2
  have bg_14 := (Blk.ext (Blk.ext (Blk.ext bg_11 (below_drew w11) (Blk.lt bg_11)) hb13 (Blk.lt (Blk.ext bg_11 (below_drew w11) (Blk.lt bg_11)))) hb14 (Blk.lt (Blk.ext (Blk.ext bg_11 (below_drew w11) (Blk.lt bg_11)) hb13 (Blk.lt (Blk.ext bg_11 (below_drew w11) (Blk.lt bg_11))))))
  clear bg_11
  obtain ⟨⟨qg_14_0, qg_14_1⟩, -⟩ := id bg_14.all2
  go_wp2_with fail
  refine (toIntS_any _ O _ (hv1O.ext hT14) hlO).mono ?_; rintro e w15 ⟨yy, rfl, hoyy, hb15⟩
  clear qT_14_0 qT_14_1 qw_14_0 qw_14_1 qxT_14_0 qxT_14_1 qg_14_0 qg_14_1
  have z15 : w14.heap.size ≤ w15.heap.size := hb15.size
  have hT15 : Below w0.heap.size w0 w15 := hT14.trans (hb15.mono (by omega))
  have bT_15 := (Blk.ext bT_14 hb15 (Blk.lt bT_14))
  clear bT_14
  obtain ⟨⟨qT_15_0, qT_15_1⟩, -⟩ := id bT_15.all2
  have bw_15 := (Blk.ext bw_14 hb15 (Blk.lt bw_14))
  clear bw_14
  obtain ⟨⟨qw_15_0, qw_15_1⟩, -⟩ := id bw_15.all2
  have bxT_15 := (Blk.ext bxT_14 hb15 (Blk.lt bxT_14))
  clear bxT_14
  obtain ⟨⟨qxT_15_0, qxT_15_1⟩, -⟩ := id bxT_15.all2
  have bg_15 := (Blk.ext bg_14 hb15 (Blk.lt bg_14))
  clear bg_14
  obtain ⟨⟨qg_15_0, qg_15_1⟩, -⟩ := id bg_15.all2
  go_wp2_with fail
  refine (eqIntS_yes _ _ O _ (Own.ints (((((((hoxO.ext hb9).ext hb10).ext hb11).ext (below_drew w11)).ext hb13).ext hb14).ext hb15)) (Own.ints hoyy)).mono ?_; rintro e w16 ⟨rfl, hb16⟩
  clear qT_15_0 qT_15_1 qw_15_0 qw_15_1 qxT_15_0 qxT_15_1 qg_15_0 qg_15_1
  have z16 : w15.heap.size ≤ w16.heap.size := hb16.size
  have hT16 : Below w0.heap.size w0 w16 := hT15.trans (hb16.mono (by omega))
  have bT_16 := (Blk.ext bT_15 hb16 (Blk.lt bT_15))
  clear bT_15
  obtain ⟨⟨qT_16_0, qT_16_1⟩, -⟩ := id bT_16.all2
  have bw_16 := (Blk.ext bw_15 hb16 (Blk.lt bw_15))
  clear bw_15
  obtain ⟨⟨qw_16_0, qw_16_1⟩, -⟩ := id bw_16.all2
  have bxT_16 := (Blk.ext bxT_15 hb16 (Blk.lt bxT_15))
  clear bxT_15
  obtain ⟨⟨qxT_16_0, qxT_16_1⟩, -⟩ := id bxT_16.all2
  have bg_16 := (Blk.ext bg_15 hb16 (Blk.lt bg_15))
  clear bg_15
  obtain ⟨⟨qg_16_0, qg_16_1⟩, -⟩ := id bg_16.all2
  clear hoyy
  go_wp2_with fail
  refine (markTensor_any _ _ T.shape T.values (1) w5.heap.size w5.heap.size w5.heap.size w6.heap.size _ ((((((((((hoxTs.ext hb7).ext hb8).ext hb9).ext hb10).ext hb11).ext (below_drew w11)).ext hb13).ext hb14).ext hb15).ext hb16) ((((((((((hoxTt.ext hb7).ext hb8).ext hb9).ext hb10).ext hb11).ext (below_drew w11)).ext hb13).ext hb14).ext hb15).ext hb16) sepxT sgxTs sgxTt hsz1T hsz2T (by omega)).mono ?_; rintro e w17 ⟨rfl, -, -, hb17⟩
  clear qT_16_0 qT_16_1 qw_16_0 qw_16_1 qxT_16_0 qxT_16_1 qg_16_0 qg_16_1
  have z17 : w16.heap.size ≤ w17.heap.size := hb17.size
  have hT17 : Below w0.heap.size w0 w17 := hT16.trans (hb17.below (by omega) (by omega))
  have bT_17 := (Blk.chg bT_16 hb17 (by omega))
  clear bT_16
  obtain ⟨⟨qT_17_0, qT_17_1⟩, -⟩ := id bT_17.all2
  have bw_17 := (Blk.chg bw_16 hb17 (by omega))
  clear bw_16
  obtain ⟨⟨qw_17_0, qw_17_1⟩, -⟩ := id bw_17.all2
  have bg_17 := (Blk.chg bg_16 hb17 (by omega))
  clear bg_16
  obtain ⟨⟨qg_17_0, qg_17_1⟩, -⟩ := id bg_17.all2
  go_wp2_with fail
  refine (markIntS_any _ O (1 + T.shape.length + T.values.length) _ _ (((((((((hoxO.ext hb9).ext hb10).ext hb11).ext (below_drew w11)).ext hb13).ext hb14).ext hb15).ext hb16).chg hb17 sgxO (by omega)) hlO (by omega)).mono ?_; rintro e w18 ⟨rfl, -, hw18⟩
  have hb18 := Chg.of_grown hw18 sgxO
  clear qT_17_0 qT_17_1 qw_17_0 qw_17_1 qg_17_0 qg_17_1
  have z18 : w17.heap.size ≤ w18.heap.size := hb18.size
  have hT18 : Below w0.heap.size w0 w18 := hT17.trans (hb18.below (by omega) (by omega))
  have bT_18 := (Blk.chg bT_17 hb18 (by omega))
  clear bT_17
  obtain ⟨⟨qT_18_0, qT_18_1⟩, -⟩ := id bT_18.all2
  have bw_18 := (Blk.chg bw_17 hb18 (by omega))
  clear bw_17
  obtain ⟨⟨qw_18_0, qw_18_1⟩, -⟩ := id bw_18.all2
  have bg_18 := (Blk.chg bg_17 hb18 (by omega))
  clear bg_17
  obtain ⟨⟨qg_18_0, qg_18_1⟩, -⟩ := id bg_18.all2
  go_wp2_with fail
  refine (eqTensor_yes _ _ (turnL T O) _ (Own.tensor (((((((((hogrs.ext hb10).ext hb11).ext (below_drew w11)).ext hb13).ext hb14).ext hb15).ext hb16).chg hb17 sggrs (by omega)).chg hb18 sggrs (by omega)) (((((((((hogrt.ext hb10).ext hb11).ext (below_drew w11)).ext hb13).ext hb14).ext hb15).ext hb16).chg hb17 sggrt (by omega)).chg hb18 sggrt (by omega))) (Own.tensor ((((((((((((((howrs.ext hb5).ext hb6).ext hb7).ext hb8).ext hb9).ext hb10).ext hb11).ext (below_drew w11)).ext hb13).ext hb14).ext hb15).ext hb16).chg hb17 sgwrs (by omega)).chg hb18 sgwrs (by omega)) ((((((((((((((howrt.ext hb5).ext hb6).ext hb7).ext hb8).ext hb9).ext hb10).ext hb11).ext (below_drew w11)).ext hb13).ext hb14).ext hb15).ext hb16).chg hb17 sgwrt (by omega)).chg hb18 sgwrt (by omega)))).mono ?_; rintro e w19 ⟨rfl, hb19⟩
  clear qT_18_0 qT_18_1 qw_18_0 qw_18_1 qg_18_0 qg_18_1
  have z19 : w18.heap.size ≤ w19.heap.size := hb19.size
  have hT19 : Below w0.heap.size w0 w19 := hT18.trans (hb19.mono (by omega))
  have bT_19 := (Blk.ext bT_18 hb19 (Blk.lt bT_18))
  clear bT_18
  obtain ⟨⟨qT_19_0, qT_19_1⟩, -⟩ := id bT_19.all2
  have bw_19 := (Blk.ext bw_18 hb19 (Blk.lt bw_18))
  clear bw_18
  obtain ⟨⟨qw_19_0, qw_19_1⟩, -⟩ := id bw_19.all2
  have bg_19 := (Blk.ext bg_18 hb19 (Blk.lt bg_18))
  clear bg_18
  obtain ⟨⟨qg_19_0, qg_19_1⟩, -⟩ := id bg_19.all2
  have hlr := turnL_len T O
  have hlr1 : (turnL T O).shape.length ≤ 1048576 := by omega
  have hlr2 : (turnL T O).values.length ≤ 1048576 := by omega
  go_wp2_with fail
  refine (markTensor_any _ _ (turnL T O).shape (turnL T O).values (1) w8.heap.size w8.heap.size w8.heap.size w9.heap.size _ ((((((((((hogrs.ext hb10).ext hb11).ext (below_drew w11)).ext hb13).ext hb14).ext hb15).ext hb16).chg hb17 sggrs (by omega)).chg hb18 sggrs (by omega)).ext hb19) ((((((((((hogrt.ext hb10).ext hb11).ext (below_drew w11)).ext hb13).ext hb14).ext hb15).ext hb16).chg hb17 sggrt (by omega)).chg hb18 sggrt (by omega)).ext hb19) sepg sggrs sggrt hlr1 hlr2 (by omega)).mono ?_; rintro e w20 ⟨rfl, hom1, hom2, hb20⟩
  clear qT_19_0 qT_19_1 qw_19_0 qw_19_1 qg_19_0 qg_19_1
  have z20 : w19.heap.size ≤ w20.heap.size := hb20.size
  have hT20 : Below w0.heap.size w0 w20 := hT19.trans (hb20.below (by omega) (by omega))
  have bT_20 := (Blk.chg bT_19 hb20 (by omega))
  clear bT_19
  obtain ⟨⟨qT_20_0, qT_20_1⟩, -⟩ := id bT_20.all2
  have bw_20 := (Blk.chg bw_19 hb20 (by omega))
  clear bw_19
  obtain ⟨⟨qw_20_0, qw_20_1⟩, -⟩ := id bw_20.all2
  have bg_20 := (Blk.chg bg_19 hb20 (by omega))
  clear bg_19
  obtain ⟨⟨qg_20_0, qg_20_1⟩, -⟩ := id bg_20.all2
  go_wp2_with fail
  refine (heldTensor_any _ _ (turnL T O).shape.length (turnL T O).values.length (1) _ (Own.ints hom1) (Own.ints hom2) hlr1 hlr2 (by omega)).mono ?_; rintro e w21 ⟨rfl, hb21⟩
  clear qT_20_0 qT_20_1 qw_20_0 qw_20_1 qg_20_0 qg_20_1
  have z21 : w20.heap.size ≤ w21.heap.size := hb21.size
  have hT21 : Below w0.heap.size w0 w21 := hT20.trans (hb21.mono (by omega))
  have bT_21 := (Blk.ext bT_20 hb21 (Blk.lt bT_20))
  clear bT_20
  obtain ⟨⟨qT_21_0, qT_21_1⟩, -⟩ := id bT_21.all2
  have bw_21 := (Blk.ext bw_20 hb21 (Blk.lt bw_20))
  clear bw_20
  obtain ⟨⟨qw_21_0, qw_21_1⟩, -⟩ := id bw_21.all2
  have bg_21 := (Blk.ext bg_20 hb21 (Blk.lt bg_20))
  clear bg_20
  obtain ⟨⟨qg_21_0, qg_21_1⟩, -⟩ := id bg_21.all2
  go_wp2_with fail
  refine (toTensor_any _ T _ (hv1T.ext hT21) hsz1T hsz2T).mono ?_; rintro e w22 ⟨xhTs, xhTt, rfl, hohTs, hohTt, sephT, hb22⟩
  clear qT_21_0 qT_21_1 qw_21_0 qw_21_1 qg_21_0 qg_21_1
  have z22 : w21.heap.size ≤ w22.heap.size := hb22.size
  have hT22 : Below w0.heap.size w0 w22 := hT21.trans (hb22.mono (by omega))
  have bT_22 := (Blk.ext bT_21 hb22 (Blk.lt bT_21))
  clear bT_21
  obtain ⟨⟨qT_22_0, qT_22_1⟩, -⟩ := id bT_22.all2
  have bw_22 := (Blk.ext bw_21 hb22 (Blk.lt bw_21))
  clear bw_21
  obtain ⟨⟨qw_22_0, qw_22_1⟩, -⟩ := id bw_22.all2
  have bg_22 := (Blk.ext bg_21 hb22 (Blk.lt bg_21))
  clear bg_21
  obtain ⟨⟨qg_22_0, qg_22_1⟩, -⟩ := id bg_22.all2
  go_wp2_with fail
  refine (toIntS_any _ O _ (hv1O.ext hT22) hlO).mono ?_; rintro e w23 ⟨xhO, rfl, hohO, hb23⟩
  clear qT_22_0 qT_22_1 qw_22_0 qw_22_1 qg_22_0 qg_22_1
  have z23 : w22.heap.size ≤ w23.heap.size := hb23.size
  have hT23 : Below w0.heap.size w0 w23 := hT22.trans (hb23.mono (by omega))
  have bT_23 := (Blk.ext bT_22 hb23 (Blk.lt bT_22))
  clear bT_22
  obtain ⟨⟨qT_23_0, qT_23_1⟩, -⟩ := id bT_23.all2
  have bw_23 := (Blk.ext bw_22 hb23 (Blk.lt bw_22))
  clear bw_22
  obtain ⟨⟨qw_23_0, qw_23_1⟩, -⟩ := id bw_23.all2
  have bg_23 := (Blk.ext bg_22 hb23 (Blk.lt bg_22))
  clear bg_22
  obtain ⟨⟨qg_23_0, qg_23_1⟩, -⟩ := id bg_23.all2
  go_wp2_with fail
  refine (TurnTensor_any _ _ T O _ (Own.tensor (hohTs.ext hb23) (hohTt.ext hb23)) (Own.ints hohO)).mono ?_; rintro e w24 ⟨rhs, rht, rfl, hohrs, hohrt, seph, hb24⟩
  clear qT_23_0 qT_23_1 qw_23_0 qw_23_1 qg_23_0 qg_23_1
  have z24 : w23.heap.size ≤ w24.heap.size := hb24.size
  have hT24 : Below w0.heap.size w0 w24 := hT23.trans (hb24.mono (by omega))
  have bT_24 := (Blk.ext bT_23 hb24 (Blk.lt bT_23))
  clear bT_23
  obtain ⟨⟨qT_24_0, qT_24_1⟩, -⟩ := id bT_24.all2
  have bw_24 := (Blk.ext bw_23 hb24 (Blk.lt bw_23))
  clear bw_23
  obtain ⟨⟨qw_24_0, qw_24_1⟩, -⟩ := id bw_24.all2
  have bg_24 := (Blk.ext bg_23 hb24 (Blk.lt bg_23))
  clear bg_23
  obtain ⟨⟨qg_24_0, qg_24_1⟩, -⟩ := id bg_24.all2
  have sghrs := hohrs.seg
  have sghrt := hohrt.seg
  obtain ⟨Ahs, chs, ehs⟩ := hohrs.form
  obtain ⟨Aht, cht, eht⟩ := hohrt.form
  subst ehs eht
  have bh_25 := Blk.new w24 75 #[.slice Ahs (turnL T O).shape.length chs, .slice Aht (turnL T O).values.length cht]
  have hb25 := below_alloc w24 (.cells #[.slice Ahs (turnL T O).shape.length chs, .slice Aht (turnL T O).values.length cht] 75)
  obtain ⟨mT_24_0, mT_24_1⟩ := (Blk.ext bT_24 (below_alloc w24 (.cells #[.slice Ahs (turnL T O).shape.length chs, .slice Aht (turnL T O).values.length cht] 75)) (Blk.lt bT_24)).all2.1
  obtain ⟨mw_24_0, mw_24_1⟩ := (Blk.ext bw_24 (below_alloc w24 (.cells #[.slice Ahs (turnL T O).shape.length chs, .slice Aht (turnL T O).values.length cht] 75)) (Blk.lt bw_24)).all2.1
  obtain ⟨mg_24_0, mg_24_1⟩ := (Blk.ext bg_24 (below_alloc w24 (.cells #[.slice Ahs (turnL T O).shape.length chs, .slice Aht (turnL T O).values.length cht] 75)) (Blk.lt bg_24)).all2.1
  go_wp2_with fail
  generalize w24.alloc (.cells #[.slice Ahs (turnL T O).shape.length chs, .slice Aht (turnL T O).values.length cht] 75) = w25 at *
  clear qT_24_0 qT_24_1 qw_24_0 qw_24_1 qg_24_0 qg_24_1 mT_24_0 mT_24_1 mw_24_0 mw_24_1 mg_24_0 mg_24_1
  have z25 : w24.heap.size ≤ w25.heap.size := hb25.size
  have hT25 : Below w0.heap.size w0 w25 := hT24.trans (hb25.mono (by omega))
  have zlh : w24.heap.size < w25.heap.size := bh_25.lt
  have bT_25 := (Blk.ext bT_24 hb25 (Blk.lt bT_24))
  clear bT_24
  obtain ⟨⟨qT_25_0, qT_25_1⟩, -⟩ := id bT_25.all2
  have bw_25 := (Blk.ext bw_24 hb25 (Blk.lt bw_24))
  clear bw_24
  obtain ⟨⟨qw_25_0, qw_25_1⟩, -⟩ := id bw_25.all2
  have bg_25 := (Blk.ext bg_24 hb25 (Blk.lt bg_24))
  clear bg_24
  obtain ⟨⟨qg_25_0, qg_25_1⟩, -⟩ := id bg_25.all2
  obtain ⟨⟨qh_25_0, qh_25_1⟩, -⟩ := id bh_25.all2
  go_wp2_with fail
  refine (eqTensor_yes _ _ (turnL T O) _ (Own.tensor (hohrs.ext hb25) (hohrt.ext hb25)) (Own.tensor (((((((((((((((((((((howrs.ext hb5).ext hb6).ext hb7).ext hb8).ext hb9).ext hb10).ext hb11).ext (below_drew w11)).ext hb13).ext hb14).ext hb15).ext hb16).chg hb17 sgwrs (by omega)).chg hb18 sgwrs (by omega)).ext hb19).chg hb20 sgwrs (by omega)).ext hb21).ext hb22).ext hb23).ext hb24).ext hb25) (((((((((((((((((((((howrt.ext hb5).ext hb6).ext hb7).ext hb8).ext hb9).ext hb10).ext hb11).ext (below_drew w11)).ext hb13).ext hb14).ext hb15).ext hb16).chg hb17 sgwrt (by omega)).chg hb18 sgwrt (by omega)).ext hb19).chg hb20 sgwrt (by omega)).ext hb21).ext hb22).ext hb23).ext hb24).ext hb25))).mono ?_; rintro e w26 ⟨rfl, hb26⟩
  clear qT_25_0 qT_25_1 qw_25_0 qw_25_1 qg_25_0 qg_25_1 qh_25_0 qh_25_1
  have z26 : w25.heap.size ≤ w26.heap.size := hb26.size
  have hT26 : Below w0.heap.size w0 w26 := hT25.trans (hb26.mono (by omega))
  have bT_26 := (Blk.ext bT_25 hb26 (Blk.lt bT_25))
  clear bT_25
  obtain ⟨⟨qT_26_0, qT_26_1⟩, -⟩ := id bT_26.all2
  have bw_26 := (Blk.ext bw_25 hb26 (Blk.lt bw_25))
  clear bw_25
  obtain ⟨⟨qw_26_0, qw_26_1⟩, -⟩ := id bw_26.all2
  have bg_26 := (Blk.ext bg_25 hb26 (Blk.lt bg_25))
  clear bg_25
  obtain ⟨⟨qg_26_0, qg_26_1⟩, -⟩ := id bg_26.all2
  have bh_26 := (Blk.ext bh_25 hb26 (Blk.lt bh_25))
  clear bh_25
  obtain ⟨⟨qh_26_0, qh_26_1⟩, -⟩ := id bh_26.all2
  go_wp2_with fail
  refine (heldTensor_any _ _ (turnL T O).shape.length (turnL T O).values.length (1) _ (Own.ints ((((((hom1.ext hb21).ext hb22).ext hb23).ext hb24).ext hb25).ext hb26)) (Own.ints ((((((hom2.ext hb21).ext hb22).ext hb23).ext hb24).ext hb25).ext hb26)) hlr1 hlr2 (by omega)).mono ?_; rintro e w27 ⟨rfl, hb27⟩
  clear qT_26_0 qT_26_1 qw_26_0 qw_26_1 qg_26_0 qg_26_1 qh_26_0 qh_26_1
  have z27 : w26.heap.size ≤ w27.heap.size := hb27.size
  have hT27 : Below w0.heap.size w0 w27 := hT26.trans (hb27.mono (by omega))
  have bT_27 := (Blk.ext bT_26 hb27 (Blk.lt bT_26))
  clear bT_26
  obtain ⟨⟨qT_27_0, qT_27_1⟩, -⟩ := id bT_27.all2
  have bw_27 := (Blk.ext bw_26 hb27 (Blk.lt bw_26))
  clear bw_26
  obtain ⟨⟨qw_27_0, qw_27_1⟩, -⟩ := id bw_27.all2
  have bg_27 := (Blk.ext bg_26 hb27 (Blk.lt bg_26))
  clear bg_26
  obtain ⟨⟨qg_27_0, qg_27_1⟩, -⟩ := id bg_27.all2
  have bh_27 := (Blk.ext bh_26 hb27 (Blk.lt bh_26))
  clear bh_26
  obtain ⟨⟨qh_27_0, qh_27_1⟩, -⟩ := id bh_27.all2
  go_wp2
  go_ret
  exact ⟨rfl, hW.trans (hT27.mono hW.size)⟩

end Go.Proofs.Ytldblcolnjkcaaa
