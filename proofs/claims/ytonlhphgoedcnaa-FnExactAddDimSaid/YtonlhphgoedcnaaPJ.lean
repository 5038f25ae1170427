/- The walks of exact laws: each answers true at every input and changes nothing that was there. No conditions. (printed by genlaw2.py) -/
import Derived.Test.YtonlhphgoedcnaaAD2
import Derived.Test.YtonlhphgoedcnaaAD4
import Derived.Test.YtonlhphgoedcnaaL2
import Derived.Deep.RegionHeld3
namespace Go.Proofs.Ytonlhphgoedcnaa
open Go.RowKit

set_option maxRecDepth 100000 in
set_option maxHeartbeats 3200000 in
theorem FnExactAddDim_walk (vV : Value) (V : VL) (D : Int) (w : World) (hvV : ViewV w vV V) (wfD : -9223372036854775808 ≤ D ∧ D ≤ 9223372036854775807) :
    Calls Try.prog 8 #[vV, .int .i64 D] w fun e w' => e = .returned (.bool true) ∧ Below w.heap.size w w' := by
  have hv0V := hvV
  obtain ⟨sV, tV, rfl, -, -⟩ := hvV
  obtain ⟨wfD1, wfD2⟩ := wfD
  have hW : Below w.heap.size w (w.alloc (.cells #[.int .i64 V.base, sV, tV] 46)) := Below.alloc (Below.refl w.heap.size w) (by simp <;> omega) (.cells #[.int .i64 V.base, sV, tV] 46)
  have bV_0 : Blk (w.alloc (.cells #[.int .i64 V.base, sV, tV] 46)) (w.heap.size) 46 #[.int .i64 V.base, sV, tV] := (Blk.new w 46 #[.int .i64 V.base, sV, tV])
  have hv1V := hv0V.ext hW
  by_cases hsV : 1048576 < V.shape.length + V.strides.length
  · have hzV : 1048576 < V.shape.length + V.strides.length := by omega
    go_enter Try.func8, Try.ntmps8
    go_wp2_with fail
    generalize (w.alloc (.cells #[.int .i64 V.base, sV, tV] 46)) = w0 at *
    have hT0 : Below w0.heap.size w0 w0 := Below.refl _ _
    have zlV : w.heap.size < w0.heap.size := bV_0.lt
    obtain ⟨⟨qV_0_0, qV_0_1, qV_0_2⟩, -⟩ := id bV_0.all3
    refine (szView_no _ V 1048576 _ (hv1V.ext hT0) hzV (by omega)).mono ?_; rintro e w1 ⟨rfl, hb1⟩
    clear qV_0_0 qV_0_1 qV_0_2
    have z1 : w0.heap.size ≤ w1.heap.size := hb1.size
    have hT1 : Below w0.heap.size w0 w1 := hT0.trans (hb1.mono (by omega))
    go_wp2
    go_ret
    exact ⟨rfl, hW.trans (hT1.mono hW.size)⟩
  have hsz1V : V.shape.length ≤ 1048576 := by omega
  have hsz2V : V.strides.length ≤ 1048576 := by omega
  go_enter Try.func8, Try.ntmps8
  go_wp2_with fail
  generalize (w.alloc (.cells #[.int .i64 V.base, sV, tV] 46)) = w0 at *
  have hT0 : Below w0.heap.size w0 w0 := Below.refl _ _
  have zlV : w.heap.size < w0.heap.size := bV_0.lt
  obtain ⟨⟨qV_0_0, qV_0_1, qV_0_2⟩, -⟩ := id bV_0.all3
  refine (szView_ok _ V 1048576 _ hv1V (by omega) (by omega)).mono ?_; rintro e w1 ⟨rfl, hb1⟩
  clear qV_0_0 qV_0_1 qV_0_2
  have z1 : w0.heap.size ≤ w1.heap.size := hb1.size
  have hT1 : Below w0.heap.size w0 w1 := hT0.trans (hb1.mono (by omega))
  have bV_1 := (Blk.ext bV_0 hb1 (Blk.lt bV_0))
  obtain ⟨⟨qV_1_0, qV_1_1, qV_1_2⟩, -⟩ := id bV_1.all3
  go_wp2_with fail
  refine (toView_any _ V _ (hv1V.ext hT1) hsz1V hsz2V).mono ?_; rintro e w2 ⟨xwVs, xwVt, rfl, howVs, howVt, sepwV, hb2⟩
  clear qV_1_0 qV_1_1 qV_1_2
  have z2 : w1.heap.size ≤ w2.heap.size := hb2.size
  have hT2 : Below w0.heap.size w0 w2 := hT1.trans (hb2.mono (by omega))
  have bV_2 := (Blk.ext bV_1 hb2 (Blk.lt bV_1))
  clear bV_1
  obtain ⟨⟨qV_2_0, qV_2_1, qV_2_2⟩, -⟩ := id bV_2.all3
  go_wp2_with fail
  refine (sAddDim_any _ V D _ (Own.view howVs howVt) ⟨wfD1, wfD2⟩).mono ?_; rintro e w3 ⟨rws, rwt, rfl, howrs, howrt, sepw, hb3⟩
  clear qV_2_0 qV_2_1 qV_2_2
  have z3 : w2.heap.size ≤ w3.heap.size := hb3.size
  have hT3 : Below w0.heap.size w0 w3 := hT2.trans (hb3.mono (by omega))
  have bV_3 := (Blk.ext bV_2 hb3 (Blk.lt bV_2))
  clear bV_2
  obtain ⟨⟨qV_3_0, qV_3_1, qV_3_2⟩, -⟩ := id bV_3.all3
  have sgwrs := howrs.seg
  have sgwrt := howrt.seg
  obtain ⟨Aws, cws, ews⟩ := howrs.form
  obtain ⟨Awt, cwt, ewt⟩ := howrt.form
  subst ews ewt
  have bw_4 := Blk.new w3 27 #[.int .i64 (addL V D).base, .slice Aws (addL V D).shape.length cws, .slice Awt (addL V D).strides.length cwt]
  have hb4 := below_alloc w3 (.cells #[.int .i64 (addL V D).base, .slice Aws (addL V D).shape.length cws, .slice Awt (addL V D).strides.length cwt] 27)
  obtain ⟨mV_3_0, mV_3_1, mV_3_2⟩ := (Blk.ext bV_3 (below_alloc w3 (.cells #[.int .i64 (addL V D).base, .slice Aws (addL V D).shape.length cws, .slice Awt (addL V D).strides.length cwt] 27)) (Blk.lt bV_3)).all3.1
  go_wp2_with fail
  generalize w3.alloc (.cells #[.int .i64 (addL V D).base, .slice Aws (addL V D).shape.length cws, .slice Awt (addL V D).strides.length cwt] 27) = w4 at *
  clear qV_3_0 qV_3_1 qV_3_2 mV_3_0 mV_3_1 mV_3_2
  have z4 : w3.heap.size ≤ w4.heap.size := hb4.size
  have hT4 : Below w0.heap.size w0 w4 := hT3.trans (hb4.mono (by omega))
  have zlw : w3.heap.size < w4.heap.size := bw_4.lt
  have bV_4 := (Blk.ext bV_3 hb4 (Blk.lt bV_3))
  clear bV_3
  obtain ⟨⟨qV_4_0, qV_4_1, qV_4_2⟩, -⟩ := id bV_4.all3
  obtain ⟨⟨qw_4_0, qw_4_1, qw_4_2⟩, -⟩ := id bw_4.all3
  go_wp2_with fail
  refine (toView_any _ V _ (hv1V.ext hT4) hsz1V hsz2V).mono ?_; rintro e w5 ⟨xxVs, xxVt, rfl, hoxVs, hoxVt, sepxV, hb5⟩
  clear qV_4_0 qV_4_1 qV_4_2 qw_4_0 qw_4_1 qw_4_2
  have z5 : w4.heap.size ≤ w5.heap.size := hb5.size
  have hT5 : Below w0.heap.size w0 w5 := hT4.trans (hb5.mono (by omega))
  have bV_5 := (Blk.ext bV_4 hb5 (Blk.lt bV_4))
  clear bV_4
  obtain ⟨⟨qV_5_0, qV_5_1, qV_5_2⟩, -⟩ := id bV_5.all3
  have bw_5 := (Blk.ext bw_4 hb5 (Blk.lt bw_4))
  clear bw_4
  obtain ⟨⟨qw_5_0, qw_5_1, qw_5_2⟩, -⟩ := id bw_5.all3
  have sgxVs := hoxVs.seg
  have sgxVt := hoxVt.seg
  obtain ⟨AxVs, cxVs, exVs⟩ := hoxVs.form
  obtain ⟨AxVt, cxVt, exVt⟩ := hoxVt.form
  subst exVs exVt
  have bxV_6 := Blk.new w5 27 #[.int .i64 V.base, .slice AxVs V.shape.length cxVs, .slice AxVt V.strides.length cxVt]
  have hb6 := below_alloc w5 (.cells #[.int .i64 V.base, .slice AxVs V.shape.length cxVs, .slice AxVt V.strides.length cxVt] 27)
  obtain ⟨mV_5_0, mV_5_1, mV_5_2⟩ := (Blk.ext bV_5 (below_alloc w5 (.cells #[.int .i64 V.base, .slice AxVs V.shape.length cxVs, .slice AxVt V.strides.length cxVt] 27)) (Blk.lt bV_5)).all3.1
  obtain ⟨mw_5_0, mw_5_1, mw_5_2⟩ := (Blk.ext bw_5 (below_alloc w5 (.cells #[.int .i64 V.base, .slice AxVs V.shape.length cxVs, .slice AxVt V.strides.length cxVt] 27)) (Blk.lt bw_5)).all3.1
  go_wp2_with fail
  generalize w5.alloc (.cells #[.int .i64 V.base, .slice AxVs V.shape.length cxVs, .slice AxVt V.strides.length cxVt] 27) = w6 at *
  clear qV_5_0 qV_5_1 qV_5_2 qw_5_0 qw_5_1 qw_5_2 mV_5_0 mV_5_1 mV_5_2 mw_5_0 mw_5_1 mw_5_2
  have z6 : w5.heap.size ≤ w6.heap.size := hb6.size
  have hT6 : Below w0.heap.size w0 w6 := hT5.trans (hb6.mono (by omega))
  have zlxV : w5.heap.size < w6.heap.size := bxV_6.lt
  have bV_6 := (Blk.ext bV_5 hb6 (Blk.lt bV_5))
  clear bV_5
  obtain ⟨⟨qV_6_0, qV_6_1, qV_6_2⟩, -⟩ := id bV_6.all3
  have bw_6 := (Blk.ext bw_5 hb6 (Blk.lt bw_5))
  clear bw_5
  obtain ⟨⟨qw_6_0, qw_6_1, qw_6_2⟩, -⟩ := id bw_6.all3
  obtain ⟨⟨qxV_6_0, qxV_6_1, qxV_6_2⟩, -⟩ := id bxV_6.all3
  go_wp2_with fail
  refine (AddDim_any _ V D _ (Own.view (hoxVs.ext hb6) (hoxVt.ext hb6)) ⟨wfD1, wfD2⟩).mono ?_; rintro e w7 ⟨rgs, rgt, rfl, hogrs, hogrt, sepg, hb7⟩
  clear qV_6_0 qV_6_1 qV_6_2 qw_6_0 qw_6_1 qw_6_2 qxV_6_0 qxV_6_1 qxV_6_2
  have z7 : w6.heap.size ≤ w7.heap.size := hb7.size
  have hT7 : Below w0.heap.size w0 w7 := hT6.trans (hb7.mono (by omega))
  have bV_7 := (Blk.ext bV_6 hb7 (Blk.lt bV_6))
  clear bV_6
  obtain ⟨⟨qV_7_0, qV_7_1, qV_7_2⟩, -⟩ := id bV_7.all3
  have bw_7 := (Blk.ext bw_6 hb7 (Blk.lt bw_6))
  clear bw_6
  obtain ⟨⟨qw_7_0, qw_7_1, qw_7_2⟩, -⟩ := id bw_7.all3
  have bxV_7 := (Blk.ext bxV_6 hb7 (Blk.lt bxV_6))
  clear bxV_6
  obtain ⟨⟨qxV_7_0, qxV_7_1, qxV_7_2⟩, -⟩ := id bxV_7.all3
  have sggrs := hogrs.seg
  have sggrt := hogrt.seg
  obtain ⟨Ags, cgs, egs⟩ := hogrs.form
  obtain ⟨Agt, cgt, egt⟩ := hogrt.form
  subst egs egt
  have bg_8 := Blk.new w7 27 #[.int .i64 (addL V D).base, .slice Ags (addL V D).shape.length cgs, .slice Agt (addL V D).strides.length cgt]
  have hb8 := below_alloc w7 (.cells #[.int .i64 (addL V D).base, .slice Ags (addL V D).shape.length cgs, .slice Agt (addL V D).strides.length cgt] 27)
  obtain ⟨mV_7_0, mV_7_1, mV_7_2⟩ := (Blk.ext bV_7 (below_alloc w7 (.cells #[.int .i64 (addL V D).base, .slice Ags (addL V D).shape.length cgs, .slice Agt (addL V D).strides.length cgt] 27)) (Blk.lt bV_7)).all3.1
  obtain ⟨mw_7_0, mw_7_1, mw_7_2⟩ := (Blk.ext bw_7 (below_alloc w7 (.cells #[.int .i64 (addL V D).base, .slice Ags (addL V D).shape.length cgs, .slice Agt (addL V D).strides.length cgt] 27)) (Blk.lt bw_7)).all3.1
  obtain ⟨mxV_7_0, mxV_7_1, mxV_7_2⟩ := (Blk.ext bxV_7 (below_alloc w7 (.cells #[.int .i64 (addL V D).base, .slice Ags (addL V D).shape.length cgs, .slice Agt (addL V D).strides.length cgt] 27)) (Blk.lt bxV_7)).all3.1
  go_wp2_with fail
  generalize w7.alloc (.cells #[.int .i64 (addL V D).base, .slice Ags (addL V D).shape.length cgs, .slice Agt (addL V D).strides.length cgt] 27) = w8 at *
  clear qV_7_0 qV_7_1 qV_7_2 qw_7_0 qw_7_1 qw_7_2 qxV_7_0 qxV_7_1 qxV_7_2 mV_7_0 mV_7_1 mV_7_2 mw_7_0 mw_7_1 mw_7_2 mxV_7_0 mxV_7_1 mxV_7_2
  have z8 : w7.heap.size ≤ w8.heap.size := hb8.size
  have hT8 : Below w0.heap.size w0 w8 := hT7.trans (hb8.mono (by omega))
  have zlg : w7.heap.size < w8.heap.size := bg_8.lt
  have bV_8 := (Blk.ext bV_7 hb8 (Blk.lt bV_7))
  clear bV_7
  obtain ⟨⟨qV_8_0, qV_8_1, qV_8_2⟩, -⟩ := id bV_8.all3
  have bw_8 := (Blk.ext bw_7 hb8 (Blk.lt bw_7))
  clear bw_7
  obtain ⟨⟨qw_8_0, qw_8_1, qw_8_2⟩, -⟩ := id bw_8.all3
  have bxV_8 := (Blk.ext bxV_7 hb8 (Blk.lt bxV_7))
  clear bxV_7
  obtain ⟨⟨qxV_8_0, qxV_8_1, qxV_8_2⟩, -⟩ := id bxV_8.all3
  obtain ⟨⟨qg_8_0, qg_8_1, qg_8_2⟩, -⟩ := id bg_8.all3
  go_wp2_with fail
  refine (eqView_yes _ _ (addL V D) _ (Own.view (hogrs.ext hb8) (hogrt.ext hb8)) (Own.view (((((howrs.ext hb4).ext hb5).ext hb6).ext hb7).ext hb8) (((((howrt.ext hb4).ext hb5).ext hb6).ext hb7).ext hb8))).mono ?_; rintro e w9 ⟨rfl, hb9⟩
  clear qV_8_0 qV_8_1 qV_8_2 qw_8_0 qw_8_1 qw_8_2 qxV_8_0 qxV_8_1 qxV_8_2 qg_8_0 qg_8_1 qg_8_2
  have z9 : w8.heap.size ≤ w9.heap.size := hb9.size
  have hT9 : Below w0.heap.size w0 w9 := hT8.trans (hb9.mono (by omega))
  have bV_9 := (Blk.ext bV_8 hb9 (Blk.lt bV_8))
  clear bV_8
  obtain ⟨⟨qV_9_0, qV_9_1, qV_9_2⟩, -⟩ := id bV_9.all3
  have bw_9 := (Blk.ext bw_8 hb9 (Blk.lt bw_8))
  clear bw_8
  obtain ⟨⟨qw_9_0, qw_9_1, qw_9_2⟩, -⟩ := id bw_9.all3
  have bxV_9 := (Blk.ext bxV_8 hb9 (Blk.lt bxV_8))
  clear bxV_8
  obtain ⟨⟨qxV_9_0, qxV_9_1, qxV_9_2⟩, -⟩ := id bxV_9.all3
  have bg_9 := (Blk.ext bg_8 hb9 (Blk.lt bg_8))
  clear bg_8
  obtain ⟨⟨qg_9_0, qg_9_1, qg_9_2⟩, -⟩ := id bg_9.all3
  go_wp2_with fail
  have hTd : Below w0.heap.size w0 w9.drew := hT9.drew
  have hoys := (((((hoxVs.ext hb6).ext hb7).ext hb8).ext hb9).ext (below_drew w9))
  have hoyt := (((((hoxVt.ext hb6).ext hb7).ext hb8).ext hb9).ext (below_drew w9))
  go_region_held3 (fun w' => w'.cell? ⟨w5.heap.size, 0, none⟩ = some (.int .i64 V.base) ∧ w'.cell? ⟨w5.heap.size, 1, none⟩ = some (.slice AxVs V.shape.length cxVs) ∧ w'.cell? ⟨w5.heap.size, 2, none⟩ = some (.slice AxVt V.strides.length cxVt) ∧ w'.cell? ⟨w.heap.size, 0, none⟩ = some (.int .i64 V.base) ∧ w'.cell? ⟨w.heap.size, 1, none⟩ = some (sV) ∧ w'.cell? ⟨w.heap.size, 2, none⟩ = some (tV))
    (first | go_keep | exact hK11 | exact hK12)
    (first
      | (go_at_call 36; refine (toView_any _ V _ (hv1V.ext hTd) hsz1V hsz2V).mono ?_; rintro e w11 ⟨ys, yt, rfl, hozs, hozt, -, hb11⟩; have hK11 : w11.cell? ⟨w5.heap.size, 0, none⟩ = some (.int .i64 V.base) ∧ w11.cell? ⟨w5.heap.size, 1, none⟩ = some (.slice AxVs V.shape.length cxVs) ∧ w11.cell? ⟨w5.heap.size, 2, none⟩ = some (.slice AxVt V.strides.length cxVt) ∧ w11.cell? ⟨w.heap.size, 0, none⟩ = some (.int .i64 V.base) ∧ w11.cell? ⟨w.heap.size, 1, none⟩ = some (sV) ∧ w11.cell? ⟨w.heap.size, 2, none⟩ = some (tV) := ⟨Blk.cell (Blk.ext (Blk.ext bxV_9 (below_drew w9) (Blk.lt bxV_9)) hb11 (Blk.lt (Blk.ext bxV_9 (below_drew w9) (Blk.lt bxV_9)))) 0, Blk.cell (Blk.ext (Blk.ext bxV_9 (below_drew w9) (Blk.lt bxV_9)) hb11 (Blk.lt (Blk.ext bxV_9 (below_drew w9) (Blk.lt bxV_9)))) 1, Blk.cell (Blk.ext (Blk.ext bxV_9 (below_drew w9) (Blk.lt bxV_9)) hb11 (Blk.lt (Blk.ext bxV_9 (below_drew w9) (Blk.lt bxV_9)))) 2, Blk.cell (Blk.ext (Blk.ext bV_9 (below_drew w9) (Blk.lt bV_9)) hb11 (Blk.lt (Blk.ext bV_9 (below_drew w9) (Blk.lt bV_9)))) 0, Blk.cell (Blk.ext (Blk.ext bV_9 (below_drew w9) (Blk.lt bV_9)) hb11 (Blk.lt (Blk.ext bV_9 (below_drew w9) (Blk.lt bV_9)))) 1, Blk.cell (Blk.ext (Blk.ext bV_9 (below_drew w9) (Blk.lt bV_9)) hb11 (Blk.lt (Blk.ext bV_9 (below_drew w9) (Blk.lt bV_9)))) 2⟩)
      | (go_at_call 19; refine (eqView_yes _ _ V _ (Own.view (hoys.ext hb11) (hoyt.ext hb11)) (Own.view hozs hozt)).mono ?_; rintro e w12 ⟨rfl, hb12⟩; have hK12 : w12.cell? ⟨w5.heap.size, 0, none⟩ = some (.int .i64 V.base) ∧ w12.cell? ⟨w5.heap.size, 1, none⟩ = some (.slice AxVs V.shape.length cxVs) ∧ w12.cell? ⟨w5.heap.size, 2, none⟩ = some (.slice AxVt V.strides.length cxVt) ∧ w12.cell? ⟨w.heap.size, 0, none⟩ = some (.int .i64 V.base) ∧ w12.cell? ⟨w.heap.size, 1, none⟩ = some (sV) ∧ w12.cell? ⟨w.heap.size, 2, none⟩ = some (tV) := ⟨Blk.cell (Blk.ext (Blk.ext (Blk.ext bxV_9 (below_drew w9) (Blk.lt bxV_9)) hb11 (Blk.lt (Blk.ext bxV_9 (below_drew w9) (Blk.lt bxV_9)))) hb12 (Blk.lt (Blk.ext (Blk.ext bxV_9 (below_drew w9) (Blk.lt bxV_9)) hb11 (Blk.lt (Blk.ext bxV_9 (below_drew w9) (Blk.lt bxV_9)))))) 0, Blk.cell (Blk.ext (Blk.ext (Blk.ext bxV_9 (below_drew w9) (Blk.lt bxV_9)) hb11 (Blk.lt (Blk.ext bxV_9 (below_drew w9) (Blk.lt bxV_9)))) hb12 (Blk.lt (Blk.ext (Blk.ext bxV_9 (below_drew w9) (Blk.lt bxV_9)) hb11 (Blk.lt (Blk.ext bxV_9 (below_drew w9) (Blk.lt bxV_9)))))) 1, Blk.cell (Blk.ext (Blk.ext (Blk.ext bxV_9 (below_drew w9) (Blk.lt bxV_9)) hb11 (Blk.lt (Blk.ext bxV_9 (below_drew w9) (Blk.lt bxV_9)))) hb12 (Blk.lt (Blk.ext (Blk.ext bxV_9 (below_drew w9) (Blk.lt bxV_9)) hb11 (Blk.lt (Blk.ext bxV_9 (below_drew w9) (Blk.lt bxV_9)))))) 2, Blk.cell (Blk.ext (Blk.ext (Blk.ext bV_9 (below_drew w9) (Blk.lt bV_9)) hb11 (Blk.lt (Blk.ext bV_9 (below_drew w9) (Blk.lt bV_9)))) hb12 (Blk.lt (Blk.ext (Blk.ext bV_9 (below_drew w9) (Blk.lt bV_9)) hb11 (Blk.lt (Blk.ext bV_9 (below_drew w9) (Blk.lt bV_9)))))) 0, Blk.cell (Blk.ext (Blk.ext (Blk.ext bV_9 (below_drew w9) (Blk.lt bV_9)) hb11 (Blk.lt (Blk.ext bV_9 (below_drew w9) (Blk.lt bV_9)))) hb12 (Blk.lt (Blk.ext (Blk.ext bV_9 (below_drew w9) (Blk.lt bV_9)) hb11 (Blk.lt (Blk.ext bV_9 (below_drew w9) (Blk.lt bV_9)))))) 1, Blk.cell (Blk.ext (Blk.ext (Blk.ext bV_9 (below_drew w9) (Blk.lt bV_9)) hb11 (Blk.lt (Blk.ext bV_9 (below_drew w9) (Blk.lt bV_9)))) hb12 (Blk.lt (Blk.ext (Blk.ext bV_9 (below_drew w9) (Blk.lt bV_9)) hb11 (Blk.lt (Blk.ext bV_9 (below_drew w9) (Blk.lt bV_9)))))) 2⟩))
  clear qV_9_0 qV_9_1 qV_9_2 qw_9_0 qw_9_1 qw_9_2 qxV_9_0 qxV_9_1 qxV_9_2 qg_9_0 qg_9_1 qg_9_2
  clear hK11 hK12 hoys hozs hoyt hozt
  have z10 : w9.heap.size ≤ w9.drew.heap.size := Nat.le_refl _
  have hT10 := hTd
  have z11 : w9.drew.heap.size ≤ w11.heap.size := hb11.size
  have hT11 : Below w0.heap.size w0 w11 := hT10.trans (hb11.mono (by omega))
  have z12 : w11.heap.size ≤ w12.heap.size := hb12.size
  have hT12 : Below w0.heap.size w0 w12 := hT11.trans (hb12.mono (by omega))
  clear hTd
  have bV_12 := (Blk.ext (Blk.ext (Blk.ext bV_9 (below_drew w9) (Blk.lt bV_9)) hb11 (Blk.lt (Blk.ext bV_9 (below_drew w9) (Blk.lt bV_9)))) hb12 (Blk.lt (Blk.ext (Blk.ext bV_9 (below_drew w9) (Blk.lt bV_9)) hb11 (Blk.lt (Blk.ext bV_9 (below_drew w9) (Blk.lt bV_9))))))
  clear bV_9
  obtain ⟨⟨qV_12_0, qV_12_1, qV_12_2⟩, -⟩ := id bV_12.all3
  have bw_12 := (Blk.ext (Blk.ext (Blk.ext bw_9 (below_drew w9) (Blk.lt bw_9)) hb11 (Blk.lt (Blk.ext bw_9 (below_drew w9) (Blk.lt bw_9)))) hb12 (Blk.lt (Blk.ext (Blk.ext bw_9 (below_drew w9) (Blk.lt bw_9)) hb11 (Blk.lt (Blk.ext bw_9 (below_drew w9) (Blk.lt bw_9))))))
  clear bw_9
  obtain ⟨⟨qw_12_0, qw_12_1, qw_12_2⟩, -⟩ := id bw_12.all3
  have bxV_12 := (Blk.ext (Blk.ext (Blk.ext bxV_9 (below_drew w9) (Blk.lt bxV_9)) hb11 (Blk.lt (Blk.ext bxV_9 (below_drew w9) (Blk.lt bxV_9)))) hb12 (Blk.lt (Blk.ext (Blk.ext bxV_9 (below_drew w9) (Blk.lt bxV_9)) hb11 (Blk.lt (Blk.ext bxV_9 (below_drew w9) (Blk.lt bxV_9))))))
  clear bxV_9
  obtain ⟨⟨qxV_12_0, qxV_12_1, qxV_12_2⟩, -⟩ := id bxV_12.all3
  have bg_12 := (Blk.ext (Blk.ext (Blk.ext bg_9 (below_drew w9) (Blk.lt bg_9)) hb11 (Blk.lt (Blk.ext bg_9 (below_drew w9) (Blk.lt bg_9)))) hb12 (Blk.lt (Blk.ext (Blk.ext bg_9 (below_drew w9) (Blk.lt bg_9)) hb11 (Blk.lt (Blk.ext bg_9 (below_drew w9) (Blk.lt bg_9))))))
  clear bg_9
  obtain ⟨⟨qg_12_0, qg_12_1, qg_12_2⟩, -⟩ := id bg_12.all3
  go_wp2_with fail
  refine (markView_any _ _ _ V.shape V.strides (1) w4.heap.size w4.heap.size w4.heap.size w5.heap.size _ (((((((hoxVs.ext hb6).ext hb7).ext hb8).ext hb9).ext (below_drew w9)).ext hb11).ext hb12) (((((((hoxVt.ext hb6).ext hb7).ext hb8).ext hb9).ext (below_drew w9)).ext hb11).ext hb12) sepxV sgxVs sgxVt hsz1V hsz2V (by omega)).mono ?_; rintro e w13 ⟨rfl, -, -, hb13⟩
  clear qV_12_0 qV_12_1 qV_12_2 qw_12_0 qw_12_1 qw_12_2 qxV_12_0 qxV_12_1 qxV_12_2 qg_12_0 qg_12_1 qg_12_2
  have z13 : w12.heap.size ≤ w13.heap.size := hb13.size
  have hT13 : Below w0.heap.size w0 w13 := hT12.trans (hb13.below (by omega) (by omega))
  have bV_13 := (Blk.chg bV_12 hb13 (by omega))
  clear bV_12
  obtain ⟨⟨qV_13_0, qV_13_1, qV_13_2⟩, -⟩ := id bV_13.all3
  have bw_13 := (Blk.chg bw_12 hb13 (by omega))
  clear bw_12
  obtain ⟨⟨qw_13_0, qw_13_1, qw_13_2⟩, -⟩ := id bw_13.all3
  have bg_13 := (Blk.chg bg_12 hb13 (by omega))
  clear bg_12
  obtain ⟨⟨qg_13_0, qg_13_1, qg_13_2⟩, -⟩ := id bg_13.all3
  go_wp2_with fail
  refine (eqView_yes _ _ (addL V D) _ (Own.view ((((((hogrs.ext hb8).ext hb9).ext (below_drew w9)).ext hb11).ext hb12).chg hb13 sggrs (by omega)) ((((((hogrt.ext hb8).ext hb9).ext (below_drew w9)).ext hb11).ext hb12).chg hb13 sggrt (by omega))) (Own.view ((((((((((howrs.ext hb4).ext hb5).ext hb6).ext hb7).ext hb8).ext hb9).ext (below_drew w9)).ext hb11).ext hb12).chg hb13 sgwrs (by omega)) ((((((((((howrt.ext hb4).ext hb5).ext hb6).ext hb7).ext hb8).ext hb9).ext (below_drew w9)).ext hb11).ext hb12).chg hb13 sgwrt (by omega)))).mono ?_; rintro e w14 ⟨rfl, hb14⟩
  clear qV_13_0 qV_13_1 qV_13_2 qw_13_0 qw_13_1 qw_13_2 qg_13_0 qg_13_1 qg_13_2
  have z14 : w13.heap.size ≤ w14.heap.size := hb14.size
  have hT14 : Below w0.heap.size w0 w14 := hT13.trans (hb14.mono (by omega))
  have bV_14 := (Blk.ext bV_13 hb14 (Blk.lt bV_13))
  clear bV_13
  obtain ⟨⟨qV_14_0, qV_14_1, qV_14_2⟩, -⟩ := id bV_14.all3
  have bw_14 := (Blk.ext bw_13 hb14 (Blk.lt bw_13))
  clear bw_13
  obtain ⟨⟨qw_14_0, qw_14_1, qw_14_2⟩, -⟩ := id bw_14.all3
  have bg_14 := (Blk.ext bg_13 hb14 (Blk.lt bg_13))
  clear bg_13
  obtain ⟨⟨qg_14_0, qg_14_1, qg_14_2⟩, -⟩ := id bg_14.all3
  have hlr := addL_len V D
  have hlr1 : (addL V D).shape.length ≤ 1048576 := by omega
  have hlr2 : (addL V D).strides.length ≤ 1048576 := by omega
  go_wp2_with fail
  refine (markView_any _ _ _ (addL V D).shape (addL V D).strides (1) w6.heap.size w6.heap.size w6.heap.size w7.heap.size _ (((((((hogrs.ext hb8).ext hb9).ext (below_drew w9)).ext hb11).ext hb12).chg hb13 sggrs (by omega)).ext hb14) (((((((hogrt.ext hb8).ext hb9).ext (below_drew w9)).ext hb11).ext hb12).chg hb13 sggrt (by omega)).ext hb14) sepg sggrs sggrt hlr1 hlr2 (by omega)).mono ?_; rintro e w15 ⟨rfl, hom1, hom2, hb15⟩
  clear qV_14_0 qV_14_1 qV_14_2 qw_14_0 qw_14_1 qw_14_2 qg_14_0 qg_14_1 qg_14_2
  have z15 : w14.heap.size ≤ w15.heap.size := hb15.size
  have hT15 : Below w0.heap.size w0 w15 := hT14.trans (hb15.below (by omega) (by omega))
  have bV_15 := (Blk.chg bV_14 hb15 (by omega))
  clear bV_14
  obtain ⟨⟨qV_15_0, qV_15_1, qV_15_2⟩, -⟩ := id bV_15.all3
  have bw_15 := (Blk.chg bw_14 hb15 (by omega))
  clear bw_14
  obtain ⟨⟨qw_15_0, qw_15_1, qw_15_2⟩, -⟩ := id bw_15.all3
  have bg_15 := (Blk.chg bg_14 hb15 (by omega))
  clear bg_14
  obtain ⟨⟨qg_15_0, qg_15_1, qg_15_2⟩, -⟩ := id bg_15.all3
  go_wp2_with fail
  refine (heldView_any _ _ _ (addL V D).shape.length (addL V D).strides.length (1) _ (Own.ints hom1) (Own.ints hom2) hlr1 hlr2 (by omega)).mono ?_; rintro e w16 ⟨rfl, hb16⟩
  clear qV_15_0 qV_15_1 qV_15_2 qw_15_0 qw_15_1 qw_15_2 qg_15_0 qg_15_1 qg_15_2
  have z16 : w15.heap.size ≤ w16.heap.size := hb16.size
  have hT16 : Below w0.heap.size w0 w16 := hT15.trans (hb16.mono (by omega))
  have bV_16 := (Blk.ext bV_15 hb16 (Blk.lt bV_15))
  clear bV_15
  obtain ⟨⟨qV_16_0, qV_16_1, qV_16_2⟩, -⟩ := id bV_16.all3
  have bw_16 := (Blk.ext bw_15 hb16 (Blk.lt bw_15))
  clear bw_15
  obtain ⟨⟨qw_16_0, qw_16_1, qw_16_2⟩, -⟩ := id bw_16.all3
  have bg_16 := (Blk.ext bg_15 hb16 (Blk.lt bg_15))
  clear bg_15
  obtain ⟨⟨qg_16_0, qg_16_1, qg_16_2⟩, -⟩ := id bg_16.all3
  go_wp2_with fail
  refine (toView_any _ V _ (hv1V.ext hT16) hsz1V hsz2V).mono ?_; rintro e w17 ⟨xhVs, xhVt, rfl, hohVs, hohVt, sephV, hb17⟩
  clear qV_16_0 qV_16_1 qV_16_2 qw_16_0 qw_16_1 qw_16_2 qg_16_0 qg_16_1 qg_16_2
  have z17 : w16.heap.size ≤ w17.heap.size := hb17.size
  have hT17 : Below w0.heap.size w0 w17 := hT16.trans (hb17.mono (by omega))
  have bV_17 := (Blk.ext bV_16 hb17 (Blk.lt bV_16))
  clear bV_16
  obtain ⟨⟨qV_17_0, qV_17_1, qV_17_2⟩, -⟩ := id bV_17.all3
  have bw_17 := (Blk.ext bw_16 hb17 (Blk.lt bw_16))
  clear bw_16
  obtain ⟨⟨qw_17_0, qw_17_1, qw_17_2⟩, -⟩ := id bw_17.all3
  have bg_17 := (Blk.ext bg_16 hb17 (Blk.lt bg_16))
  clear bg_16
  obtain ⟨⟨qg_17_0, qg_17_1, qg_17_2⟩, -⟩ := id bg_17.all3
  go_wp2_with fail
  refine (AddDim_any _ V D _ (Own.view hohVs hohVt) ⟨wfD1, wfD2⟩).mono ?_; rintro e w18 ⟨rhs, rht, rfl, hohrs, hohrt, seph, hb18⟩
  clear qV_17_0 qV_17_1 qV_17_2 qw_17_0 qw_17_1 qw_17_2 qg_17_0 qg_17_1 qg_17_2
  have z18 : w17.heap.size ≤ w18.heap.size := hb18.size
  have hT18 : Below w0.heap.size w0 w18 := hT17.trans (hb18.mono (by omega))
  have bV_18 := (Blk.ext bV_17 hb18 (Blk.lt bV_17))
  clear bV_17
  obtain ⟨⟨qV_18_0, qV_18_1, qV_18_2⟩, -⟩ := id bV_18.all3
  have bw_18 := (Blk.ext bw_17 hb18 (Blk.lt bw_17))
  clear bw_17
  obtain ⟨⟨qw_18_0, qw_18_1, qw_18_2⟩, -⟩ := id bw_18.all3
  have bg_18 := (Blk.ext bg_17 hb18 (Blk.lt bg_17))
  clear bg_17
  obtain ⟨⟨qg_18_0, qg_18_1, qg_18_2⟩, -⟩ := id bg_18.all3
  have sghrs := hohrs.seg
  have sghrt := hohrt.seg
  obtain ⟨Ahs, chs, ehs⟩ := hohrs.form
  obtain ⟨Aht, cht, eht⟩ := hohrt.form
  subst ehs eht
  have bh_19 := Blk.new w18 27 #[.int .i64 (addL V D).base, .slice Ahs (addL V D).shape.length chs, .slice Aht (addL V D).strides.length cht]
  have hb19 := below_alloc w18 (.cells #[.int .i64 (addL V D).base, .slice Ahs (addL V D).shape.length chs, .slice Aht (addL V D).strides.length cht] 27)
  obtain ⟨mV_18_0, mV_18_1, mV_18_2⟩ := (Blk.ext bV_18 (below_alloc w18 (.cells #[.int .i64 (addL V D).base, .slice Ahs (addL V D).shape.length chs, .slice Aht (addL V D).strides.length cht] 27)) (Blk.lt bV_18)).all3.1
  obtain ⟨mw_18_0, mw_18_1, mw_18_2⟩ := (Blk.ext bw_18 (below_alloc w18 (.cells #[.int .i64 (addL V D).base, .slice Ahs (addL V D).shape.length chs, .slice Aht (addL V D).strides.length cht] 27)) (Blk.lt bw_18)).all3.1
  obtain ⟨mg_18_0, mg_18_1, mg_18_2⟩ := (Blk.ext bg_18 (below_alloc w18 (.cells #[.int .i64 (addL V D).base, .slice Ahs (addL V D).shape.length chs, .slice Aht (addL V D).strides.length cht] 27)) (Blk.lt bg_18)).all3.1
  go_wp2_with fail
  generalize w18.alloc (.cells #[.int .i64 (addL V D).base, .slice Ahs (addL V D).shape.length chs, .slice Aht (addL V D).strides.length cht] 27) = w19 at *
  clear qV_18_0 qV_18_1 qV_18_2 qw_18_0 qw_18_1 qw_18_2 qg_18_0 qg_18_1 qg_18_2 mV_18_0 mV_18_1 mV_18_2 mw_18_0 mw_18_1 mw_18_2 mg_18_0 mg_18_1 mg_18_2
  have z19 : w18.heap.size ≤ w19.heap.size := hb19.size
  have hT19 : Below w0.heap.size w0 w19 := hT18.trans (hb19.mono (by omega))
  have zlh : w18.heap.size < w19.heap.size := bh_19.lt
  have bV_19 := (Blk.ext bV_18 hb19 (Blk.lt bV_18))
  clear bV_18
  obtain ⟨⟨qV_19_0, qV_19_1, qV_19_2⟩, -⟩ := id bV_19.all3
  have bw_19 := (Blk.ext bw_18 hb19 (Blk.lt bw_18))
  clear bw_18
  obtain ⟨⟨qw_19_0, qw_19_1, qw_19_2⟩, -⟩ := id bw_19.all3
  have bg_19 := (Blk.ext bg_18 hb19 (Blk.lt bg_18))
  clear bg_18
  obtain ⟨⟨qg_19_0, qg_19_1, qg_19_2⟩, -⟩ := id bg_19.all3
  obtain ⟨⟨qh_19_0, qh_19_1, qh_19_2⟩, -⟩ := id bh_19.all3
  go_wp2_with fail
  refine (eqView_yes _ _ (addL V D) _ (Own.view (hohrs.ext hb19) (hohrt.ext hb19)) (Own.view ((((((((((((((((howrs.ext hb4).ext hb5).ext hb6).ext hb7).ext hb8).ext hb9).ext (below_drew w9)).ext hb11).ext hb12).chg hb13 sgwrs (by omega)).ext hb14).chg hb15 sgwrs (by omega)).ext hb16).ext hb17).ext hb18).ext hb19) ((((((((((((((((howrt.ext hb4).ext hb5).ext hb6).ext hb7).ext hb8).ext hb9).ext (below_drew w9)).ext hb11).ext hb12).chg hb13 sgwrt (by omega)).ext hb14).chg hb15 sgwrt (by omega)).ext hb16).ext hb17).ext hb18).ext hb19))).mono ?_; rintro e w20 ⟨rfl, hb20⟩
  clear qV_19_0 qV_19_1 qV_19_2 qw_19_0 qw_19_1 qw_19_2 qg_19_0 qg_19_1 qg_19_2 qh_19_0 qh_19_1 qh_19_2
  have z20 : w19.heap.size ≤ w20.heap.size := hb20.size
  have hT20 : Below w0.heap.size w0 w20 := hT19.trans (hb20.mono (by omega))
  have bV_20 := (Blk.ext bV_19 hb20 (Blk.lt bV_19))
  clear bV_19
  obtain ⟨⟨qV_20_0, qV_20_1, qV_20_2⟩, -⟩ := id bV_20.all3
  have bw_20 := (Blk.ext bw_19 hb20 (Blk.lt bw_19))
  clear bw_19
  obtain ⟨⟨qw_20_0, qw_20_1, qw_20_2⟩, -⟩ := id bw_20.all3
  have bg_20 := (Blk.ext bg_19 hb20 (Blk.lt bg_19))
  clear bg_19
  obtain ⟨⟨qg_20_0, qg_20_1, qg_20_2⟩, -⟩ := id bg_20.all3
  have bh_20 := (Blk.ext bh_19 hb20 (Blk.lt bh_19))
  clear bh_19
  obtain ⟨⟨qh_20_0, qh_20_1, qh_20_2⟩, -⟩ := id bh_20.all3
  go_wp2_with fail
  refine (heldView_any _ _ _ (addL V D).shape.length (addL V D).strides.length (1) _ (Own.ints (((((hom1.ext hb16).ext hb17).ext hb18).ext hb19).ext hb20)) (Own.ints (((((hom2.ext hb16).ext hb17).ext hb18).ext hb19).ext hb20)) hlr1 hlr2 (by omega)).mono ?_; rintro e w21 ⟨rfl, hb21⟩
  clear qV_20_0 qV_20_1 qV_20_2 qw_20_0 qw_20_1 qw_20_2 qg_20_0 qg_20_1 qg_20_2 qh_20_0 qh_20_1 qh_20_2
  have z21 : w20.heap.size ≤ w21.heap.size := hb21.size
  have hT21 : Below w0.heap.size w0 w21 := hT20.trans (hb21.mono (by omega))
  have bV_21 := (Blk.ext bV_20 hb21 (Blk.lt bV_20))
  clear bV_20
  obtain ⟨⟨qV_21_0, qV_21_1, qV_21_2⟩, -⟩ := id bV_21.all3
  have bw_21 := (Blk.ext bw_20 hb21 (Blk.lt bw_20))
  clear bw_20
  obtain ⟨⟨qw_21_0, qw_21_1, qw_21_2⟩, -⟩ := id bw_21.all3
  have bg_21 := (Blk.ext bg_20 hb21 (Blk.lt bg_20))
  clear bg_20
  obtain ⟨⟨qg_21_0, qg_21_1, qg_21_2⟩, -⟩ := id bg_21.all3
  have bh_21 := (Blk.ext bh_20 hb21 (Blk.lt bh_20))
  clear bh_20
  obtain ⟨⟨qh_21_0, qh_21_1, qh_21_2⟩, -⟩ := id bh_21.all3
  go_wp2
  go_ret
  exact ⟨rfl, hW.trans (hT21.mono hW.size)⟩

end Go.Proofs.Ytonlhphgoedcnaa
