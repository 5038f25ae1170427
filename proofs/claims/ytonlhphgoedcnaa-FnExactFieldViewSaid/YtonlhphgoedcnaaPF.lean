/- The walks of exact laws: each answers true at every input and changes nothing that was there. No conditions. (printed by genlaw2.py) -/
import Derived.Test.YtonlhphgoedcnaaU2
import Derived.Test.YtonlhphgoedcnaaU3
import Derived.Test.YtonlhphgoedcnaaL2
import Derived.Test.YtonlhphgoedcnaaL4
import Derived.Deep.RegionHeld3
namespace Go.Proofs.Ytonlhphgoedcnaa
open Go.RowKit

set_option maxRecDepth 100000 in
set_option maxHeartbeats 3200000 in
theorem FnExactFieldView_walk (vF : Value) (F : FL) (K : Int) (M : Int) (w : World) (hvF : FormatV w vF F) (wfK : -9223372036854775808 ≤ K ∧ K ≤ 9223372036854775807) (wfM : -9223372036854775808 ≤ M ∧ M ≤ 9223372036854775807) :
    Calls Try.prog 3 #[vF, .int .i64 K, .int .i64 M] w fun e w' => e = .returned (.bool true) ∧ Below w.heap.size w w' := by
  have hv0F := hvF
  obtain ⟨sF, rfl, -⟩ := hvF
  obtain ⟨wfK1, wfK2⟩ := wfK
  obtain ⟨wfM1, wfM2⟩ := wfM
  have hW : Below w.heap.size w (w.alloc (.cells #[sF, .bool F.big, .bool F.aligned] 24)) := Below.alloc (Below.refl w.heap.size w) (by simp <;> omega) (.cells #[sF, .bool F.big, .bool F.aligned] 24)
  have bF_0 : Blk (w.alloc (.cells #[sF, .bool F.big, .bool F.aligned] 24)) (w.heap.size) 24 #[sF, .bool F.big, .bool F.aligned] := (Blk.new w 24 #[sF, .bool F.big, .bool F.aligned])
  have hv1F := hv0F.ext hW
  by_cases hsF : 1048576 < F.sizes.length
  · have hzF : 1048576 < F.sizes.length := by omega
    go_enter Try.func3, Try.ntmps3
    go_wp2_with fail
    generalize (w.alloc (.cells #[sF, .bool F.big, .bool F.aligned] 24)) = w0 at *
    have hT0 : Below w0.heap.size w0 w0 := Below.refl _ _
    have zlF : w.heap.size < w0.heap.size := bF_0.lt
    obtain ⟨⟨qF_0_0, qF_0_1, qF_0_2⟩, -⟩ := id bF_0.all3
    refine (szFormat_no _ F 1048576 _ (hv1F.ext hT0) hzF (by omega)).mono ?_; rintro e w1 ⟨rfl, hb1⟩
    clear qF_0_0 qF_0_1 qF_0_2
    have z1 : w0.heap.size ≤ w1.heap.size := hb1.size
    have hT1 : Below w0.heap.size w0 w1 := hT0.trans (hb1.mono (by omega))
    go_wp2
    go_ret
    exact ⟨rfl, hW.trans (hT1.mono hW.size)⟩
  have hsz1F : F.sizes.length ≤ 1048576 := by omega
  go_enter Try.func3, Try.ntmps3
  go_wp2_with fail
  generalize (w.alloc (.cells #[sF, .bool F.big, .bool F.aligned] 24)) = w0 at *
  have hT0 : Below w0.heap.size w0 w0 := Below.refl _ _
  have zlF : w.heap.size < w0.heap.size := bF_0.lt
  obtain ⟨⟨qF_0_0, qF_0_1, qF_0_2⟩, -⟩ := id bF_0.all3
  refine (szFormat_ok _ F 1048576 _ hv1F (by omega) (by omega)).mono ?_; rintro e w1 ⟨rfl, hb1⟩
  clear qF_0_0 qF_0_1 qF_0_2
  have z1 : w0.heap.size ≤ w1.heap.size := hb1.size
  have hT1 : Below w0.heap.size w0 w1 := hT0.trans (hb1.mono (by omega))
  have bF_1 := (Blk.ext bF_0 hb1 (Blk.lt bF_0))
  obtain ⟨⟨qF_1_0, qF_1_1, qF_1_2⟩, -⟩ := id bF_1.all3
  go_wp2_with fail
  refine (toFormat_any _ F _ (hv1F.ext hT1) hsz1F).mono ?_; rintro e w2 ⟨xwFs, rfl, howFs, hb2⟩
  clear qF_1_0 qF_1_1 qF_1_2
  have z2 : w1.heap.size ≤ w2.heap.size := hb2.size
  have hT2 : Below w0.heap.size w0 w2 := hT1.trans (hb2.mono (by omega))
  have bF_2 := (Blk.ext bF_1 hb2 (Blk.lt bF_1))
  clear bF_1
  obtain ⟨⟨qF_2_0, qF_2_1, qF_2_2⟩, -⟩ := id bF_2.all3
  go_wp2_with fail
  refine (sFieldView_any _ F K M _ (Own.format howFs) ⟨wfK1, wfK2⟩ ⟨wfM1, wfM2⟩).mono ?_; rintro e w3 ⟨rws, rwt, rfl, howrs, howrt, sepw, hb3⟩
  clear qF_2_0 qF_2_1 qF_2_2
  have z3 : w2.heap.size ≤ w3.heap.size := hb3.size
  have hT3 : Below w0.heap.size w0 w3 := hT2.trans (hb3.mono (by omega))
  have bF_3 := (Blk.ext bF_2 hb3 (Blk.lt bF_2))
  clear bF_2
  obtain ⟨⟨qF_3_0, qF_3_1, qF_3_2⟩, -⟩ := id bF_3.all3
  have sgwrs := howrs.seg
  have sgwrt := howrt.seg
  obtain ⟨Aws, cws, ews⟩ := howrs.form
  obtain ⟨Awt, cwt, ewt⟩ := howrt.form
  subst ews ewt
  have bw_4 := Blk.new w3 27 #[.int .i64 (fvL F K M).base, .slice Aws (fvL F K M).shape.length cws, .slice Awt (fvL F K M).strides.length cwt]
  have hb4 := below_alloc w3 (.cells #[.int .i64 (fvL F K M).base, .slice Aws (fvL F K M).shape.length cws, .slice Awt (fvL F K M).strides.length cwt] 27)
  obtain ⟨mF_3_0, mF_3_1, mF_3_2⟩ := (Blk.ext bF_3 (below_alloc w3 (.cells #[.int .i64 (fvL F K M).base, .slice Aws (fvL F K M).shape.length cws, .slice Awt (fvL F K M).strides.length cwt] 27)) (Blk.lt bF_3)).all3.1
  go_wp2_with fail
  generalize w3.alloc (.cells #[.int .i64 (fvL F K M).base, .slice Aws (fvL F K M).shape.length cws, .slice Awt (fvL F K M).strides.length cwt] 27) = w4 at *
  clear qF_3_0 qF_3_1 qF_3_2 mF_3_0 mF_3_1 mF_3_2
  have z4 : w3.heap.size ≤ w4.heap.size := hb4.size
  have hT4 : Below w0.heap.size w0 w4 := hT3.trans (hb4.mono (by omega))
  have zlw : w3.heap.size < w4.heap.size := bw_4.lt
  have bF_4 := (Blk.ext bF_3 hb4 (Blk.lt bF_3))
  clear bF_3
  obtain ⟨⟨qF_4_0, qF_4_1, qF_4_2⟩, -⟩ := id bF_4.all3
  obtain ⟨⟨qw_4_0, qw_4_1, qw_4_2⟩, -⟩ := id bw_4.all3
  go_wp2_with fail
  refine (toFormat_any _ F _ (hv1F.ext hT4) hsz1F).mono ?_; rintro e w5 ⟨xxFs, rfl, hoxFs, hb5⟩
  clear qF_4_0 qF_4_1 qF_4_2 qw_4_0 qw_4_1 qw_4_2
  have z5 : w4.heap.size ≤ w5.heap.size := hb5.size
  have hT5 : Below w0.heap.size w0 w5 := hT4.trans (hb5.mono (by omega))
  have bF_5 := (Blk.ext bF_4 hb5 (Blk.lt bF_4))
  clear bF_4
  obtain ⟨⟨qF_5_0, qF_5_1, qF_5_2⟩, -⟩ := id bF_5.all3
  have bw_5 := (Blk.ext bw_4 hb5 (Blk.lt bw_4))
  clear bw_4
  obtain ⟨⟨qw_5_0, qw_5_1, qw_5_2⟩, -⟩ := id bw_5.all3
  have sgxFs := hoxFs.seg
  obtain ⟨AxFs, cxFs, exFs⟩ := hoxFs.form
  subst exFs
  have bxF_6 := Blk.new w5 30 #[.slice AxFs F.sizes.length cxFs, .bool F.big, .bool F.aligned]
  have hb6 := below_alloc w5 (.cells #[.slice AxFs F.sizes.length cxFs, .bool F.big, .bool F.aligned] 30)
  obtain ⟨mF_5_0, mF_5_1, mF_5_2⟩ := (Blk.ext bF_5 (below_alloc w5 (.cells #[.slice AxFs F.sizes.length cxFs, .bool F.big, .bool F.aligned] 30)) (Blk.lt bF_5)).all3.1
  obtain ⟨mw_5_0, mw_5_1, mw_5_2⟩ := (Blk.ext bw_5 (below_alloc w5 (.cells #[.slice AxFs F.sizes.length cxFs, .bool F.big, .bool F.aligned] 30)) (Blk.lt bw_5)).all3.1
  go_wp2_with fail
  generalize w5.alloc (.cells #[.slice AxFs F.sizes.length cxFs, .bool F.big, .bool F.aligned] 30) = w6 at *
  clear qF_5_0 qF_5_1 qF_5_2 qw_5_0 qw_5_1 qw_5_2 mF_5_0 mF_5_1 mF_5_2 mw_5_0 mw_5_1 mw_5_2
  have z6 : w5.heap.size ≤ w6.heap.size := hb6.size
  have hT6 : Below w0.heap.size w0 w6 := hT5.trans (hb6.mono (by omega))
  have zlxF : w5.heap.size < w6.heap.size := bxF_6.lt
  have bF_6 := (Blk.ext bF_5 hb6 (Blk.lt bF_5))
  clear bF_5
  obtain ⟨⟨qF_6_0, qF_6_1, qF_6_2⟩, -⟩ := id bF_6.all3
  have bw_6 := (Blk.ext bw_5 hb6 (Blk.lt bw_5))
  clear bw_5
  obtain ⟨⟨qw_6_0, qw_6_1, qw_6_2⟩, -⟩ := id bw_6.all3
  obtain ⟨⟨qxF_6_0, qxF_6_1, qxF_6_2⟩, -⟩ := id bxF_6.all3
  go_wp2_with fail
  refine (FieldView_any _ F K M _ (Own.format (hoxFs.ext hb6)) ⟨wfK1, wfK2⟩ ⟨wfM1, wfM2⟩).mono ?_; rintro e w7 ⟨rgs, rgt, rfl, hogrs, hogrt, sepg, hb7⟩
  clear qF_6_0 qF_6_1 qF_6_2 qw_6_0 qw_6_1 qw_6_2 qxF_6_0 qxF_6_1 qxF_6_2
  have z7 : w6.heap.size ≤ w7.heap.size := hb7.size
  have hT7 : Below w0.heap.size w0 w7 := hT6.trans (hb7.mono (by omega))
  have bF_7 := (Blk.ext bF_6 hb7 (Blk.lt bF_6))
  clear bF_6
  obtain ⟨⟨qF_7_0, qF_7_1, qF_7_2⟩, -⟩ := id bF_7.all3
  have bw_7 := (Blk.ext bw_6 hb7 (Blk.lt bw_6))
  clear bw_6
  obtain ⟨⟨qw_7_0, qw_7_1, qw_7_2⟩, -⟩ := id bw_7.all3
  have bxF_7 := (Blk.ext bxF_6 hb7 (Blk.lt bxF_6))
  clear bxF_6
  obtain ⟨⟨qxF_7_0, qxF_7_1, qxF_7_2⟩, -⟩ := id bxF_7.all3
  have sggrs := hogrs.seg
  have sggrt := hogrt.seg
  obtain ⟨Ags, cgs, egs⟩ := hogrs.form
  obtain ⟨Agt, cgt, egt⟩ := hogrt.form
  subst egs egt
  have bg_8 := Blk.new w7 27 #[.int .i64 (fvL F K M).base, .slice Ags (fvL F K M).shape.length cgs, .slice Agt (fvL F K M).strides.length cgt]
  have hb8 := below_alloc w7 (.cells #[.int .i64 (fvL F K M).base, .slice Ags (fvL F K M).shape.length cgs, .slice Agt (fvL F K M).strides.length cgt] 27)
  obtain ⟨mF_7_0, mF_7_1, mF_7_2⟩ := (Blk.ext bF_7 (below_alloc w7 (.cells #[.int .i64 (fvL F K M).base, .slice Ags (fvL F K M).shape.length cgs, .slice Agt (fvL F K M).strides.length cgt] 27)) (Blk.lt bF_7)).all3.1
  obtain ⟨mw_7_0, mw_7_1, mw_7_2⟩ := (Blk.ext bw_7 (below_alloc w7 (.cells #[.int .i64 (fvL F K M).base, .slice Ags (fvL F K M).shape.length cgs, .slice Agt (fvL F K M).strides.length cgt] 27)) (Blk.lt bw_7)).all3.1
  obtain ⟨mxF_7_0, mxF_7_1, mxF_7_2⟩ := (Blk.ext bxF_7 (below_alloc w7 (.cells #[.int .i64 (fvL F K M).base, .slice Ags (fvL F K M).shape.length cgs, .slice Agt (fvL F K M).strides.length cgt] 27)) (Blk.lt bxF_7)).all3.1
  go_wp2_with fail
  generalize w7.alloc (.cells #[.int .i64 (fvL F K M).base, .slice Ags (fvL F K M).shape.length cgs, .slice Agt (fvL F K M).strides.length cgt] 27) = w8 at *
  clear qF_7_0 qF_7_1 qF_7_2 qw_7_0 qw_7_1 qw_7_2 qxF_7_0 qxF_7_1 qxF_7_2 mF_7_0 mF_7_1 mF_7_2 mw_7_0 mw_7_1 mw_7_2 mxF_7_0 mxF_7_1 mxF_7_2
  have z8 : w7.heap.size ≤ w8.heap.size := hb8.size
  have hT8 : Below w0.heap.size w0 w8 := hT7.trans (hb8.mono (by omega))
  have zlg : w7.heap.size < w8.heap.size := bg_8.lt
  have bF_8 := (Blk.ext bF_7 hb8 (Blk.lt bF_7))
  clear bF_7
  obtain ⟨⟨qF_8_0, qF_8_1, qF_8_2⟩, -⟩ := id bF_8.all3
  have bw_8 := (Blk.ext bw_7 hb8 (Blk.lt bw_7))
  clear bw_7
  obtain ⟨⟨qw_8_0, qw_8_1, qw_8_2⟩, -⟩ := id bw_8.all3
  have bxF_8 := (Blk.ext bxF_7 hb8 (Blk.lt bxF_7))
  clear bxF_7
  obtain ⟨⟨qxF_8_0, qxF_8_1, qxF_8_2⟩, -⟩ := id bxF_8.all3
  obtain ⟨⟨qg_8_0, qg_8_1, qg_8_2⟩, -⟩ := id bg_8.all3
  go_wp2_with fail
  refine (eqView_yes _ _ (fvL F K M) _ (Own.view (hogrs.ext hb8) (hogrt.ext hb8)) (Own.view (((((howrs.ext hb4).ext hb5).ext hb6).ext hb7).ext hb8) (((((howrt.ext hb4).ext hb5).ext hb6).ext hb7).ext hb8))).mono ?_; rintro e w9 ⟨rfl, hb9⟩
  clear qF_8_0 qF_8_1 qF_8_2 qw_8_0 qw_8_1 qw_8_2 qxF_8_0 qxF_8_1 qxF_8_2 qg_8_0 qg_8_1 qg_8_2
  have z9 : w8.heap.size ≤ w9.heap.size := hb9.size
  have hT9 : Below w0.heap.size w0 w9 := hT8.trans (hb9.mono (by omega))
  have bF_9 := (Blk.ext bF_8 hb9 (Blk.lt bF_8))
  clear bF_8
  obtain ⟨⟨qF_9_0, qF_9_1, qF_9_2⟩, -⟩ := id bF_9.all3
  have bw_9 := (Blk.ext bw_8 hb9 (Blk.lt bw_8))
  clear bw_8
  obtain ⟨⟨qw_9_0, qw_9_1, qw_9_2⟩, -⟩ := id bw_9.all3
  have bxF_9 := (Blk.ext bxF_8 hb9 (Blk.lt bxF_8))
  clear bxF_8
  obtain ⟨⟨qxF_9_0, qxF_9_1, qxF_9_2⟩, -⟩ := id bxF_9.all3
  have bg_9 := (Blk.ext bg_8 hb9 (Blk.lt bg_8))
  clear bg_8
  obtain ⟨⟨qg_9_0, qg_9_1, qg_9_2⟩, -⟩ := id bg_9.all3
  go_wp2_with fail
  have hTd : Below w0.heap.size w0 w9.drew := hT9.drew
  have hoys := (((((hoxFs.ext hb6).ext hb7).ext hb8).ext hb9).ext (below_drew w9))
  go_region_held3 (fun w' => w'.cell? ⟨w5.heap.size, 0, none⟩ = some (.slice AxFs F.sizes.length cxFs) ∧ w'.cell? ⟨w5.heap.size, 1, none⟩ = some (.bool F.big) ∧ w'.cell? ⟨w5.heap.size, 2, none⟩ = some (.bool F.aligned) ∧ w'.cell? ⟨w.heap.size, 0, none⟩ = some (sF) ∧ w'.cell? ⟨w.heap.size, 1, none⟩ = some (.bool F.big) ∧ w'.cell? ⟨w.heap.size, 2, none⟩ = some (.bool F.aligned))
    (first | go_keep | exact hK11 | exact hK12)
    (first
      | (go_at_call 17; refine (toFormat_any _ F _ (hv1F.ext hTd) hsz1F).mono ?_; rintro e w11 ⟨ys, rfl, hozs, hb11⟩; have hK11 : w11.cell? ⟨w5.heap.size, 0, none⟩ = some (.slice AxFs F.sizes.length cxFs) ∧ w11.cell? ⟨w5.heap.size, 1, none⟩ = some (.bool F.big) ∧ w11.cell? ⟨w5.heap.size, 2, none⟩ = some (.bool F.aligned) ∧ w11.cell? ⟨w.heap.size, 0, none⟩ = some (sF) ∧ w11.cell? ⟨w.heap.size, 1, none⟩ = some (.bool F.big) ∧ w11.cell? ⟨w.heap.size, 2, none⟩ = some (.bool F.aligned) := ⟨Blk.cell (Blk.ext (Blk.ext bxF_9 (below_drew w9) (Blk.lt bxF_9)) hb11 (Blk.lt (Blk.ext bxF_9 (below_drew w9) (Blk.lt bxF_9)))) 0, Blk.cell (Blk.ext (Blk.ext bxF_9 (below_drew w9) (Blk.lt bxF_9)) hb11 (Blk.lt (Blk.ext bxF_9 (below_drew w9) (Blk.lt bxF_9)))) 1, Blk.cell (Blk.ext (Blk.ext bxF_9 (below_drew w9) (Blk.lt bxF_9)) hb11 (Blk.lt (Blk.ext bxF_9 (below_drew w9) (Blk.lt bxF_9)))) 2, Blk.cell (Blk.ext (Blk.ext bF_9 (below_drew w9) (Blk.lt bF_9)) hb11 (Blk.lt (Blk.ext bF_9 (below_drew w9) (Blk.lt bF_9)))) 0, Blk.cell (Blk.ext (Blk.ext bF_9 (below_drew w9) (Blk.lt bF_9)) hb11 (Blk.lt (Blk.ext bF_9 (below_drew w9) (Blk.lt bF_9)))) 1, Blk.cell (Blk.ext (Blk.ext bF_9 (below_drew w9) (Blk.lt bF_9)) hb11 (Blk.lt (Blk.ext bF_9 (below_drew w9) (Blk.lt bF_9)))) 2⟩)
      | (go_at_call 20; refine (eqFormat_yes _ _ F _ (Own.format (hoys.ext hb11)) (Own.format hozs)).mono ?_; rintro e w12 ⟨rfl, hb12⟩; have hK12 : w12.cell? ⟨w5.heap.size, 0, none⟩ = some (.slice AxFs F.sizes.length cxFs) ∧ w12.cell? ⟨w5.heap.size, 1, none⟩ = some (.bool F.big) ∧ w12.cell? ⟨w5.heap.size, 2, none⟩ = some (.bool F.aligned) ∧ w12.cell? ⟨w.heap.size, 0, none⟩ = some (sF) ∧ w12.cell? ⟨w.heap.size, 1, none⟩ = some (.bool F.big) ∧ w12.cell? ⟨w.heap.size, 2, none⟩ = some (.bool F.aligned) := ⟨Blk.cell (Blk.ext (Blk.ext (Blk.ext bxF_9 (below_drew w9) (Blk.lt bxF_9)) hb11 (Blk.lt (Blk.ext bxF_9 (below_drew w9) (Blk.lt bxF_9)))) hb12 (Blk.lt (Blk.ext (Blk.ext bxF_9 (below_drew w9) (Blk.lt bxF_9)) hb11 (Blk.lt (Blk.ext bxF_9 (below_drew w9) (Blk.lt bxF_9)))))) 0, Blk.cell (Blk.ext (Blk.ext (Blk.ext bxF_9 (below_drew w9) (Blk.lt bxF_9)) hb11 (Blk.lt (Blk.ext bxF_9 (below_drew w9) (Blk.lt bxF_9)))) hb12 (Blk.lt (Blk.ext (Blk.ext bxF_9 (below_drew w9) (Blk.lt bxF_9)) hb11 (Blk.lt (Blk.ext bxF_9 (below_drew w9) (Blk.lt bxF_9)))))) 1, Blk.cell (Blk.ext (Blk.ext (Blk.ext bxF_9 (below_drew w9) (Blk.lt bxF_9)) hb11 (Blk.lt (Blk.ext bxF_9 (below_drew w9) (Blk.lt bxF_9)))) hb12 (Blk.lt (Blk.ext (Blk.ext bxF_9 (below_drew w9) (Blk.lt bxF_9)) hb11 (Blk.lt (Blk.ext bxF_9 (below_drew w9) (Blk.lt bxF_9)))))) 2, Blk.cell (Blk.ext (Blk.ext (Blk.ext bF_9 (below_drew w9) (Blk.lt bF_9)) hb11 (Blk.lt (Blk.ext bF_9 (below_drew w9) (Blk.lt bF_9)))) hb12 (Blk.lt (Blk.ext (Blk.ext bF_9 (below_drew w9) (Blk.lt bF_9)) hb11 (Blk.lt (Blk.ext bF_9 (below_drew w9) (Blk.lt bF_9)))))) 0, Blk.cell (Blk.ext (Blk.ext (Blk.ext bF_9 (below_drew w9) (Blk.lt bF_9)) hb11 (Blk.lt (Blk.ext bF_9 (below_drew w9) (Blk.lt bF_9)))) hb12 (Blk.lt (Blk.ext (Blk.ext bF_9 (below_drew w9) (Blk.lt bF_9)) hb11 (Blk.lt (Blk.ext bF_9 (below_drew w9) (Blk.lt bF_9)))))) 1, Blk.cell (Blk.ext (Blk.ext (Blk.ext bF_9 (below_drew w9) (Blk.lt bF_9)) hb11 (Blk.lt (Blk.ext bF_9 (below_drew w9) (Blk.lt bF_9)))) hb12 (Blk.lt (Blk.ext (Blk.ext bF_9 (below_drew w9) (Blk.lt bF_9)) hb11 (Blk.lt (Blk.ext bF_9 (below_drew w9) (Blk.lt bF_9)))))) 2⟩))
  clear qF_9_0 qF_9_1 qF_9_2 qw_9_0 qw_9_1 qw_9_2 qxF_9_0 qxF_9_1 qxF_9_2 qg_9_0 qg_9_1 qg_9_2
  clear hK11 hK12 hoys hozs
  have z10 : w9.heap.size ≤ w9.drew.heap.size := Nat.le_refl _
  have hT10 := hTd
  have z11 : w9.drew.heap.size ≤ w11.heap.size := hb11.size
  have hT11 : Below w0.heap.size w0 w11 := hT10.trans (hb11.mono (by omega))
  have z12 : w11.heap.size ≤ w12.heap.size := hb12.size
  have hT12 : Below w0.heap.size w0 w12 := hT11.trans (hb12.mono (by omega))
  clear hTd
  have bF_12 := (Blk.ext (Blk.ext (Blk.ext bF_9 (below_drew w9) (Blk.lt bF_9)) hb11 (Blk.lt (Blk.ext bF_9 (below_drew w9) (Blk.lt bF_9)))) hb12 (Blk.lt (Blk.ext (Blk.ext bF_9 (below_drew w9) (Blk.lt bF_9)) hb11 (Blk.lt (Blk.ext bF_9 (below_drew w9) (Blk.lt bF_9))))))
  clear bF_9
  obtain ⟨⟨qF_12_0, qF_12_1, qF_12_2⟩, -⟩ := id bF_12.all3
  have bw_12 := (Blk.ext (Blk.ext (Blk.ext bw_9 (below_drew w9) (Blk.lt bw_9)) hb11 (Blk.lt (Blk.ext bw_9 (below_drew w9) (Blk.lt bw_9)))) hb12 (Blk.lt (Blk.ext (Blk.ext bw_9 (below_drew w9) (Blk.lt bw_9)) hb11 (Blk.lt (Blk.ext bw_9 (below_drew w9) (Blk.lt bw_9))))))
  clear bw_9
  obtain ⟨⟨qw_12_0, qw_12_1, qw_12_2⟩, -⟩ := id bw_12.all3
  have bxF_12 := (Blk.ext (Blk.ext (Blk.ext bxF_9 (below_drew w9) (Blk.lt bxF_9)) hb11 (Blk.lt (Blk.ext bxF_9 (below_drew w9) (Blk.lt bxF_9)))) hb12 (Blk.lt (Blk.ext (Blk.ext bxF_9 (below_drew w9) (Blk.lt bxF_9)) hb11 (Blk.lt (Blk.ext bxF_9 (below_drew w9) (Blk.lt bxF_9))))))
  clear bxF_9
  obtain ⟨⟨qxF_12_0, qxF_12_1, qxF_12_2⟩, -⟩ := id bxF_12.all3
  have bg_12 := (Blk.ext (Blk.ext (Blk.ext bg_9 (below_drew w9) (Blk.lt bg_9)) hb11 (Blk.lt (Blk.ext bg_9 (below_drew w9) (Blk.lt bg_9)))) hb12 (Blk.lt (Blk.ext (Blk.ext bg_9 (below_drew w9) (Blk.lt bg_9)) hb11 (Blk.lt (Blk.ext bg_9 (below_drew w9) (Blk.lt bg_9))))))
  clear bg_9
  obtain ⟨⟨qg_12_0, qg_12_1, qg_12_2⟩, -⟩ := id bg_12.all3
  go_wp2_with fail
  refine (markFormat_any _ F (1) w4.heap.size w4.heap.size w5.heap.size _ (((((((hoxFs.ext hb6).ext hb7).ext hb8).ext hb9).ext (below_drew w9)).ext hb11).ext hb12) sgxFs hsz1F (by omega)).mono ?_; rintro e w13 ⟨rfl, -, hb13⟩
  clear qF_12_0 qF_12_1 qF_12_2 qw_12_0 qw_12_1 qw_12_2 qxF_12_0 qxF_12_1 qxF_12_2 qg_12_0 qg_12_1 qg_12_2
  have z13 : w12.heap.size ≤ w13.heap.size := hb13.size
  have hT13 : Below w0.heap.size w0 w13 := hT12.trans (hb13.below (by omega) (by omega))
  have bF_13 := (Blk.chg bF_12 hb13 (by omega))
  clear bF_12
  obtain ⟨⟨qF_13_0, qF_13_1, qF_13_2⟩, -⟩ := id bF_13.all3
  have bw_13 := (Blk.chg bw_12 hb13 (by omega))
  clear bw_12
  obtain ⟨⟨qw_13_0, qw_13_1, qw_13_2⟩, -⟩ := id bw_13.all3
  have bg_13 := (Blk.chg bg_12 hb13 (by omega))
  clear bg_12
  obtain ⟨⟨qg_13_0, qg_13_1, qg_13_2⟩, -⟩ := id bg_13.all3
  go_wp2_with fail
  refine (eqView_yes _ _ (fvL F K M) _ (Own.view ((((((hogrs.ext hb8).ext hb9).ext (below_drew w9)).ext hb11).ext hb12).chg hb13 sggrs (by omega)) ((((((hogrt.ext hb8).ext hb9).ext (below_drew w9)).ext hb11).ext hb12).chg hb13 sggrt (by omega))) (Own.view ((((((((((howrs.ext hb4).ext hb5).ext hb6).ext hb7).ext hb8).ext hb9).ext (below_drew w9)).ext hb11).ext hb12).chg hb13 sgwrs (by omega)) ((((((((((howrt.ext hb4).ext hb5).ext hb6).ext hb7).ext hb8).ext hb9).ext (below_drew w9)).ext hb11).ext hb12).chg hb13 sgwrt (by omega)))).mono ?_; rintro e w14 ⟨rfl, hb14⟩
  clear qF_13_0 qF_13_1 qF_13_2 qw_13_0 qw_13_1 qw_13_2 qg_13_0 qg_13_1 qg_13_2
  have z14 : w13.heap.size ≤ w14.heap.size := hb14.size
  have hT14 : Below w0.heap.size w0 w14 := hT13.trans (hb14.mono (by omega))
  have bF_14 := (Blk.ext bF_13 hb14 (Blk.lt bF_13))
  clear bF_13
  obtain ⟨⟨qF_14_0, qF_14_1, qF_14_2⟩, -⟩ := id bF_14.all3
  have bw_14 := (Blk.ext bw_13 hb14 (Blk.lt bw_13))
  clear bw_13
  obtain ⟨⟨qw_14_0, qw_14_1, qw_14_2⟩, -⟩ := id bw_14.all3
  have bg_14 := (Blk.ext bg_13 hb14 (Blk.lt bg_13))
  clear bg_13
  obtain ⟨⟨qg_14_0, qg_14_1, qg_14_2⟩, -⟩ := id bg_14.all3
  have hlr := fvL_len F K M
  have hlr1 : (fvL F K M).shape.length ≤ 1048576 := by omega
  have hlr2 : (fvL F K M).strides.length ≤ 1048576 := by omega
  go_wp2_with fail
  refine (markView_any _ _ _ (fvL F K M).shape (fvL F K M).strides (1) w6.heap.size w6.heap.size w6.heap.size w7.heap.size _ (((((((hogrs.ext hb8).ext hb9).ext (below_drew w9)).ext hb11).ext hb12).chg hb13 sggrs (by omega)).ext hb14) (((((((hogrt.ext hb8).ext hb9).ext (below_drew w9)).ext hb11).ext hb12).chg hb13 sggrt (by omega)).ext hb14) sepg sggrs sggrt hlr1 hlr2 (by omega)).mono ?_; rintro e w15 ⟨rfl, hom1, hom2, hb15⟩
  clear qF_14_0 qF_14_1 qF_14_2 qw_14_0 qw_14_1 qw_14_2 qg_14_0 qg_14_1 qg_14_2
  have z15 : w14.heap.size ≤ w15.heap.size := hb15.size
  have hT15 : Below w0.heap.size w0 w15 := hT14.trans (hb15.below (by omega) (by omega))
  have bF_15 := (Blk.chg bF_14 hb15 (by omega))
  clear bF_14
  obtain ⟨⟨qF_15_0, qF_15_1, qF_15_2⟩, -⟩ := id bF_15.all3
  have bw_15 := (Blk.chg bw_14 hb15 (by omega))
  clear bw_14
  obtain ⟨⟨qw_15_0, qw_15_1, qw_15_2⟩, -⟩ := id bw_15.all3
  have bg_15 := (Blk.chg bg_14 hb15 (by omega))
  clear bg_14
  obtain ⟨⟨qg_15_0, qg_15_1, qg_15_2⟩, -⟩ := id bg_15.all3
  go_wp2_with fail
  refine (heldView_any _ _ _ (fvL F K M).shape.length (fvL F K M).strides.length (1) _ (Own.ints hom1) (Own.ints hom2) hlr1 hlr2 (by omega)).mono ?_; rintro e w16 ⟨rfl, hb16⟩
  clear qF_15_0 qF_15_1 qF_15_2 qw_15_0 qw_15_1 qw_15_2 qg_15_0 qg_15_1 qg_15_2
  have z16 : w15.heap.size ≤ w16.heap.size := hb16.size
  have hT16 : Below w0.heap.size w0 w16 := hT15.trans (hb16.mono (by omega))
  have bF_16 := (Blk.ext bF_15 hb16 (Blk.lt bF_15))
  clear bF_15
  obtain ⟨⟨qF_16_0, qF_16_1, qF_16_2⟩, -⟩ := id bF_16.all3
  have bw_16 := (Blk.ext bw_15 hb16 (Blk.lt bw_15))
  clear bw_15
  obtain ⟨⟨qw_16_0, qw_16_1, qw_16_2⟩, -⟩ := id bw_16.all3
  have bg_16 := (Blk.ext bg_15 hb16 (Blk.lt bg_15))
  clear bg_15
  obtain ⟨⟨qg_16_0, qg_16_1, qg_16_2⟩, -⟩ := id bg_16.all3
  go_wp2_with fail
  refine (toFormat_any _ F _ (hv1F.ext hT16) hsz1F).mono ?_; rintro e w17 ⟨xhFs, rfl, hohFs, hb17⟩
  clear qF_16_0 qF_16_1 qF_16_2 qw_16_0 qw_16_1 qw_16_2 qg_16_0 qg_16_1 qg_16_2
  have z17 : w16.heap.size ≤ w17.heap.size := hb17.size
  have hT17 : Below w0.heap.size w0 w17 := hT16.trans (hb17.mono (by omega))
  have bF_17 := (Blk.ext bF_16 hb17 (Blk.lt bF_16))
  clear bF_16
  obtain ⟨⟨qF_17_0, qF_17_1, qF_17_2⟩, -⟩ := id bF_17.all3
  have bw_17 := (Blk.ext bw_16 hb17 (Blk.lt bw_16))
  clear bw_16
  obtain ⟨⟨qw_17_0, qw_17_1, qw_17_2⟩, -⟩ := id bw_17.all3
  have bg_17 := (Blk.ext bg_16 hb17 (Blk.lt bg_16))
  clear bg_16
  obtain ⟨⟨qg_17_0, qg_17_1, qg_17_2⟩, -⟩ := id bg_17.all3
  go_wp2_with fail
  refine (FieldView_any _ F K M _ (Own.format hohFs) ⟨wfK1, wfK2⟩ ⟨wfM1, wfM2⟩).mono ?_; rintro e w18 ⟨rhs, rht, rfl, hohrs, hohrt, seph, hb18⟩
  clear qF_17_0 qF_17_1 qF_17_2 qw_17_0 qw_17_1 qw_17_2 qg_17_0 qg_17_1 qg_17_2
  have z18 : w17.heap.size ≤ w18.heap.size := hb18.size
  have hT18 : Below w0.heap.size w0 w18 := hT17.trans (hb18.mono (by omega))
  have bF_18 := (Blk.ext bF_17 hb18 (Blk.lt bF_17))
  clear bF_17
  obtain ⟨⟨qF_18_0, qF_18_1, qF_18_2⟩, -⟩ := id bF_18.all3
  have bw_18 := (Blk.ext bw_17 hb18 (Blk.lt bw_17))
  clear bw_17
  obtain ⟨⟨qw_18_0, qw_18_1, qw_18_2⟩, -⟩ := id bw_18.all3
  have bg_18 := (Blk.ext bg_17 hb18 (Blk.lt bg_17))
  clear bg_17
  obtain ⟨⟨qg_18_0, qg_18_1, qg_18_2⟩, -⟩ := id bg_18.all3
  have sghrs := hohrs.seg
  have sghrt := hohrt.seg
  obtain ⟨Ahs, chs, ehs⟩ := hohrs.form
  obtain ⟨Aht, cht, eht⟩ := hohrt.form
  subst ehs eht
  have bh_19 := Blk.new w18 27 #[.int .i64 (fvL F K M).base, .slice Ahs (fvL F K M).shape.length chs, .slice Aht (fvL F K M).strides.length cht]
  have hb19 := below_alloc w18 (.cells #[.int .i64 (fvL F K M).base, .slice Ahs (fvL F K M).shape.length chs, .slice Aht (fvL F K M).strides.length cht] 27)
  obtain ⟨mF_18_0, mF_18_1, mF_18_2⟩ := (Blk.ext bF_18 (below_alloc w18 (.cells #[.int .i64 (fvL F K M).base, .slice Ahs (fvL F K M).shape.length chs, .slice Aht (fvL F K M).strides.length cht] 27)) (Blk.lt bF_18)).all3.1
  obtain ⟨mw_18_0, mw_18_1, mw_18_2⟩ := (Blk.ext bw_18 (below_alloc w18 (.cells #[.int .i64 (fvL F K M).base, .slice Ahs (fvL F K M).shape.length chs, .slice Aht (fvL F K M).strides.length cht] 27)) (Blk.lt bw_18)).all3.1
  obtain ⟨mg_18_0, mg_18_1, mg_18_2⟩ := (Blk.ext bg_18 (below_alloc w18 (.cells #[.int .i64 (fvL F K M).base, .slice Ahs (fvL F K M).shape.length chs, .slice Aht (fvL F K M).strides.length cht] 27)) (Blk.lt bg_18)).all3.1
  go_wp2_with fail
  generalize w18.alloc (.cells #[.int .i64 (fvL F K M).base, .slice Ahs (fvL F K M).shape.length chs, .slice Aht (fvL F K M).strides.length cht] 27) = w19 at *
  clear qF_18_0 qF_18_1 qF_18_2 qw_18_0 qw_18_1 qw_18_2 qg_18_0 qg_18_1 qg_18_2 mF_18_0 mF_18_1 mF_18_2 mw_18_0 mw_18_1 mw_18_2 mg_18_0 mg_18_1 mg_18_2
  have z19 : w18.heap.size ≤ w19.heap.size := hb19.size
  have hT19 : Below w0.heap.size w0 w19 := hT18.trans (hb19.mono (by omega))
  have zlh : w18.heap.size < w19.heap.size := bh_19.lt
  have bF_19 := (Blk.ext bF_18 hb19 (Blk.lt bF_18))
  clear bF_18
  obtain ⟨⟨qF_19_0, qF_19_1, qF_19_2⟩, -⟩ := id bF_19.all3
  have bw_19 := (Blk.ext bw_18 hb19 (Blk.lt bw_18))
  clear bw_18
  obtain ⟨⟨qw_19_0, qw_19_1, qw_19_2⟩, -⟩ := id bw_19.all3
  have bg_19 := (Blk.ext bg_18 hb19 (Blk.lt bg_18))
  clear bg_18
  obtain ⟨⟨qg_19_0, qg_19_1, qg_19_2⟩, -⟩ := id bg_19.all3
  obtain ⟨⟨qh_19_0, qh_19_1, qh_19_2⟩, -⟩ := id bh_19.all3
  go_wp2_with fail
  refine (eqView_yes _ _ (fvL F K M) _ (Own.view (hohrs.ext hb19) (hohrt.ext hb19)) (Own.view ((((((((((((((((howrs.ext hb4).ext hb5).ext hb6).ext hb7).ext hb8).ext hb9).ext (below_drew w9)).ext hb11).ext hb12).chg hb13 sgwrs (by omega)).ext hb14).chg hb15 sgwrs (by omega)).ext hb16).ext hb17).ext hb18).ext hb19) ((((((((((((((((howrt.ext hb4).ext hb5).ext hb6).ext hb7).ext hb8).ext hb9).ext (below_drew w9)).ext hb11).ext hb12).chg hb13 sgwrt (by omega)).ext hb14).chg hb15 sgwrt (by omega)).ext hb16).ext hb17).ext hb18).ext hb19))).mono ?_; rintro e w20 ⟨rfl, hb20⟩
  clear qF_19_0 qF_19_1 qF_19_2 qw_19_0 qw_19_1 qw_19_2 qg_19_0 qg_19_1 qg_19_2 qh_19_0 qh_19_1 qh_19_2
  have z20 : w19.heap.size ≤ w20.heap.size := hb20.size
  have hT20 : Below w0.heap.size w0 w20 := hT19.trans (hb20.mono (by omega))
  have bF_20 := (Blk.ext bF_19 hb20 (Blk.lt bF_19))
  clear bF_19
  obtain ⟨⟨qF_20_0, qF_20_1, qF_20_2⟩, -⟩ := id bF_20.all3
  have bw_20 := (Blk.ext bw_19 hb20 (Blk.lt bw_19))
  clear bw_19
  obtain ⟨⟨qw_20_0, qw_20_1, qw_20_2⟩, -⟩ := id bw_20.all3
  have bg_20 := (Blk.ext bg_19 hb20 (Blk.lt bg_19))
  clear bg_19
  obtain ⟨⟨qg_20_0, qg_20_1, qg_20_2⟩, -⟩ := id bg_20.all3
  have bh_20 := (Blk.ext bh_19 hb20 (Blk.lt bh_19))
  clear bh_19
  obtain ⟨⟨qh_20_0, qh_20_1, qh_20_2⟩, -⟩ := id bh_20.all3
  go_wp2_with fail
  refine (heldView_any _ _ _ (fvL F K M).shape.length (fvL F K M).strides.length (1) _ (Own.ints (((((hom1.ext hb16).ext hb17).ext hb18).ext hb19).ext hb20)) (Own.ints (((((hom2.ext hb16).ext hb17).ext hb18).ext hb19).ext hb20)) hlr1 hlr2 (by omega)).mono ?_; rintro e w21 ⟨rfl, hb21⟩
  clear qF_20_0 qF_20_1 qF_20_2 qw_20_0 qw_20_1 qw_20_2 qg_20_0 qg_20_1 qg_20_2 qh_20_0 qh_20_1 qh_20_2
  have z21 : w20.heap.size ≤ w21.heap.size := hb21.size
  have hT21 : Below w0.heap.size w0 w21 := hT20.trans (hb21.mono (by omega))
  have bF_21 := (Blk.ext bF_20 hb21 (Blk.lt bF_20))
  clear bF_20
  obtain ⟨⟨qF_21_0, qF_21_1, qF_21_2⟩, -⟩ := id bF_21.all3
  have bw_21 := (Blk.ext bw_20 hb21 (Blk.lt bw_20))
  clear bw_20
  obtain ⟨⟨qw_21_0, qw_21_1, qw_21_2⟩, -⟩ := id bw_21.all3
  have bg_21 := (Blk.ext bg_20 hb21 (Blk.lt bg_20))
  clear bg_20
  obtain ⟨⟨qg_21_0, qg_21_1, qg_21_2⟩, -⟩ := id bg_21.all3
  have bh_21 := (Blk.ext bh_20 hb21 (Blk.lt bh_20))
  clear bh_20
  obtain ⟨⟨qh_21_0, qh_21_1, qh_21_2⟩, -⟩ := id bh_21.all3
  go_wp2
  go_ret
  exact ⟨rfl, hW.trans (hT21.mono hW.size)⟩

end Go.Proofs.Ytonlhphgoedcnaa
