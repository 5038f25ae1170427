/- The walks of exact laws: each answers true at every input and changes nothing that was there. No conditions. (printed by genlaw2.py) -/
import Derived.Test.YtfiphjifnjnmbaaBU2
import Derived.Test.YtfiphjifnjnmbaaBU3
import Derived.Test.YtfiphjifnjnmbaaLX3
import Derived.Test.YtfiphjifnjnmbaaL1
import Derived.Deep.RegionHeld3
namespace Go.Proofs.Ytfiphjifnjnmbaa
open Go.RowKit

set_option maxRecDepth 100000 in
set_option maxHeartbeats 3200000 in
theorem FnExactLoadExport_walk (vU : Value) (U : BL) (D : Int) (w : World) (hvU : BufferV w vU U) (wfD : -9223372036854775808 ≤ D ∧ D ≤ 9223372036854775807) :
    Calls Try.prog 4 #[vU, .int .i64 D] w fun e w' => e = .returned (.bool true) ∧ Below w.heap.size w w' := by
  have hv0U := hvU
  obtain ⟨sU, tU, rfl, -, -⟩ := hvU
  obtain ⟨wfD1, wfD2⟩ := wfD
  have hW : Below w.heap.size w (w.alloc (.cells #[sU, tU] 37)) := Below.alloc (Below.refl w.heap.size w) (by simp <;> omega) (.cells #[sU, tU] 37)
  have bU_0 : Blk (w.alloc (.cells #[sU, tU] 37)) (w.heap.size) 37 #[sU, tU] := (Blk.new w 37 #[sU, tU])
  have hv1U := hv0U.ext hW
  by_cases hsU : 1048576 < U.cells.length + szR lenE U.exports
  · have hzU : 1048576 < U.cells.length + szR lenE U.exports := by omega
    go_enter Try.func4, Try.ntmps4
    go_wp2_with fail
    generalize (w.alloc (.cells #[sU, tU] 37)) = w0 at *
    have hT0 : Below w0.heap.size w0 w0 := Below.refl _ _
    have zlU : w.heap.size < w0.heap.size := bU_0.lt
    obtain ⟨⟨qU_0_0, qU_0_1⟩, -⟩ := id bU_0.all2
    refine (szBuffer_no _ U 1048576 _ (hv1U.ext hT0) hzU (by omega)).mono ?_; rintro e w1 ⟨rfl, hb1⟩
    clear qU_0_0 qU_0_1
    have z1 : w0.heap.size ≤ w1.heap.size := hb1.size
    have hT1 : Below w0.heap.size w0 w1 := hT0.trans (hb1.mono (by omega))
    go_wp2
    go_ret
    exact ⟨rfl, hW.trans (hT1.mono hW.size)⟩
  have hsz1U : U.cells.length ≤ 1048576 := by omega
  have hsz2U : szR lenE U.exports ≤ 1048576 := by omega
  go_enter Try.func4, Try.ntmps4
  go_wp2_with fail
  generalize (w.alloc (.cells #[sU, tU] 37)) = w0 at *
  have hT0 : Below w0.heap.size w0 w0 := Below.refl _ _
  have zlU : w.heap.size < w0.heap.size := bU_0.lt
  obtain ⟨⟨qU_0_0, qU_0_1⟩, -⟩ := id bU_0.all2
  refine (szBuffer_ok _ U 1048576 _ hv1U (by omega) (by omega)).mono ?_; rintro e w1 ⟨rfl, hb1⟩
  clear qU_0_0 qU_0_1
  have z1 : w0.heap.size ≤ w1.heap.size := hb1.size
  have hT1 : Below w0.heap.size w0 w1 := hT0.trans (hb1.mono (by omega))
  have bU_1 := (Blk.ext bU_0 hb1 (Blk.lt bU_0))
  obtain ⟨⟨qU_1_0, qU_1_1⟩, -⟩ := id bU_1.all2
  go_wp2_with fail
  refine (toBuffer_any _ U _ (hv1U.ext hT1) hsz1U hsz2U).mono ?_; rintro e w2 ⟨xwUs, xwUt, rfl, howUs, howUt, sepwU, hb2⟩
  clear qU_1_0 qU_1_1
  have z2 : w1.heap.size ≤ w2.heap.size := hb2.size
  have hT2 : Below w0.heap.size w0 w2 := hT1.trans (hb2.mono (by omega))
  have bU_2 := (Blk.ext bU_1 hb2 (Blk.lt bU_1))
  clear bU_1
  obtain ⟨⟨qU_2_0, qU_2_1⟩, -⟩ := id bU_2.all2
  go_wp2_with fail
  refine (sLoadExport_law _ U D _ (Own.buffer howUs howUt) ⟨wfD1, wfD2⟩).mono ?_; rintro e w3 ⟨rw, rfl, howr, hb3⟩
  clear qU_2_0 qU_2_1
  have z3 : w2.heap.size ≤ w3.heap.size := hb3.size
  have hT3 : Below w0.heap.size w0 w3 := hT2.trans (hb3.mono (by omega))
  have bU_3 := (Blk.ext bU_2 hb3 (Blk.lt bU_2))
  clear bU_2
  obtain ⟨⟨qU_3_0, qU_3_1⟩, -⟩ := id bU_3.all2
  have sgwr := howr.seg
  go_wp2_with fail
  refine (toBuffer_any _ U _ (hv1U.ext hT3) hsz1U hsz2U).mono ?_; rintro e w4 ⟨xxUs, xxUt, rfl, hoxUs, hoxUt, sepxU, hb4⟩
  clear qU_3_0 qU_3_1
  have z4 : w3.heap.size ≤ w4.heap.size := hb4.size
  have hT4 : Below w0.heap.size w0 w4 := hT3.trans (hb4.mono (by omega))
  have bU_4 := (Blk.ext bU_3 hb4 (Blk.lt bU_3))
  clear bU_3
  obtain ⟨⟨qU_4_0, qU_4_1⟩, -⟩ := id bU_4.all2
  have sgxUs := hoxUs.seg
  have sgxUt := hoxUt.seg
  obtain ⟨AxUs, cxUs, exUs⟩ := hoxUs.form
  obtain ⟨AxUt, cxUt, exUt⟩ := hoxUt.form
  subst exUs exUt
  have bxU_5 := Blk.new w4 42 #[.slice AxUs U.cells.length cxUs, .slice AxUt U.exports.length cxUt]
  have hb5 := below_alloc w4 (.cells #[.slice AxUs U.cells.length cxUs, .slice AxUt U.exports.length cxUt] 42)
  obtain ⟨mU_4_0, mU_4_1⟩ := (Blk.ext bU_4 (below_alloc w4 (.cells #[.slice AxUs U.cells.length cxUs, .slice AxUt U.exports.length cxUt] 42)) (Blk.lt bU_4)).all2.1
  go_wp2_with fail
  generalize w4.alloc (.cells #[.slice AxUs U.cells.length cxUs, .slice AxUt U.exports.length cxUt] 42) = w5 at *
  clear qU_4_0 qU_4_1 mU_4_0 mU_4_1
  have z5 : w4.heap.size ≤ w5.heap.size := hb5.size
  have hT5 : Below w0.heap.size w0 w5 := hT4.trans (hb5.mono (by omega))
  have zlxU : w4.heap.size < w5.heap.size := bxU_5.lt
  have bU_5 := (Blk.ext bU_4 hb5 (Blk.lt bU_4))
  clear bU_4
  obtain ⟨⟨qU_5_0, qU_5_1⟩, -⟩ := id bU_5.all2
  obtain ⟨⟨qxU_5_0, qxU_5_1⟩, -⟩ := id bxU_5.all2
  go_wp2_with fail
  refine (LoadExport_law _ U D _ (Own.buffer (hoxUs.ext hb5) (hoxUt.ext hb5)) ⟨wfD1, wfD2⟩).mono ?_; rintro e w6 ⟨rg, rfl, hogr, hb6⟩
  clear qU_5_0 qU_5_1 qxU_5_0 qxU_5_1
  have z6 : w5.heap.size ≤ w6.heap.size := hb6.size
  have hT6 : Below w0.heap.size w0 w6 := hT5.trans (hb6.mono (by omega))
  have bU_6 := (Blk.ext bU_5 hb6 (Blk.lt bU_5))
  clear bU_5
  obtain ⟨⟨qU_6_0, qU_6_1⟩, -⟩ := id bU_6.all2
  have bxU_6 := (Blk.ext bxU_5 hb6 (Blk.lt bxU_5))
  clear bxU_5
  obtain ⟨⟨qxU_6_0, qxU_6_1⟩, -⟩ := id bxU_6.all2
  have sggr := hogr.seg
  go_wp2_with fail
  refine (eqIntS_yes _ _ (loadExpL U D) _ (Own.ints hogr) (Own.ints (((howr.ext hb4).ext hb5).ext hb6))).mono ?_; rintro e w7 ⟨rfl, hb7⟩
  clear qU_6_0 qU_6_1 qxU_6_0 qxU_6_1
  have z7 : w6.heap.size ≤ w7.heap.size := hb7.size
  have hT7 : Below w0.heap.size w0 w7 := hT6.trans (hb7.mono (by omega))
  have bU_7 := (Blk.ext bU_6 hb7 (Blk.lt bU_6))
  clear bU_6
  obtain ⟨⟨qU_7_0, qU_7_1⟩, -⟩ := id bU_7.all2
  have bxU_7 := (Blk.ext bxU_6 hb7 (Blk.lt bxU_6))
  clear bxU_6
  obtain ⟨⟨qxU_7_0, qxU_7_1⟩, -⟩ := id bxU_7.all2
  go_wp2_with fail
  have hTd : Below w0.heap.size w0 w7.drew := hT7.drew
  have hoys := ((((hoxUs.ext hb5).ext hb6).ext hb7).ext (below_drew w7))
  have hoyt := ((((hoxUt.ext hb5).ext hb6).ext hb7).ext (below_drew w7))
  go_region_held3 (fun w' => w'.cell? ⟨w4.heap.size, 0, none⟩ = some (.slice AxUs U.cells.length cxUs) ∧ w'.cell? ⟨w4.heap.size, 1, none⟩ = some (.slice AxUt U.exports.length cxUt) ∧ w'.cell? ⟨w.heap.size, 0, none⟩ = some (sU) ∧ w'.cell? ⟨w.heap.size, 1, none⟩ = some (tU))
    (first | go_keep | exact hK9 | exact hK10)
    (first
      | (go_at_call 17; refine (toBuffer_any _ U _ (hv1U.ext hTd) hsz1U hsz2U).mono ?_; rintro e w9 ⟨ys, yt, rfl, hozs, hozt, -, hb9⟩; have hK9 : w9.cell? ⟨w4.heap.size, 0, none⟩ = some (.slice AxUs U.cells.length cxUs) ∧ w9.cell? ⟨w4.heap.size, 1, none⟩ = some (.slice AxUt U.exports.length cxUt) ∧ w9.cell? ⟨w.heap.size, 0, none⟩ = some (sU) ∧ w9.cell? ⟨w.heap.size, 1, none⟩ = some (tU) := ⟨Blk.cell (Blk.ext (Blk.ext bxU_7 (below_drew w7) (Blk.lt bxU_7)) hb9 (Blk.lt (Blk.ext bxU_7 (below_drew w7) (Blk.lt bxU_7)))) 0, Blk.cell (Blk.ext (Blk.ext bxU_7 (below_drew w7) (Blk.lt bxU_7)) hb9 (Blk.lt (Blk.ext bxU_7 (below_drew w7) (Blk.lt bxU_7)))) 1, Blk.cell (Blk.ext (Blk.ext bU_7 (below_drew w7) (Blk.lt bU_7)) hb9 (Blk.lt (Blk.ext bU_7 (below_drew w7) (Blk.lt bU_7)))) 0, Blk.cell (Blk.ext (Blk.ext bU_7 (below_drew w7) (Blk.lt bU_7)) hb9 (Blk.lt (Blk.ext bU_7 (below_drew w7) (Blk.lt bU_7)))) 1⟩)
      | (go_at_call 20; refine (eqBuffer_yes _ _ U _ (Own.buffer (hoys.ext hb9) (hoyt.ext hb9)) (Own.buffer hozs hozt)).mono ?_; rintro e w10 ⟨rfl, hb10⟩; have hK10 : w10.cell? ⟨w4.heap.size, 0, none⟩ = some (.slice AxUs U.cells.length cxUs) ∧ w10.cell? ⟨w4.heap.size, 1, none⟩ = some (.slice AxUt U.exports.length cxUt) ∧ w10.cell? ⟨w.heap.size, 0, none⟩ = some (sU) ∧ w10.cell? ⟨w.heap.size, 1, none⟩ = some (tU) := ⟨Blk.cell (Blk.ext (Blk.ext (Blk.ext bxU_7 (below_drew w7) (Blk.lt bxU_7)) hb9 (Blk.lt (Blk.ext bxU_7 (below_drew w7) (Blk.lt bxU_7)))) hb10 (Blk.lt (Blk.ext (Blk.ext bxU_7 (below_drew w7) (Blk.lt bxU_7)) hb9 (Blk.lt (Blk.ext bxU_7 (below_drew w7) (Blk.lt bxU_7)))))) 0, Blk.cell (Blk.ext (Blk.ext (Blk.ext bxU_7 (below_drew w7) (Blk.lt bxU_7)) hb9 (Blk.lt (Blk.ext bxU_7 (below_drew w7) (Blk.lt bxU_7)))) hb10 (Blk.lt (Blk.ext (Blk.ext bxU_7 (below_drew w7) (Blk.lt bxU_7)) hb9 (Blk.lt (Blk.ext bxU_7 (below_drew w7) (Blk.lt bxU_7)))))) 1, Blk.cell (Blk.ext (Blk.ext (Blk.ext bU_7 (below_drew w7) (Blk.lt bU_7)) hb9 (Blk.lt (Blk.ext bU_7 (below_drew w7) (Blk.lt bU_7)))) hb10 (Blk.lt (Blk.ext (Blk.ext bU_7 (below_drew w7) (Blk.lt bU_7)) hb9 (Blk.lt (Blk.ext bU_7 (below_drew w7) (Blk.lt bU_7)))))) 0, Blk.cell (Blk.ext (Blk.ext (Blk.ext bU_7 (below_drew w7) (Blk.lt bU_7)) hb9 (Blk.lt (Blk.ext bU_7 (below_drew w7) (Blk.lt bU_7)))) hb10 (Blk.lt (Blk.ext (Blk.ext bU_7 (below_drew w7) (Blk.lt bU_7)) hb9 (Blk.lt (Blk.ext bU_7 (below_drew w7) (Blk.lt bU_7)))))) 1⟩))
  clear qU_7_0 qU_7_1 qxU_7_0 qxU_7_1
  clear hK9 hK10 hoys hozs hoyt hozt
  have z8 : w7.heap.size ≤ w7.drew.heap.size := Nat.le_refl _
  have hT8 := hTd
  have z9 : w7.drew.heap.size ≤ w9.heap.size := hb9.size
  have hT9 : Below w0.heap.size w0 w9 := hT8.trans (hb9.mono (by omega))
  have z10 : w9.heap.size ≤ w10.heap.size := hb10.size
  have hT10 : Below w0.heap.size w0 w10 := hT9.trans (hb10.mono (by omega))
  clear hTd
  have bU_10 := (Blk.ext (Blk.ext (Blk.ext bU_7 (below_drew w7) (Blk.lt bU_7)) hb9 (Blk.lt (Blk.ext bU_7 (below_drew w7) (Blk.lt bU_7)))) hb10 (Blk.lt (Blk.ext (Blk.ext bU_7 (below_drew w7) (Blk.lt bU_7)) hb9 (Blk.lt (Blk.ext bU_7 (below_drew w7) (Blk.lt bU_7))))))
  clear bU_7
  obtain ⟨⟨qU_10_0, qU_10_1⟩, -⟩ := id bU_10.all2
  have bxU_10 := (Blk.ext (Blk.ext (Blk.ext bxU_7 (below_drew w7) (Blk.lt bxU_7)) hb9 (Blk.lt (Blk.ext bxU_7 (below_drew w7) (Blk.lt bxU_7)))) hb10 (Blk.lt (Blk.ext (Blk.ext bxU_7 (below_drew w7) (Blk.lt bxU_7)) hb9 (Blk.lt (Blk.ext bxU_7 (below_drew w7) (Blk.lt bxU_7))))))
  clear bxU_7
  obtain ⟨⟨qxU_10_0, qxU_10_1⟩, -⟩ := id bxU_10.all2
  go_wp2_with fail
  refine (markBuffer_any _ _ U (1) w3.heap.size w3.heap.size w4.heap.size _ ((((((hoxUs.ext hb5).ext hb6).ext hb7).ext (below_drew w7)).ext hb9).ext hb10) ((((((hoxUt.ext hb5).ext hb6).ext hb7).ext (below_drew w7)).ext hb9).ext hb10) sgxUs hsz1U hsz2U (by omega)).mono ?_; rintro e w11 ⟨rfl, hb11⟩
  clear qU_10_0 qU_10_1 qxU_10_0 qxU_10_1
  have z11 : w10.heap.size ≤ w11.heap.size := hb11.size
  have hT11 : Below w0.heap.size w0 w11 := hT10.trans (hb11.below (by omega) (by omega))
  have bU_11 := (Blk.chg bU_10 hb11 (by omega))
  clear bU_10
  obtain ⟨⟨qU_11_0, qU_11_1⟩, -⟩ := id bU_11.all2
  go_wp2_with fail
  refine (eqIntS_yes _ _ (loadExpL U D) _ (Own.ints (((((hogr.ext hb7).ext (below_drew w7)).ext hb9).ext hb10).chg hb11 sggr (by omega))) (Own.ints ((((((((howr.ext hb4).ext hb5).ext hb6).ext hb7).ext (below_drew w7)).ext hb9).ext hb10).chg hb11 sgwr (by omega)))).mono ?_; rintro e w12 ⟨rfl, hb12⟩
  clear qU_11_0 qU_11_1
  have z12 : w11.heap.size ≤ w12.heap.size := hb12.size
  have hT12 : Below w0.heap.size w0 w12 := hT11.trans (hb12.mono (by omega))
  have bU_12 := (Blk.ext bU_11 hb12 (Blk.lt bU_11))
  clear bU_11
  obtain ⟨⟨qU_12_0, qU_12_1⟩, -⟩ := id bU_12.all2
  have hlr : (loadExpL U D).length ≤ 1048576 := by have := loadExpL_len U D; omega
  go_wp2_with fail
  refine (markIntS_any _ (loadExpL U D) (1) _ _ ((((((hogr.ext hb7).ext (below_drew w7)).ext hb9).ext hb10).chg hb11 sggr (by omega)).ext hb12) hlr (by omega)).mono ?_; rintro e w13 ⟨rfl, hom, hw13⟩
  have hb13 := Chg.of_grown hw13 sggr
  clear qU_12_0 qU_12_1
  have z13 : w12.heap.size ≤ w13.heap.size := hb13.size
  have hT13 : Below w0.heap.size w0 w13 := hT12.trans (hb13.below (by omega) (by omega))
  have bU_13 := (Blk.chg bU_12 hb13 (by omega))
  clear bU_12
  obtain ⟨⟨qU_13_0, qU_13_1⟩, -⟩ := id bU_13.all2
  go_wp2_with fail
  refine (heldIntS_any _ (1) (loadExpL U D).length _ (Own.ints hom) hlr (by omega)).mono ?_; rintro e w' ⟨rfl, rfl⟩
  go_wp2_with fail
  refine (toBuffer_any _ U _ (hv1U.ext hT13) hsz1U hsz2U).mono ?_; rintro e w14 ⟨xhUs, xhUt, rfl, hohUs, hohUt, sephU, hb14⟩
  clear qU_13_0 qU_13_1
  have z14 : w13.heap.size ≤ w14.heap.size := hb14.size
  have hT14 : Below w0.heap.size w0 w14 := hT13.trans (hb14.mono (by omega))
  have bU_14 := (Blk.ext bU_13 hb14 (Blk.lt bU_13))
  clear bU_13
  obtain ⟨⟨qU_14_0, qU_14_1⟩, -⟩ := id bU_14.all2
  go_wp2_with fail
  refine (LoadExport_law _ U D _ (Own.buffer hohUs hohUt) ⟨wfD1, wfD2⟩).mono ?_; rintro e w15 ⟨rh, rfl, hohr, hb15⟩
  clear qU_14_0 qU_14_1
  have z15 : w14.heap.size ≤ w15.heap.size := hb15.size
  have hT15 : Below w0.heap.size w0 w15 := hT14.trans (hb15.mono (by omega))
  have bU_15 := (Blk.ext bU_14 hb15 (Blk.lt bU_14))
  clear bU_14
  obtain ⟨⟨qU_15_0, qU_15_1⟩, -⟩ := id bU_15.all2
  have sghr := hohr.seg
  go_wp2_with fail
  refine (eqIntS_yes _ _ (loadExpL U D) _ (Own.ints hohr) (Own.ints ((((((((((((howr.ext hb4).ext hb5).ext hb6).ext hb7).ext (below_drew w7)).ext hb9).ext hb10).chg hb11 sgwr (by omega)).ext hb12).chg hb13 sgwr (by omega)).ext hb14).ext hb15))).mono ?_; rintro e w16 ⟨rfl, hb16⟩
  clear qU_15_0 qU_15_1
  have z16 : w15.heap.size ≤ w16.heap.size := hb16.size
  have hT16 : Below w0.heap.size w0 w16 := hT15.trans (hb16.mono (by omega))
  have bU_16 := (Blk.ext bU_15 hb16 (Blk.lt bU_15))
  clear bU_15
  obtain ⟨⟨qU_16_0, qU_16_1⟩, -⟩ := id bU_16.all2
  go_wp2_with fail
  refine (heldIntS_any _ (1) (loadExpL U D).length _ (Own.ints (((hom.ext hb14).ext hb15).ext hb16)) hlr (by omega)).mono ?_; rintro e w' ⟨rfl, rfl⟩
  go_wp2
  go_ret
  exact ⟨rfl, hW.trans (hT16.mono hW.size)⟩

end Go.Proofs.Ytfiphjifnjnmbaa
