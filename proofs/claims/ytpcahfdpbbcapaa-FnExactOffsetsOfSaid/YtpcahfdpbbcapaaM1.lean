/- The walks of exact laws: each answers true at every input and changes nothing that was there. No conditions. (printed by genlaw.py) -/
import Derived.Test.YtpcahfdpbbcapaaC5
import Derived.Test.YtpcahfdpbbcapaaL2
import Derived.Deep.RegionHeld3
namespace Go.Proofs.Ytpcahfdpbbcapaa
open Go.RowKit

set_option maxRecDepth 100000 in
set_option maxHeartbeats 3200000 in
theorem FnExactOffsetsOf_walk (vV : Value) (V : VL) (w : World) (hvV : ViewV w vV V) :
    Calls Try.prog 5 #[vV] w fun e w' => e = .returned (.bool true) ∧ Below w.heap.size w w' := by
  have hv0V := hvV
  obtain ⟨sV, tV, rfl, -, -⟩ := hvV
  have hW : Below w.heap.size w (w.alloc (.cells #[.int .i64 V.base, sV, tV] 33)) := Below.alloc (Below.refl w.heap.size w) (by simp <;> omega) (.cells #[.int .i64 V.base, sV, tV] 33)
  have bV_0 : Blk (w.alloc (.cells #[.int .i64 V.base, sV, tV] 33)) (w.heap.size) 33 #[.int .i64 V.base, sV, tV] := (Blk.new w 33 #[.int .i64 V.base, sV, tV])
  have hv1V := hv0V.ext hW
  by_cases hsV : 1048576 < V.shape.length + V.strides.length
  · have hzV : 1048576 < V.shape.length + V.strides.length := by omega
    go_enter Try.func5, Try.ntmps5
    go_wp2_with fail
    generalize (w.alloc (.cells #[.int .i64 V.base, sV, tV] 33)) = w0 at *
    have hT0 : Below w0.heap.size w0 w0 := Below.refl _ _
    have zlV : w.heap.size < w0.heap.size := bV_0.lt
    refine (szView_no _ V 1048576 _ (hv1V.ext hT0) hzV (by omega)).mono ?_; rintro e w1 ⟨rfl, hb1⟩
    have z1 : w0.heap.size ≤ w1.heap.size := hb1.size
    have hT1 : Below w0.heap.size w0 w1 := hT0.trans (hb1.mono (by omega))
    go_wp2
    go_ret
    exact ⟨rfl, hW.trans (hT1.mono hW.size)⟩
  have hsz1V : V.shape.length ≤ 1048576 := by omega
  have hsz2V : V.strides.length ≤ 1048576 := by omega
  go_enter Try.func5, Try.ntmps5
  go_wp2_with fail
  generalize (w.alloc (.cells #[.int .i64 V.base, sV, tV] 33)) = w0 at *
  have hT0 : Below w0.heap.size w0 w0 := Below.refl _ _
  have zlV : w.heap.size < w0.heap.size := bV_0.lt
  refine (szView_ok _ V 1048576 _ hv1V (by omega) (by omega)).mono ?_; rintro e w1 ⟨rfl, hb1⟩
  have z1 : w0.heap.size ≤ w1.heap.size := hb1.size
  have hT1 : Below w0.heap.size w0 w1 := hT0.trans (hb1.mono (by omega))
  have bV_1 := (Blk.ext bV_0 hb1 (Blk.lt bV_0))
  obtain ⟨⟨qV_1_0, qV_1_1, qV_1_2⟩, -⟩ := id bV_1.all3
  go_wp2_with fail
  refine (toView_any _ V _ (hv1V.ext hT1) hsz1V hsz2V).mono ?_; rintro e w2 ⟨xwVs, xwVt, rfl, howVs, howVt, sepwV, hb2⟩
  clear qV_1_0 qV_1_1 qV_1_2
  have z2 : w1.heap.size ≤ w2.heap.size := hb2.size
  have hT2 : Below w0.heap.size w0 w2 := hT1.trans (hb2.mono (by omega))
  have bV_2 := (Blk.ext bV_1 hb2 (Blk.lt bV_1))
  clear bV_1
  obtain ⟨⟨qV_2_0, qV_2_1, qV_2_2⟩, -⟩ := id bV_2.all3
  go_wp2_with fail
  refine (sOffsetsOf_any _ V _ (Own.view howVs howVt)).mono ?_; rintro e w3 ⟨rw, rfl, howr, hb3⟩
  clear qV_2_0 qV_2_1 qV_2_2
  have z3 : w2.heap.size ≤ w3.heap.size := hb3.size
  have hT3 : Below w0.heap.size w0 w3 := hT2.trans (hb3.mono (by omega))
  have bV_3 := (Blk.ext bV_2 hb3 (Blk.lt bV_2))
  clear bV_2
  obtain ⟨⟨qV_3_0, qV_3_1, qV_3_2⟩, -⟩ := id bV_3.all3
  have sgwr := howr.seg
  go_wp2_with fail
  refine (toView_any _ V _ (hv1V.ext hT3) hsz1V hsz2V).mono ?_; rintro e w4 ⟨xxVs, xxVt, rfl, hoxVs, hoxVt, sepxV, hb4⟩
  clear qV_3_0 qV_3_1 qV_3_2
  have z4 : w3.heap.size ≤ w4.heap.size := hb4.size
  have hT4 : Below w0.heap.size w0 w4 := hT3.trans (hb4.mono (by omega))
  have bV_4 := (Blk.ext bV_3 hb4 (Blk.lt bV_3))
  clear bV_3
  obtain ⟨⟨qV_4_0, qV_4_1, qV_4_2⟩, -⟩ := id bV_4.all3
  have sgxVs := hoxVs.seg
  have sgxVt := hoxVt.seg
  obtain ⟨AxVs, cxVs, exVs⟩ := hoxVs.form
  obtain ⟨AxVt, cxVt, exVt⟩ := hoxVt.form
  subst exVs exVt
  have bxV_5 := Blk.new w4 36 #[.int .i64 V.base, .slice AxVs V.shape.length cxVs, .slice AxVt V.strides.length cxVt]
  have hb5 := below_alloc w4 (.cells #[.int .i64 V.base, .slice AxVs V.shape.length cxVs, .slice AxVt V.strides.length cxVt] 36)
  obtain ⟨mV_4_0, mV_4_1, mV_4_2⟩ := (Blk.ext bV_4 (below_alloc w4 (.cells #[.int .i64 V.base, .slice AxVs V.shape.length cxVs, .slice AxVt V.strides.length cxVt] 36)) (Blk.lt bV_4)).all3.1
  go_wp2_with fail
  generalize w4.alloc (.cells #[.int .i64 V.base, .slice AxVs V.shape.length cxVs, .slice AxVt V.strides.length cxVt] 36) = w5 at *
  clear qV_4_0 qV_4_1 qV_4_2 mV_4_0 mV_4_1 mV_4_2
  have z5 : w4.heap.size ≤ w5.heap.size := hb5.size
  have hT5 : Below w0.heap.size w0 w5 := hT4.trans (hb5.mono (by omega))
  have zlxV : w4.heap.size < w5.heap.size := bxV_5.lt
  have bV_5 := (Blk.ext bV_4 hb5 (Blk.lt bV_4))
  clear bV_4
  obtain ⟨⟨qV_5_0, qV_5_1, qV_5_2⟩, -⟩ := id bV_5.all3
  obtain ⟨⟨qxV_5_0, qxV_5_1, qxV_5_2⟩, -⟩ := id bxV_5.all3
  go_wp2_with fail
  refine (OffsetsOf_any _ V _ (Own.view (hoxVs.ext hb5) (hoxVt.ext hb5))).mono ?_; rintro e w6 ⟨rg, rfl, hogr, hb6⟩
  clear qV_5_0 qV_5_1 qV_5_2 qxV_5_0 qxV_5_1 qxV_5_2
  have z6 : w5.heap.size ≤ w6.heap.size := hb6.size
  have hT6 : Below w0.heap.size w0 w6 := hT5.trans (hb6.mono (by omega))
  have bV_6 := (Blk.ext bV_5 hb6 (Blk.lt bV_5))
  clear bV_5
  obtain ⟨⟨qV_6_0, qV_6_1, qV_6_2⟩, -⟩ := id bV_6.all3
  have bxV_6 := (Blk.ext bxV_5 hb6 (Blk.lt bxV_5))
  clear bxV_5
  obtain ⟨⟨qxV_6_0, qxV_6_1, qxV_6_2⟩, -⟩ := id bxV_6.all3
  have sggr := hogr.seg
  go_wp2_with fail
  refine (eqIntS_yes _ _ (offsOf V) _ (Own.ints hogr) (Own.ints (((howr.ext hb4).ext hb5).ext hb6))).mono ?_; rintro e w7 ⟨rfl, hb7⟩
  clear qV_6_0 qV_6_1 qV_6_2 qxV_6_0 qxV_6_1 qxV_6_2
  have z7 : w6.heap.size ≤ w7.heap.size := hb7.size
  have hT7 : Below w0.heap.size w0 w7 := hT6.trans (hb7.mono (by omega))
  have bV_7 := (Blk.ext bV_6 hb7 (Blk.lt bV_6))
  clear bV_6
  obtain ⟨⟨qV_7_0, qV_7_1, qV_7_2⟩, -⟩ := id bV_7.all3
  have bxV_7 := (Blk.ext bxV_6 hb7 (Blk.lt bxV_6))
  clear bxV_6
  obtain ⟨⟨qxV_7_0, qxV_7_1, qxV_7_2⟩, -⟩ := id bxV_7.all3
  go_wp2_with fail
  have hTd : Below w0.heap.size w0 w7.drew := hT7.drew
  have hoy1 := ((((hoxVs.ext hb5).ext hb6).ext hb7).ext (below_drew w7))
  have hoy2 := ((((hoxVt.ext hb5).ext hb6).ext hb7).ext (below_drew w7))
  go_region_held3 (fun w' => w'.cell? ⟨w4.heap.size, 0, none⟩ = some (.int .i64 V.base) ∧ w'.cell? ⟨w4.heap.size, 1, none⟩ = some (.slice AxVs V.shape.length cxVs) ∧ w'.cell? ⟨w4.heap.size, 2, none⟩ = some (.slice AxVt V.strides.length cxVt) ∧ w'.cell? ⟨w.heap.size, 0, none⟩ = some (.int .i64 V.base) ∧ w'.cell? ⟨w.heap.size, 1, none⟩ = some (sV) ∧ w'.cell? ⟨w.heap.size, 2, none⟩ = some (tV))
    (first | go_keep | exact hK9 | exact hK10)
    (first
      | (go_at_call 24; refine (toView_any _ V _ (hv1V.ext hTd) hsz1V hsz2V).mono ?_; rintro e w9 ⟨y1, y2, rfl, hoy3, hoy4, -, hb9⟩; have hK9 := six_cells (Blk.ext (Blk.ext bxV_7 (below_drew w7) (Blk.lt bxV_7)) hb9 (Blk.lt (Blk.ext bxV_7 (below_drew w7) (Blk.lt bxV_7)))) (Blk.ext (Blk.ext bV_7 (below_drew w7) (Blk.lt bV_7)) hb9 (Blk.lt (Blk.ext bV_7 (below_drew w7) (Blk.lt bV_7)))))
      | (go_at_call 26; refine (eqView_yes _ _ V _ (Own.view (hoy1.ext hb9) (hoy2.ext hb9)) (Own.view hoy3 hoy4)).mono ?_; rintro e w10 ⟨rfl, hb10⟩; have hK10 := six_cells (Blk.ext (Blk.ext (Blk.ext bxV_7 (below_drew w7) (Blk.lt bxV_7)) hb9 (Blk.lt (Blk.ext bxV_7 (below_drew w7) (Blk.lt bxV_7)))) hb10 (Blk.lt (Blk.ext (Blk.ext bxV_7 (below_drew w7) (Blk.lt bxV_7)) hb9 (Blk.lt (Blk.ext bxV_7 (below_drew w7) (Blk.lt bxV_7)))))) (Blk.ext (Blk.ext (Blk.ext bV_7 (below_drew w7) (Blk.lt bV_7)) hb9 (Blk.lt (Blk.ext bV_7 (below_drew w7) (Blk.lt bV_7)))) hb10 (Blk.lt (Blk.ext (Blk.ext bV_7 (below_drew w7) (Blk.lt bV_7)) hb9 (Blk.lt (Blk.ext bV_7 (below_drew w7) (Blk.lt bV_7))))))))
  clear qV_7_0 qV_7_1 qV_7_2 qxV_7_0 qxV_7_1 qxV_7_2
  clear hK9 hK10 hoy1 hoy2 hoy3 hoy4
  have z8 : w7.heap.size ≤ w7.drew.heap.size := Nat.le_refl _
  have hT8 := hTd
  clear hTd
  have z9 : w7.drew.heap.size ≤ w9.heap.size := hb9.size
  have hT9 : Below w0.heap.size w0 w9 := hT8.trans (hb9.mono (by omega))
  have z10 : w9.heap.size ≤ w10.heap.size := hb10.size
  have hT10 : Below w0.heap.size w0 w10 := hT9.trans (hb10.mono (by omega))
  have bV_10 := (Blk.ext (Blk.ext (Blk.ext bV_7 (below_drew w7) (Blk.lt bV_7)) hb9 (Blk.lt (Blk.ext bV_7 (below_drew w7) (Blk.lt bV_7)))) hb10 (Blk.lt (Blk.ext (Blk.ext bV_7 (below_drew w7) (Blk.lt bV_7)) hb9 (Blk.lt (Blk.ext bV_7 (below_drew w7) (Blk.lt bV_7))))))
  clear bV_7
  obtain ⟨⟨qV_10_0, qV_10_1, qV_10_2⟩, -⟩ := id bV_10.all3
  have bxV_10 := (Blk.ext (Blk.ext (Blk.ext bxV_7 (below_drew w7) (Blk.lt bxV_7)) hb9 (Blk.lt (Blk.ext bxV_7 (below_drew w7) (Blk.lt bxV_7)))) hb10 (Blk.lt (Blk.ext (Blk.ext bxV_7 (below_drew w7) (Blk.lt bxV_7)) hb9 (Blk.lt (Blk.ext bxV_7 (below_drew w7) (Blk.lt bxV_7))))))
  clear bxV_7
  obtain ⟨⟨qxV_10_0, qxV_10_1, qxV_10_2⟩, -⟩ := id bxV_10.all3
  go_wp2_with fail
  refine (markView_any _ _ _ V.shape V.strides (1) w3.heap.size w3.heap.size w3.heap.size w4.heap.size _ ((((((hoxVs.ext hb5).ext hb6).ext hb7).ext (below_drew w7)).ext hb9).ext hb10) ((((((hoxVt.ext hb5).ext hb6).ext hb7).ext (below_drew w7)).ext hb9).ext hb10) sepxV sgxVs sgxVt hsz1V hsz2V (by omega)).mono ?_; rintro e w11 ⟨rfl, -, -, hb11⟩
  clear qV_10_0 qV_10_1 qV_10_2 qxV_10_0 qxV_10_1 qxV_10_2
  have z11 : w10.heap.size ≤ w11.heap.size := hb11.size
  have hT11 : Below w0.heap.size w0 w11 := hT10.trans (hb11.below (by omega) (by omega))
  have bV_11 := (Blk.chg bV_10 hb11 (by omega))
  clear bV_10
  obtain ⟨⟨qV_11_0, qV_11_1, qV_11_2⟩, -⟩ := id bV_11.all3
  go_wp2_with fail
  refine (eqIntS_yes _ _ (offsOf V) _ (Own.ints (((((hogr.ext hb7).ext (below_drew w7)).ext hb9).ext hb10).chg hb11 sggr (by omega))) (Own.ints ((((((((howr.ext hb4).ext hb5).ext hb6).ext hb7).ext (below_drew w7)).ext hb9).ext hb10).chg hb11 sgwr (by omega)))).mono ?_; rintro e w12 ⟨rfl, hb12⟩
  clear qV_11_0 qV_11_1 qV_11_2
  have z12 : w11.heap.size ≤ w12.heap.size := hb12.size
  have hT12 : Below w0.heap.size w0 w12 := hT11.trans (hb12.mono (by omega))
  have bV_12 := (Blk.ext bV_11 hb12 (Blk.lt bV_11))
  clear bV_11
  obtain ⟨⟨qV_12_0, qV_12_1, qV_12_2⟩, -⟩ := id bV_12.all3
  have hlr : (offsOf V).length ≤ 1048576 := by have := offsOf_len V; omega
  go_wp2_with fail
  refine (markIntS_any _ (offsOf V) (1) _ _ ((((((hogr.ext hb7).ext (below_drew w7)).ext hb9).ext hb10).chg hb11 sggr (by omega)).ext hb12) hlr (by omega)).mono ?_; rintro e w13 ⟨rfl, hom, hw13⟩
  have hb13 := Chg.of_grown hw13 sggr
  clear qV_12_0 qV_12_1 qV_12_2
  have z13 : w12.heap.size ≤ w13.heap.size := hb13.size
  have hT13 : Below w0.heap.size w0 w13 := hT12.trans (hb13.below (by omega) (by omega))
  have bV_13 := (Blk.chg bV_12 hb13 (by omega))
  clear bV_12
  obtain ⟨⟨qV_13_0, qV_13_1, qV_13_2⟩, -⟩ := id bV_13.all3
  go_wp2_with fail
  refine (heldIntS_any _ (1) (offsOf V).length _ (Own.ints hom) hlr (by omega)).mono ?_; rintro e w' ⟨rfl, rfl⟩
  go_wp2_with fail
  refine (toView_any _ V _ (hv1V.ext hT13) hsz1V hsz2V).mono ?_; rintro e w14 ⟨xhVs, xhVt, rfl, hohVs, hohVt, sephV, hb14⟩
  clear qV_13_0 qV_13_1 qV_13_2
  have z14 : w13.heap.size ≤ w14.heap.size := hb14.size
  have hT14 : Below w0.heap.size w0 w14 := hT13.trans (hb14.mono (by omega))
  have bV_14 := (Blk.ext bV_13 hb14 (Blk.lt bV_13))
  clear bV_13
  obtain ⟨⟨qV_14_0, qV_14_1, qV_14_2⟩, -⟩ := id bV_14.all3
  go_wp2_with fail
  refine (OffsetsOf_any _ V _ (Own.view hohVs hohVt)).mono ?_; rintro e w15 ⟨rh, rfl, hohr, hb15⟩
  clear qV_14_0 qV_14_1 qV_14_2
  have z15 : w14.heap.size ≤ w15.heap.size := hb15.size
  have hT15 : Below w0.heap.size w0 w15 := hT14.trans (hb15.mono (by omega))
  have bV_15 := (Blk.ext bV_14 hb15 (Blk.lt bV_14))
  clear bV_14
  obtain ⟨⟨qV_15_0, qV_15_1, qV_15_2⟩, -⟩ := id bV_15.all3
  have sghr := hohr.seg
  go_wp2_with fail
  refine (eqIntS_yes _ _ (offsOf V) _ (Own.ints hohr) (Own.ints ((((((((((((howr.ext hb4).ext hb5).ext hb6).ext hb7).ext (below_drew w7)).ext hb9).ext hb10).chg hb11 sgwr (by omega)).ext hb12).chg hb13 sgwr (by omega)).ext hb14).ext hb15))).mono ?_; rintro e w16 ⟨rfl, hb16⟩
  clear qV_15_0 qV_15_1 qV_15_2
  have z16 : w15.heap.size ≤ w16.heap.size := hb16.size
  have hT16 : Below w0.heap.size w0 w16 := hT15.trans (hb16.mono (by omega))
  have bV_16 := (Blk.ext bV_15 hb16 (Blk.lt bV_15))
  clear bV_15
  obtain ⟨⟨qV_16_0, qV_16_1, qV_16_2⟩, -⟩ := id bV_16.all3
  go_wp2_with fail
  refine (heldIntS_any _ (1) (offsOf V).length _ (Own.ints (((hom.ext hb14).ext hb15).ext hb16)) hlr (by omega)).mono ?_; rintro e w' ⟨rfl, rfl⟩
  go_wp2
  go_ret
  exact ⟨rfl, hW.trans (hT16.mono hW.size)⟩

end Go.Proofs.Ytpcahfdpbbcapaa
