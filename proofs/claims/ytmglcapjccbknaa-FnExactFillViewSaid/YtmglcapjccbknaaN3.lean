/- The walks of exact laws: each answers true at every input and changes nothing that was there. No conditions. (printed by genlaw.py) -/
import Derived.Test.YtmglcapjccbknaaK4
import Derived.Test.YtmglcapjccbknaaL2
import Derived.Deep.RegionHeld3
namespace Go.Proofs.Ytmglcapjccbknaa
open Go.RowKit

set_option maxRecDepth 100000 in
set_option maxHeartbeats 3200000 in
theorem FnExactFillView_walk (vM : Value) (M : List Int) (vV : Value) (V : VL) (X : Int) (w : World) (hvM : Ints w vM M) (hvV : ViewV w vV V) (wfX : -9223372036854775808 ≤ X ∧ X ≤ 9223372036854775807) :
    Calls Try.prog 5 #[vM, vV, .int .i64 X] w fun e w' => e = .returned (.bool true) ∧ Below w.heap.size w w' := by
  have hv0V := hvV
  obtain ⟨sV, tV, rfl, -, -⟩ := hvV
  obtain ⟨wfX1, wfX2⟩ := wfX
  have hW : Below w.heap.size w (w.alloc (.cells #[.int .i64 V.base, sV, tV] 24)) := Below.alloc (Below.refl w.heap.size w) (by simp <;> omega) (.cells #[.int .i64 V.base, sV, tV] 24)
  have bV_0 : Blk (w.alloc (.cells #[.int .i64 V.base, sV, tV] 24)) (w.heap.size) 24 #[.int .i64 V.base, sV, tV] := (Blk.new w 24 #[.int .i64 V.base, sV, tV])
  have hv1M := hvM.ext hW
  have hv1V := hv0V.ext hW
  by_cases hlM : 1048576 < M.length
  · obtain ⟨A0, c0, rfl, hk0, hm0, -⟩ := hvM
    unfold maxLen at hm0
    clear hv1M
    go_enter Try.func5, Try.ntmps5
    go_wp2
    go_ret
    exact ⟨rfl, hW⟩
  have hlM : M.length ≤ 1048576 := by omega
  by_cases hsV : 1048576 < V.shape.length + V.strides.length
  · have hzV : 1048576 < V.shape.length + V.strides.length := by omega
    obtain ⟨AM0, cM0, rfl, hkM0, hmM0, -⟩ := hvM
    unfold maxLen at hmM0
    go_enter Try.func5, Try.ntmps5
    go_wp2_with fail
    generalize (w.alloc (.cells #[.int .i64 V.base, sV, tV] 24)) = w0 at *
    have hT0 : Below w0.heap.size w0 w0 := Below.refl _ _
    have zlV : w.heap.size < w0.heap.size := bV_0.lt
    refine (szView_no _ V 1048576 _ (hv1V.ext hT0) hzV (by omega)).mono ?_; rintro e w1 ⟨rfl, hb1⟩
    have z1 : w0.heap.size ≤ w1.heap.size := hb1.size
    have hT1 : Below w0.heap.size w0 w1 := hT0.trans (hb1.mono (by omega))
    go_wp2
    go_ret
    exact ⟨rfl, hW.trans (hT1.mono hW.size)⟩
  have hsz1V : V.shape.length ≤ 1048576 := by omega
  have hsz2V : V.strides.length ≤ 1048576 := by omega
  obtain ⟨AM0, cM0, rfl, hkM0, hmM0, -⟩ := id hvM
  unfold maxLen at hmM0
  go_enter Try.func5, Try.ntmps5
  go_wp2_with fail
  generalize (w.alloc (.cells #[.int .i64 V.base, sV, tV] 24)) = w0 at *
  have hT0 : Below w0.heap.size w0 w0 := Below.refl _ _
  have zlV : w.heap.size < w0.heap.size := bV_0.lt
  refine (szView_ok _ V 1048576 _ hv1V (by omega) (by omega)).mono ?_; rintro e w1 ⟨rfl, hb1⟩
  have z1 : w0.heap.size ≤ w1.heap.size := hb1.size
  have hT1 : Below w0.heap.size w0 w1 := hT0.trans (hb1.mono (by omega))
  have bV_1 := (Blk.ext bV_0 hb1 (Blk.lt bV_0))
  obtain ⟨⟨qV_1_0, qV_1_1, qV_1_2⟩, -⟩ := id bV_1.all3
  go_wp2_with fail
  have hTd : Below w0.heap.size w0 w1.drew := hT1.drew
  have tokwM : True := trivial
  have tokwV : True := trivial
  go_region_held3 (fun w' => w'.cell? ⟨w.heap.size, 0, none⟩ = some (.int .i64 V.base) ∧ w'.cell? ⟨w.heap.size, 1, none⟩ = some (sV) ∧ w'.cell? ⟨w.heap.size, 2, none⟩ = some (tV))
    (first | go_keep | exact hK3 | exact hK4 | exact hK5)
    (first
      | (go_at_call 17; have _t := tokwM; refine (toIntS_any _ M _ (hv1M.ext hTd) hlM).mono ?_; rintro e w3 ⟨xwM, rfl, howM, hb3⟩; clear tokwM; have hTa3 := bstep hTd hb3 hTd.size; have hkV_3 := (Blk.ext (Blk.ext bV_1 (below_drew w1) (Blk.lt bV_1)) hb3 (Blk.lt (Blk.ext bV_1 (below_drew w1) (Blk.lt bV_1)))); have hK3 := (hkV_3).all3.1)
      | (go_at_call 18; have _t := tokwV; refine (toView_any _ V _ (hv1V.ext hTa3) hsz1V hsz2V).mono ?_; rintro e w4 ⟨xwVs, xwVt, rfl, howVs, howVt, sepwV, hb4⟩; clear tokwV; have hTa4 := bstep hTa3 hb4 hTa3.size; have hkV_4 := (Blk.ext (Blk.ext (Blk.ext bV_1 (below_drew w1) (Blk.lt bV_1)) hb3 (Blk.lt (Blk.ext bV_1 (below_drew w1) (Blk.lt bV_1)))) hb4 (Blk.lt (Blk.ext (Blk.ext bV_1 (below_drew w1) (Blk.lt bV_1)) hb3 (Blk.lt (Blk.ext bV_1 (below_drew w1) (Blk.lt bV_1)))))); have hK4 := (hkV_4).all3.1)
      | (go_at_call 27; refine (sFillView_any _ _ M V X _ (Own.ints (howM.ext hb4)) (Own.view howVs howVt) ⟨wfX1, wfX2⟩).mono ?_; rintro e w5 ⟨rw, rfl, howr, hb5⟩; have hkV_5 := (Blk.ext (Blk.ext (Blk.ext (Blk.ext bV_1 (below_drew w1) (Blk.lt bV_1)) hb3 (Blk.lt (Blk.ext bV_1 (below_drew w1) (Blk.lt bV_1)))) hb4 (Blk.lt (Blk.ext (Blk.ext bV_1 (below_drew w1) (Blk.lt bV_1)) hb3 (Blk.lt (Blk.ext bV_1 (below_drew w1) (Blk.lt bV_1)))))) hb5 (Blk.lt (Blk.ext (Blk.ext (Blk.ext bV_1 (below_drew w1) (Blk.lt bV_1)) hb3 (Blk.lt (Blk.ext bV_1 (below_drew w1) (Blk.lt bV_1)))) hb4 (Blk.lt (Blk.ext (Blk.ext bV_1 (below_drew w1) (Blk.lt bV_1)) hb3 (Blk.lt (Blk.ext bV_1 (below_drew w1) (Blk.lt bV_1)))))))); have hK5 := (hkV_5).all3.1))
  clear hK3 hK4 hK5
  clear qV_1_0 qV_1_1 qV_1_2
  have z2 : w1.heap.size ≤ w1.drew.heap.size := Nat.le_refl _
  have hT2 := hTd
  have z3 : w1.drew.heap.size ≤ w3.heap.size := hb3.size
  have hT3 : Below w0.heap.size w0 w3 := hT2.trans (hb3.mono (by omega))
  have z4 : w3.heap.size ≤ w4.heap.size := hb4.size
  have hT4 : Below w0.heap.size w0 w4 := hT3.trans (hb4.mono (by omega))
  have z5 : w4.heap.size ≤ w5.heap.size := hb5.size
  have hT5 : Below w0.heap.size w0 w5 := hT4.trans (hb5.mono (by omega))
  have bV_5 := (Blk.ext (Blk.ext (Blk.ext (Blk.ext bV_1 (below_drew w1) (Blk.lt bV_1)) hb3 (Blk.lt (Blk.ext bV_1 (below_drew w1) (Blk.lt bV_1)))) hb4 (Blk.lt (Blk.ext (Blk.ext bV_1 (below_drew w1) (Blk.lt bV_1)) hb3 (Blk.lt (Blk.ext bV_1 (below_drew w1) (Blk.lt bV_1)))))) hb5 (Blk.lt (Blk.ext (Blk.ext (Blk.ext bV_1 (below_drew w1) (Blk.lt bV_1)) hb3 (Blk.lt (Blk.ext bV_1 (below_drew w1) (Blk.lt bV_1)))) hb4 (Blk.lt (Blk.ext (Blk.ext bV_1 (below_drew w1) (Blk.lt bV_1)) hb3 (Blk.lt (Blk.ext bV_1 (below_drew w1) (Blk.lt bV_1))))))))
  clear bV_1
  obtain ⟨⟨qV_5_0, qV_5_1, qV_5_2⟩, -⟩ := id bV_5.all3
  have sgwr := howr.seg
  go_wp2_with fail
  refine (toIntS_any _ M _ (hv1M.ext hT5) hlM).mono ?_; rintro e w6 ⟨xxM, rfl, hoxM, hb6⟩
  clear qV_5_0 qV_5_1 qV_5_2
  have z6 : w5.heap.size ≤ w6.heap.size := hb6.size
  have hT6 : Below w0.heap.size w0 w6 := hT5.trans (hb6.mono (by omega))
  have bV_6 := (Blk.ext bV_5 hb6 (Blk.lt bV_5))
  clear bV_5
  obtain ⟨⟨qV_6_0, qV_6_1, qV_6_2⟩, -⟩ := id bV_6.all3
  have sgxM := hoxM.seg
  go_wp2_with fail
  refine (toView_any _ V _ (hv1V.ext hT6) hsz1V hsz2V).mono ?_; rintro e w7 ⟨xxVs, xxVt, rfl, hoxVs, hoxVt, sepxV, hb7⟩
  clear qV_6_0 qV_6_1 qV_6_2
  have z7 : w6.heap.size ≤ w7.heap.size := hb7.size
  have hT7 : Below w0.heap.size w0 w7 := hT6.trans (hb7.mono (by omega))
  have bV_7 := (Blk.ext bV_6 hb7 (Blk.lt bV_6))
  clear bV_6
  obtain ⟨⟨qV_7_0, qV_7_1, qV_7_2⟩, -⟩ := id bV_7.all3
  have sgxVs := hoxVs.seg
  have sgxVt := hoxVt.seg
  obtain ⟨AxVs, cxVs, exVs⟩ := hoxVs.form
  obtain ⟨AxVt, cxVt, exVt⟩ := hoxVt.form
  subst exVs exVt
  have bxV_8 := Blk.new w7 28 #[.int .i64 V.base, .slice AxVs V.shape.length cxVs, .slice AxVt V.strides.length cxVt]
  have hb8 := below_alloc w7 (.cells #[.int .i64 V.base, .slice AxVs V.shape.length cxVs, .slice AxVt V.strides.length cxVt] 28)
  obtain ⟨mV_7_0, mV_7_1, mV_7_2⟩ := (Blk.ext bV_7 (below_alloc w7 (.cells #[.int .i64 V.base, .slice AxVs V.shape.length cxVs, .slice AxVt V.strides.length cxVt] 28)) (Blk.lt bV_7)).all3.1
  go_wp2_with fail
  generalize w7.alloc (.cells #[.int .i64 V.base, .slice AxVs V.shape.length cxVs, .slice AxVt V.strides.length cxVt] 28) = w8 at *
  clear qV_7_0 qV_7_1 qV_7_2 mV_7_0 mV_7_1 mV_7_2
  have z8 : w7.heap.size ≤ w8.heap.size := hb8.size
  have hT8 : Below w0.heap.size w0 w8 := hT7.trans (hb8.mono (by omega))
  have zlxV : w7.heap.size < w8.heap.size := bxV_8.lt
  have bV_8 := (Blk.ext bV_7 hb8 (Blk.lt bV_7))
  clear bV_7
  obtain ⟨⟨qV_8_0, qV_8_1, qV_8_2⟩, -⟩ := id bV_8.all3
  obtain ⟨⟨qxV_8_0, qxV_8_1, qxV_8_2⟩, -⟩ := id bxV_8.all3
  go_wp2_with fail
  refine (FillView_any _ _ M V X _ (Own.ints ((hoxM.ext hb7).ext hb8)) (Own.view (hoxVs.ext hb8) (hoxVt.ext hb8)) ⟨wfX1, wfX2⟩).mono ?_; rintro e w9 ⟨rg, rfl, hogr, hb9⟩
  clear qV_8_0 qV_8_1 qV_8_2 qxV_8_0 qxV_8_1 qxV_8_2
  have z9 : w8.heap.size ≤ w9.heap.size := hb9.size
  have hT9 : Below w0.heap.size w0 w9 := hT8.trans (hb9.mono (by omega))
  have bV_9 := (Blk.ext bV_8 hb9 (Blk.lt bV_8))
  clear bV_8
  obtain ⟨⟨qV_9_0, qV_9_1, qV_9_2⟩, -⟩ := id bV_9.all3
  have bxV_9 := (Blk.ext bxV_8 hb9 (Blk.lt bxV_8))
  clear bxV_8
  obtain ⟨⟨qxV_9_0, qxV_9_1, qxV_9_2⟩, -⟩ := id bxV_9.all3
  have sggr := hogr.seg
  go_wp2_with fail
  refine (eqIntS_yes _ _ (fillL M V X) _ (Own.ints hogr) (Own.ints ((((howr.ext hb6).ext hb7).ext hb8).ext hb9))).mono ?_; rintro e w10 ⟨rfl, hb10⟩
  clear qV_9_0 qV_9_1 qV_9_2 qxV_9_0 qxV_9_1 qxV_9_2
  have z10 : w9.heap.size ≤ w10.heap.size := hb10.size
  have hT10 : Below w0.heap.size w0 w10 := hT9.trans (hb10.mono (by omega))
  have bV_10 := (Blk.ext bV_9 hb10 (Blk.lt bV_9))
  clear bV_9
  obtain ⟨⟨qV_10_0, qV_10_1, qV_10_2⟩, -⟩ := id bV_10.all3
  have bxV_10 := (Blk.ext bxV_9 hb10 (Blk.lt bxV_9))
  clear bxV_9
  obtain ⟨⟨qxV_10_0, qxV_10_1, qxV_10_2⟩, -⟩ := id bxV_10.all3
  go_wp2_with fail
  refine (toIntS_any _ M _ (hv1M.ext hT10) hlM).mono ?_; rintro e w11 ⟨yy, rfl, hoyy, hb11⟩
  clear qV_10_0 qV_10_1 qV_10_2 qxV_10_0 qxV_10_1 qxV_10_2
  have z11 : w10.heap.size ≤ w11.heap.size := hb11.size
  have hT11 : Below w0.heap.size w0 w11 := hT10.trans (hb11.mono (by omega))
  have bV_11 := (Blk.ext bV_10 hb11 (Blk.lt bV_10))
  clear bV_10
  obtain ⟨⟨qV_11_0, qV_11_1, qV_11_2⟩, -⟩ := id bV_11.all3
  have bxV_11 := (Blk.ext bxV_10 hb11 (Blk.lt bxV_10))
  clear bxV_10
  obtain ⟨⟨qxV_11_0, qxV_11_1, qxV_11_2⟩, -⟩ := id bxV_11.all3
  go_wp2_with fail
  refine (eqIntS_yes _ _ M _ (Own.ints (((((hoxM.ext hb7).ext hb8).ext hb9).ext hb10).ext hb11)) (Own.ints hoyy)).mono ?_; rintro e w12 ⟨rfl, hb12⟩
  clear qV_11_0 qV_11_1 qV_11_2 qxV_11_0 qxV_11_1 qxV_11_2
  have z12 : w11.heap.size ≤ w12.heap.size := hb12.size
  have hT12 : Below w0.heap.size w0 w12 := hT11.trans (hb12.mono (by omega))
  have bV_12 := (Blk.ext bV_11 hb12 (Blk.lt bV_11))
  clear bV_11
  obtain ⟨⟨qV_12_0, qV_12_1, qV_12_2⟩, -⟩ := id bV_12.all3
  have bxV_12 := (Blk.ext bxV_11 hb12 (Blk.lt bxV_11))
  clear bxV_11
  obtain ⟨⟨qxV_12_0, qxV_12_1, qxV_12_2⟩, -⟩ := id bxV_12.all3
  clear hoyy
  go_wp2_with fail
  have hTd : Below w0.heap.size w0 w12.drew := hT12.drew
  have hoy1 := ((((((hoxVs.ext hb8).ext hb9).ext hb10).ext hb11).ext hb12).ext (below_drew w12))
  have hoy2 := ((((((hoxVt.ext hb8).ext hb9).ext hb10).ext hb11).ext hb12).ext (below_drew w12))
  go_region_held3 (fun w' => w'.cell? ⟨w7.heap.size, 0, none⟩ = some (.int .i64 V.base) ∧ w'.cell? ⟨w7.heap.size, 1, none⟩ = some (.slice AxVs V.shape.length cxVs) ∧ w'.cell? ⟨w7.heap.size, 2, none⟩ = some (.slice AxVt V.strides.length cxVt) ∧ w'.cell? ⟨w.heap.size, 0, none⟩ = some (.int .i64 V.base) ∧ w'.cell? ⟨w.heap.size, 1, none⟩ = some (sV) ∧ w'.cell? ⟨w.heap.size, 2, none⟩ = some (tV))
    (first | go_keep | exact hK14 | exact hK15)
    (first
      | (go_at_call 18; refine (toView_any _ V _ (hv1V.ext hTd) hsz1V hsz2V).mono ?_; rintro e w14 ⟨y1, y2, rfl, hoy3, hoy4, -, hb14⟩; have hK14 := six_cells (Blk.ext (Blk.ext bxV_12 (below_drew w12) (Blk.lt bxV_12)) hb14 (Blk.lt (Blk.ext bxV_12 (below_drew w12) (Blk.lt bxV_12)))) (Blk.ext (Blk.ext bV_12 (below_drew w12) (Blk.lt bV_12)) hb14 (Blk.lt (Blk.ext bV_12 (below_drew w12) (Blk.lt bV_12)))))
      | (go_at_call 21; refine (eqView_yes _ _ V _ (Own.view (hoy1.ext hb14) (hoy2.ext hb14)) (Own.view hoy3 hoy4)).mono ?_; rintro e w15 ⟨rfl, hb15⟩; have hK15 := six_cells (Blk.ext (Blk.ext (Blk.ext bxV_12 (below_drew w12) (Blk.lt bxV_12)) hb14 (Blk.lt (Blk.ext bxV_12 (below_drew w12) (Blk.lt bxV_12)))) hb15 (Blk.lt (Blk.ext (Blk.ext bxV_12 (below_drew w12) (Blk.lt bxV_12)) hb14 (Blk.lt (Blk.ext bxV_12 (below_drew w12) (Blk.lt bxV_12)))))) (Blk.ext (Blk.ext (Blk.ext bV_12 (below_drew w12) (Blk.lt bV_12)) hb14 (Blk.lt (Blk.ext bV_12 (below_drew w12) (Blk.lt bV_12)))) hb15 (Blk.lt (Blk.ext (Blk.ext bV_12 (below_drew w12) (Blk.lt bV_12)) hb14 (Blk.lt (Blk.ext bV_12 (below_drew w12) (Blk.lt bV_12))))))))
  clear qV_12_0 qV_12_1 qV_12_2 qxV_12_0 qxV_12_1 qxV_12_2
  clear hK14 hK15 hoy1 hoy2 hoy3 hoy4
  have z13 : w12.heap.size ≤ w12.drew.heap.size := Nat.le_refl _
  have hT13 := hTd
  clear hTd
  have z14 : w12.drew.heap.size ≤ w14.heap.size := hb14.size
  have hT14 : Below w0.heap.size w0 w14 := hT13.trans (hb14.mono (by omega))
  have z15 : w14.heap.size ≤ w15.heap.size := hb15.size
  have hT15 : Below w0.heap.size w0 w15 := hT14.trans (hb15.mono (by omega))
  have bV_15 := (Blk.ext (Blk.ext (Blk.ext bV_12 (below_drew w12) (Blk.lt bV_12)) hb14 (Blk.lt (Blk.ext bV_12 (below_drew w12) (Blk.lt bV_12)))) hb15 (Blk.lt (Blk.ext (Blk.ext bV_12 (below_drew w12) (Blk.lt bV_12)) hb14 (Blk.lt (Blk.ext bV_12 (below_drew w12) (Blk.lt bV_12))))))
  clear bV_12
  obtain ⟨⟨qV_15_0, qV_15_1, qV_15_2⟩, -⟩ := id bV_15.all3
  have bxV_15 := (Blk.ext (Blk.ext (Blk.ext bxV_12 (below_drew w12) (Blk.lt bxV_12)) hb14 (Blk.lt (Blk.ext bxV_12 (below_drew w12) (Blk.lt bxV_12)))) hb15 (Blk.lt (Blk.ext (Blk.ext bxV_12 (below_drew w12) (Blk.lt bxV_12)) hb14 (Blk.lt (Blk.ext bxV_12 (below_drew w12) (Blk.lt bxV_12))))))
  clear bxV_12
  obtain ⟨⟨qxV_15_0, qxV_15_1, qxV_15_2⟩, -⟩ := id bxV_15.all3
  go_wp2_with fail
  refine (markIntS_any _ M (1) _ _ (((((((((hoxM.ext hb7).ext hb8).ext hb9).ext hb10).ext hb11).ext hb12).ext (below_drew w12)).ext hb14).ext hb15) hlM (by omega)).mono ?_; rintro e w16 ⟨rfl, -, hw16⟩
  have hb16 := Chg.of_grown hw16 sgxM
  clear qV_15_0 qV_15_1 qV_15_2 qxV_15_0 qxV_15_1 qxV_15_2
  have z16 : w15.heap.size ≤ w16.heap.size := hb16.size
  have hT16 : Below w0.heap.size w0 w16 := hT15.trans (hb16.below (by omega) (by omega))
  have bV_16 := (Blk.chg bV_15 hb16 (by omega))
  clear bV_15
  obtain ⟨⟨qV_16_0, qV_16_1, qV_16_2⟩, -⟩ := id bV_16.all3
  have bxV_16 := (Blk.chg bxV_15 hb16 (by omega))
  clear bxV_15
  obtain ⟨⟨qxV_16_0, qxV_16_1, qxV_16_2⟩, -⟩ := id bxV_16.all3
  go_wp2_with fail
  refine (markView_any _ _ _ V.shape V.strides (1 + M.length) w6.heap.size w6.heap.size w6.heap.size w7.heap.size _ (((((((((hoxVs.ext hb8).ext hb9).ext hb10).ext hb11).ext hb12).ext (below_drew w12)).ext hb14).ext hb15).chg hb16 sgxVs (by omega)) (((((((((hoxVt.ext hb8).ext hb9).ext hb10).ext hb11).ext hb12).ext (below_drew w12)).ext hb14).ext hb15).chg hb16 sgxVt (by omega)) sepxV sgxVs sgxVt hsz1V hsz2V (by omega)).mono ?_; rintro e w17 ⟨rfl, -, -, hb17⟩
  clear qV_16_0 qV_16_1 qV_16_2 qxV_16_0 qxV_16_1 qxV_16_2
  have z17 : w16.heap.size ≤ w17.heap.size := hb17.size
  have hT17 : Below w0.heap.size w0 w17 := hT16.trans (hb17.below (by omega) (by omega))
  have bV_17 := (Blk.chg bV_16 hb17 (by omega))
  clear bV_16
  obtain ⟨⟨qV_17_0, qV_17_1, qV_17_2⟩, -⟩ := id bV_17.all3
  go_wp2_with fail
  refine (eqIntS_yes _ _ (fillL M V X) _ (Own.ints ((((((((hogr.ext hb10).ext hb11).ext hb12).ext (below_drew w12)).ext hb14).ext hb15).chg hb16 sggr (by omega)).chg hb17 sggr (by omega))) (Own.ints ((((((((((((howr.ext hb6).ext hb7).ext hb8).ext hb9).ext hb10).ext hb11).ext hb12).ext (below_drew w12)).ext hb14).ext hb15).chg hb16 sgwr (by omega)).chg hb17 sgwr (by omega)))).mono ?_; rintro e w18 ⟨rfl, hb18⟩
  clear qV_17_0 qV_17_1 qV_17_2
  have z18 : w17.heap.size ≤ w18.heap.size := hb18.size
  have hT18 : Below w0.heap.size w0 w18 := hT17.trans (hb18.mono (by omega))
  have bV_18 := (Blk.ext bV_17 hb18 (Blk.lt bV_17))
  clear bV_17
  obtain ⟨⟨qV_18_0, qV_18_1, qV_18_2⟩, -⟩ := id bV_18.all3
  have hlr : (fillL M V X).length ≤ 1048576 := by have := fillL_len M V X; omega
  go_wp2_with fail
  refine (markIntS_any _ (fillL M V X) (1) _ _ (((((((((hogr.ext hb10).ext hb11).ext hb12).ext (below_drew w12)).ext hb14).ext hb15).chg hb16 sggr (by omega)).chg hb17 sggr (by omega)).ext hb18) hlr (by omega)).mono ?_; rintro e w19 ⟨rfl, hom, hw19⟩
  have hb19 := Chg.of_grown hw19 sggr
  clear qV_18_0 qV_18_1 qV_18_2
  have z19 : w18.heap.size ≤ w19.heap.size := hb19.size
  have hT19 : Below w0.heap.size w0 w19 := hT18.trans (hb19.below (by omega) (by omega))
  have bV_19 := (Blk.chg bV_18 hb19 (by omega))
  clear bV_18
  obtain ⟨⟨qV_19_0, qV_19_1, qV_19_2⟩, -⟩ := id bV_19.all3
  go_wp2_with fail
  refine (heldIntS_any _ (1) (fillL M V X).length _ (Own.ints hom) hlr (by omega)).mono ?_; rintro e w' ⟨rfl, rfl⟩
  go_wp2_with fail
  have hTd : Below w0.heap.size w0 w19.drew := hT19.drew
  have tokhM : True := trivial
  have tokhV : True := trivial
  go_region_held3 (fun w' => w'.cell? ⟨w.heap.size, 0, none⟩ = some (.int .i64 V.base) ∧ w'.cell? ⟨w.heap.size, 1, none⟩ = some (sV) ∧ w'.cell? ⟨w.heap.size, 2, none⟩ = some (tV))
    (first | go_keep | exact hK21 | exact hK22 | exact hK23)
    (first
      | (go_at_call 17; have _t := tokhM; refine (toIntS_any _ M _ (hv1M.ext hTd) hlM).mono ?_; rintro e w21 ⟨xhM, rfl, hohM, hb21⟩; clear tokhM; have hTa21 := bstep hTd hb21 hTd.size; have hkV_21 := (Blk.ext (Blk.ext bV_19 (below_drew w19) (Blk.lt bV_19)) hb21 (Blk.lt (Blk.ext bV_19 (below_drew w19) (Blk.lt bV_19)))); have hK21 := (hkV_21).all3.1)
      | (go_at_call 18; have _t := tokhV; refine (toView_any _ V _ (hv1V.ext hTa21) hsz1V hsz2V).mono ?_; rintro e w22 ⟨xhVs, xhVt, rfl, hohVs, hohVt, sephV, hb22⟩; clear tokhV; have hTa22 := bstep hTa21 hb22 hTa21.size; have hkV_22 := (Blk.ext (Blk.ext (Blk.ext bV_19 (below_drew w19) (Blk.lt bV_19)) hb21 (Blk.lt (Blk.ext bV_19 (below_drew w19) (Blk.lt bV_19)))) hb22 (Blk.lt (Blk.ext (Blk.ext bV_19 (below_drew w19) (Blk.lt bV_19)) hb21 (Blk.lt (Blk.ext bV_19 (below_drew w19) (Blk.lt bV_19)))))); have hK22 := (hkV_22).all3.1)
      | (go_at_call 28; refine (FillView_any _ _ M V X _ (Own.ints (hohM.ext hb22)) (Own.view hohVs hohVt) ⟨wfX1, wfX2⟩).mono ?_; rintro e w23 ⟨rh, rfl, hohr, hb23⟩; have hkV_23 := (Blk.ext (Blk.ext (Blk.ext (Blk.ext bV_19 (below_drew w19) (Blk.lt bV_19)) hb21 (Blk.lt (Blk.ext bV_19 (below_drew w19) (Blk.lt bV_19)))) hb22 (Blk.lt (Blk.ext (Blk.ext bV_19 (below_drew w19) (Blk.lt bV_19)) hb21 (Blk.lt (Blk.ext bV_19 (below_drew w19) (Blk.lt bV_19)))))) hb23 (Blk.lt (Blk.ext (Blk.ext (Blk.ext bV_19 (below_drew w19) (Blk.lt bV_19)) hb21 (Blk.lt (Blk.ext bV_19 (below_drew w19) (Blk.lt bV_19)))) hb22 (Blk.lt (Blk.ext (Blk.ext bV_19 (below_drew w19) (Blk.lt bV_19)) hb21 (Blk.lt (Blk.ext bV_19 (below_drew w19) (Blk.lt bV_19)))))))); have hK23 := (hkV_23).all3.1))
  clear hK21 hK22 hK23
  clear qV_19_0 qV_19_1 qV_19_2
  have z20 : w19.heap.size ≤ w19.drew.heap.size := Nat.le_refl _
  have hT20 := hTd
  have z21 : w19.drew.heap.size ≤ w21.heap.size := hb21.size
  have hT21 : Below w0.heap.size w0 w21 := hT20.trans (hb21.mono (by omega))
  have z22 : w21.heap.size ≤ w22.heap.size := hb22.size
  have hT22 : Below w0.heap.size w0 w22 := hT21.trans (hb22.mono (by omega))
  have z23 : w22.heap.size ≤ w23.heap.size := hb23.size
  have hT23 : Below w0.heap.size w0 w23 := hT22.trans (hb23.mono (by omega))
  have bV_23 := (Blk.ext (Blk.ext (Blk.ext (Blk.ext bV_19 (below_drew w19) (Blk.lt bV_19)) hb21 (Blk.lt (Blk.ext bV_19 (below_drew w19) (Blk.lt bV_19)))) hb22 (Blk.lt (Blk.ext (Blk.ext bV_19 (below_drew w19) (Blk.lt bV_19)) hb21 (Blk.lt (Blk.ext bV_19 (below_drew w19) (Blk.lt bV_19)))))) hb23 (Blk.lt (Blk.ext (Blk.ext (Blk.ext bV_19 (below_drew w19) (Blk.lt bV_19)) hb21 (Blk.lt (Blk.ext bV_19 (below_drew w19) (Blk.lt bV_19)))) hb22 (Blk.lt (Blk.ext (Blk.ext bV_19 (below_drew w19) (Blk.lt bV_19)) hb21 (Blk.lt (Blk.ext bV_19 (below_drew w19) (Blk.lt bV_19))))))))
  clear bV_19
  obtain ⟨⟨qV_23_0, qV_23_1, qV_23_2⟩, -⟩ := id bV_23.all3
  have sghr := hohr.seg
  go_wp2_with fail
  refine (eqIntS_yes _ _ (fillL M V X) _ (Own.ints hohr) (Own.ints ((((((((((((((((((howr.ext hb6).ext hb7).ext hb8).ext hb9).ext hb10).ext hb11).ext hb12).ext (below_drew w12)).ext hb14).ext hb15).chg hb16 sgwr (by omega)).chg hb17 sgwr (by omega)).ext hb18).chg hb19 sgwr (by omega)).ext (below_drew w19)).ext hb21).ext hb22).ext hb23))).mono ?_; rintro e w24 ⟨rfl, hb24⟩
  clear qV_23_0 qV_23_1 qV_23_2
  have z24 : w23.heap.size ≤ w24.heap.size := hb24.size
  have hT24 : Below w0.heap.size w0 w24 := hT23.trans (hb24.mono (by omega))
  have bV_24 := (Blk.ext bV_23 hb24 (Blk.lt bV_23))
  clear bV_23
  obtain ⟨⟨qV_24_0, qV_24_1, qV_24_2⟩, -⟩ := id bV_24.all3
  go_wp2_with fail
  refine (heldIntS_any _ (1) (fillL M V X).length _ (Own.ints (((((hom.ext (below_drew w19)).ext hb21).ext hb22).ext hb23).ext hb24)) hlr (by omega)).mono ?_; rintro e w' ⟨rfl, rfl⟩
  go_wp2
  go_ret
  exact ⟨rfl, hW.trans (hT24.mono hW.size)⟩

end Go.Proofs.Ytmglcapjccbknaa
