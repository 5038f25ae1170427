/- The walks of exact laws: each answers true at every input and changes nothing that was there. No conditions. (printed by genlaw.py) -/
import Derived.Test.YtmglcapjccbknaaK3
import Derived.Test.YtmglcapjccbknaaL2
import Derived.Deep.RegionHeld3
namespace Go.Proofs.Ytmglcapjccbknaa
open Go.RowKit

set_option maxRecDepth 100000 in
set_option maxHeartbeats 3200000 in
theorem FnExactSumView_walk (vM : Value) (M : List Int) (vV : Value) (V : VL) (w : World) (hvM : Ints w vM M) (hvV : ViewV w vV V) :
    Calls Try.prog 4 #[vM, vV] w fun e w' => e = .returned (.bool true) ∧ Below w.heap.size w w' := by
  have hv0V := hvV
  obtain ⟨sV, tV, rfl, -, -⟩ := hvV
  have hW : Below w.heap.size w (w.alloc (.cells #[.int .i64 V.base, sV, tV] 24)) := Below.alloc (Below.refl w.heap.size w) (by simp <;> omega) (.cells #[.int .i64 V.base, sV, tV] 24)
  have bV_0 : Blk (w.alloc (.cells #[.int .i64 V.base, sV, tV] 24)) (w.heap.size) 24 #[.int .i64 V.base, sV, tV] := (Blk.new w 24 #[.int .i64 V.base, sV, tV])
  have hv1M := hvM.ext hW
  have hv1V := hv0V.ext hW
  by_cases hlM : 1048576 < M.length
  · obtain ⟨A0, c0, rfl, hk0, hm0, -⟩ := hvM
    unfold maxLen at hm0
    clear hv1M
    go_enter Try.func4, Try.ntmps4
    go_wp2
    go_ret
    exact ⟨rfl, hW⟩
  have hlM : M.length ≤ 1048576 := by omega
  by_cases hsV : 1048576 < V.shape.length + V.strides.length
  · have hzV : 1048576 < V.shape.length + V.strides.length := by omega
    obtain ⟨AM0, cM0, rfl, hkM0, hmM0, -⟩ := hvM
    unfold maxLen at hmM0
    go_enter Try.func4, Try.ntmps4
    go_wp2_with fail
    generalize (w.alloc (.cells #[.int .i64 V.base, sV, tV] 24)) = w0 at *
    have hT0 : Below w0.heap.size w0 w0 := Below.refl _ _
    have zlV : w.heap.size < w0.heap.size := bV_0.lt
    refine (szView_no _ V 1048576 _ (hv1V.ext hT0) hzV (by omega)).mono ?_; rintro e w1 ⟨rfl, hb1⟩
    have z1 : w0.heap.size ≤ w1.heap.size := hb1.size
    have hT1 : Below w0.heap.size w0 w1 := hT0.trans (hb1.mono (by omega))
    go_wp2
    go_ret
    exact ⟨rfl, hW.trans (hT1.mono hW.size)⟩
  have hsz1V : V.shape.length ≤ 1048576 := by omega
  have hsz2V : V.strides.length ≤ 1048576 := by omega
  obtain ⟨AM0, cM0, rfl, hkM0, hmM0, -⟩ := id hvM
  unfold maxLen at hmM0
  go_enter Try.func4, Try.ntmps4
  go_wp2_with fail
  generalize (w.alloc (.cells #[.int .i64 V.base, sV, tV] 24)) = w0 at *
  have hT0 : Below w0.heap.size w0 w0 := Below.refl _ _
  have zlV : w.heap.size < w0.heap.size := bV_0.lt
  refine (szView_ok _ V 1048576 _ hv1V (by omega) (by omega)).mono ?_; rintro e w1 ⟨rfl, hb1⟩
  have z1 : w0.heap.size ≤ w1.heap.size := hb1.size
  have hT1 : Below w0.heap.size w0 w1 := hT0.trans (hb1.mono (by omega))
  have bV_1 := (Blk.ext bV_0 hb1 (Blk.lt bV_0))
  obtain ⟨⟨qV_1_0, qV_1_1, qV_1_2⟩, -⟩ := id bV_1.all3
  go_wp2_with fail
  have hTd : Below w0.heap.size w0 w1.drew := hT1.drew
  have tokwM : True := trivial
  have tokwV : True := trivial
  go_region_held3 (fun w' => w'.cell? ⟨w.heap.size, 0, none⟩ = some (.int .i64 V.base) ∧ w'.cell? ⟨w.heap.size, 1, none⟩ = some (sV) ∧ w'.cell? ⟨w.heap.size, 2, none⟩ = some (tV))
    (first | go_keep | exact hK3 | exact hK4 | exact hK5)
    (first
      | (go_at_call 17; have _t := tokwM; refine (toIntS_any _ M _ (hv1M.ext hTd) hlM).mono ?_; rintro e w3 ⟨xwM, rfl, howM, hb3⟩; clear tokwM; have hTa3 := bstep hTd hb3 hTd.size; have hkV_3 := (Blk.ext (Blk.ext bV_1 (below_drew w1) (Blk.lt bV_1)) hb3 (Blk.lt (Blk.ext bV_1 (below_drew w1) (Blk.lt bV_1)))); have hK3 := (hkV_3).all3.1)
      | (go_at_call 18; have _t := tokwV; refine (toView_any _ V _ (hv1V.ext hTa3) hsz1V hsz2V).mono ?_; rintro e w4 ⟨xwVs, xwVt, rfl, howVs, howVt, sepwV, hb4⟩; clear tokwV; have hTa4 := bstep hTa3 hb4 hTa3.size; have hkV_4 := (Blk.ext (Blk.ext (Blk.ext bV_1 (below_drew w1) (Blk.lt bV_1)) hb3 (Blk.lt (Blk.ext bV_1 (below_drew w1) (Blk.lt bV_1)))) hb4 (Blk.lt (Blk.ext (Blk.ext bV_1 (below_drew w1) (Blk.lt bV_1)) hb3 (Blk.lt (Blk.ext bV_1 (below_drew w1) (Blk.lt bV_1)))))); have hK4 := (hkV_4).all3.1)
      | (go_at_call 25; refine (sSumView_any _ _ M V _ (Own.ints (howM.ext hb4)) (Own.view howVs howVt)).mono ?_; rintro e w5 ⟨rfl, hb5⟩; have hkV_5 := (Blk.ext (Blk.ext (Blk.ext (Blk.ext bV_1 (below_drew w1) (Blk.lt bV_1)) hb3 (Blk.lt (Blk.ext bV_1 (below_drew w1) (Blk.lt bV_1)))) hb4 (Blk.lt (Blk.ext (Blk.ext bV_1 (below_drew w1) (Blk.lt bV_1)) hb3 (Blk.lt (Blk.ext bV_1 (below_drew w1) (Blk.lt bV_1)))))) hb5 (Blk.lt (Blk.ext (Blk.ext (Blk.ext bV_1 (below_drew w1) (Blk.lt bV_1)) hb3 (Blk.lt (Blk.ext bV_1 (below_drew w1) (Blk.lt bV_1)))) hb4 (Blk.lt (Blk.ext (Blk.ext bV_1 (below_drew w1) (Blk.lt bV_1)) hb3 (Blk.lt (Blk.ext bV_1 (below_drew w1) (Blk.lt bV_1)))))))); have hK5 := (hkV_5).all3.1))
  clear hK3 hK4 hK5
  clear qV_1_0 qV_1_1 qV_1_2
  have z2 : w1.heap.size ≤ w1.drew.heap.size := Nat.le_refl _
  have hT2 := hTd
  have z3 : w1.drew.heap.size ≤ w3.heap.size := hb3.size
  have hT3 : Below w0.heap.size w0 w3 := hT2.trans (hb3.mono (by omega))
  have z4 : w3.heap.size ≤ w4.heap.size := hb4.size
  have hT4 : Below w0.heap.size w0 w4 := hT3.trans (hb4.mono (by omega))
  have z5 : w4.heap.size ≤ w5.heap.size := hb5.size
  have hT5 : Below w0.heap.size w0 w5 := hT4.trans (hb5.mono (by omega))
  have bV_5 := (Blk.ext (Blk.ext (Blk.ext (Blk.ext bV_1 (below_drew w1) (Blk.lt bV_1)) hb3 (Blk.lt (Blk.ext bV_1 (below_drew w1) (Blk.lt bV_1)))) hb4 (Blk.lt (Blk.ext (Blk.ext bV_1 (below_drew w1) (Blk.lt bV_1)) hb3 (Blk.lt (Blk.ext bV_1 (below_drew w1) (Blk.lt bV_1)))))) hb5 (Blk.lt (Blk.ext (Blk.ext (Blk.ext bV_1 (below_drew w1) (Blk.lt bV_1)) hb3 (Blk.lt (Blk.ext bV_1 (below_drew w1) (Blk.lt bV_1)))) hb4 (Blk.lt (Blk.ext (Blk.ext bV_1 (below_drew w1) (Blk.lt bV_1)) hb3 (Blk.lt (Blk.ext bV_1 (below_drew w1) (Blk.lt bV_1))))))))
  clear bV_1
  obtain ⟨⟨qV_5_0, qV_5_1, qV_5_2⟩, -⟩ := id bV_5.all3
  go_wp2_with fail
  refine (toIntS_any _ M _ (hv1M.ext hT5) hlM).mono ?_; rintro e w6 ⟨xxM, rfl, hoxM, hb6⟩
  clear qV_5_0 qV_5_1 qV_5_2
  have z6 : w5.heap.size ≤ w6.heap.size := hb6.size
  have hT6 : Below w0.heap.size w0 w6 := hT5.trans (hb6.mono (by omega))
  have bV_6 := (Blk.ext bV_5 hb6 (Blk.lt bV_5))
  clear bV_5
  obtain ⟨⟨qV_6_0, qV_6_1, qV_6_2⟩, -⟩ := id bV_6.all3
  have sgxM := hoxM.seg
  go_wp2_with fail
  refine (toView_any _ V _ (hv1V.ext hT6) hsz1V hsz2V).mono ?_; rintro e w7 ⟨xxVs, xxVt, rfl, hoxVs, hoxVt, sepxV, hb7⟩
  clear qV_6_0 qV_6_1 qV_6_2
  have z7 : w6.heap.size ≤ w7.heap.size := hb7.size
  have hT7 : Below w0.heap.size w0 w7 := hT6.trans (hb7.mono (by omega))
  have bV_7 := (Blk.ext bV_6 hb7 (Blk.lt bV_6))
  clear bV_6
  obtain ⟨⟨qV_7_0, qV_7_1, qV_7_2⟩, -⟩ := id bV_7.all3
  have sgxVs := hoxVs.seg
  have sgxVt := hoxVt.seg
  obtain ⟨AxVs, cxVs, exVs⟩ := hoxVs.form
  obtain ⟨AxVt, cxVt, exVt⟩ := hoxVt.form
  subst exVs exVt
  have bxV_8 := Blk.new w7 28 #[.int .i64 V.base, .slice AxVs V.shape.length cxVs, .slice AxVt V.strides.length cxVt]
  have hb8 := below_alloc w7 (.cells #[.int .i64 V.base, .slice AxVs V.shape.length cxVs, .slice AxVt V.strides.length cxVt] 28)
  obtain ⟨mV_7_0, mV_7_1, mV_7_2⟩ := (Blk.ext bV_7 (below_alloc w7 (.cells #[.int .i64 V.base, .slice AxVs V.shape.length cxVs, .slice AxVt V.strides.length cxVt] 28)) (Blk.lt bV_7)).all3.1
  go_wp2_with fail
  generalize w7.alloc (.cells #[.int .i64 V.base, .slice AxVs V.shape.length cxVs, .slice AxVt V.strides.length cxVt] 28) = w8 at *
  clear qV_7_0 qV_7_1 qV_7_2 mV_7_0 mV_7_1 mV_7_2
  have z8 : w7.heap.size ≤ w8.heap.size := hb8.size
  have hT8 : Below w0.heap.size w0 w8 := hT7.trans (hb8.mono (by omega))
  have zlxV : w7.heap.size < w8.heap.size := bxV_8.lt
  have bV_8 := (Blk.ext bV_7 hb8 (Blk.lt bV_7))
  clear bV_7
  obtain ⟨⟨qV_8_0, qV_8_1, qV_8_2⟩, -⟩ := id bV_8.all3
  obtain ⟨⟨qxV_8_0, qxV_8_1, qxV_8_2⟩, -⟩ := id bxV_8.all3
  go_wp2_with fail
  refine (SumView_any _ _ M V _ (Own.ints ((hoxM.ext hb7).ext hb8)) (Own.view (hoxVs.ext hb8) (hoxVt.ext hb8))).mono ?_; rintro e w9 ⟨rfl, hb9⟩
  clear qV_8_0 qV_8_1 qV_8_2 qxV_8_0 qxV_8_1 qxV_8_2
  have z9 : w8.heap.size ≤ w9.heap.size := hb9.size
  have hT9 : Below w0.heap.size w0 w9 := hT8.trans (hb9.mono (by omega))
  have bV_9 := (Blk.ext bV_8 hb9 (Blk.lt bV_8))
  clear bV_8
  obtain ⟨⟨qV_9_0, qV_9_1, qV_9_2⟩, -⟩ := id bV_9.all3
  have bxV_9 := (Blk.ext bxV_8 hb9 (Blk.lt bxV_8))
  clear bxV_8
  obtain ⟨⟨qxV_9_0, qxV_9_1, qxV_9_2⟩, -⟩ := id bxV_9.all3
  go_wp2_with fail
  refine (toIntS_any _ M _ (hv1M.ext hT9) hlM).mono ?_; rintro e w10 ⟨yy, rfl, hoyy, hb10⟩
  clear qV_9_0 qV_9_1 qV_9_2 qxV_9_0 qxV_9_1 qxV_9_2
  have z10 : w9.heap.size ≤ w10.heap.size := hb10.size
  have hT10 : Below w0.heap.size w0 w10 := hT9.trans (hb10.mono (by omega))
  have bV_10 := (Blk.ext bV_9 hb10 (Blk.lt bV_9))
  clear bV_9
  obtain ⟨⟨qV_10_0, qV_10_1, qV_10_2⟩, -⟩ := id bV_10.all3
  have bxV_10 := (Blk.ext bxV_9 hb10 (Blk.lt bxV_9))
  clear bxV_9
  obtain ⟨⟨qxV_10_0, qxV_10_1, qxV_10_2⟩, -⟩ := id bxV_10.all3
  go_wp2_with fail
  refine (eqIntS_yes _ _ M _ (Own.ints ((((hoxM.ext hb7).ext hb8).ext hb9).ext hb10)) (Own.ints hoyy)).mono ?_; rintro e w11 ⟨rfl, hb11⟩
  clear qV_10_0 qV_10_1 qV_10_2 qxV_10_0 qxV_10_1 qxV_10_2
  have z11 : w10.heap.size ≤ w11.heap.size := hb11.size
  have hT11 : Below w0.heap.size w0 w11 := hT10.trans (hb11.mono (by omega))
  have bV_11 := (Blk.ext bV_10 hb11 (Blk.lt bV_10))
  clear bV_10
  obtain ⟨⟨qV_11_0, qV_11_1, qV_11_2⟩, -⟩ := id bV_11.all3
  have bxV_11 := (Blk.ext bxV_10 hb11 (Blk.lt bxV_10))
  clear bxV_10
  obtain ⟨⟨qxV_11_0, qxV_11_1, qxV_11_2⟩, -⟩ := id bxV_11.all3
  clear hoyy
  go_wp2_with fail
  have hTd : Below w0.heap.size w0 w11.drew := hT11.drew
  have hoy1 := (((((hoxVs.ext hb8).ext hb9).ext hb10).ext hb11).ext (below_drew w11))
  have hoy2 := (((((hoxVt.ext hb8).ext hb9).ext hb10).ext hb11).ext (below_drew w11))
  go_region_held3 (fun w' => w'.cell? ⟨w7.heap.size, 0, none⟩ = some (.int .i64 V.base) ∧ w'.cell? ⟨w7.heap.size, 1, none⟩ = some (.slice AxVs V.shape.length cxVs) ∧ w'.cell? ⟨w7.heap.size, 2, none⟩ = some (.slice AxVt V.strides.length cxVt) ∧ w'.cell? ⟨w.heap.size, 0, none⟩ = some (.int .i64 V.base) ∧ w'.cell? ⟨w.heap.size, 1, none⟩ = some (sV) ∧ w'.cell? ⟨w.heap.size, 2, none⟩ = some (tV))
    (first | go_keep | exact hK13 | exact hK14)
    (first
      | (go_at_call 18; refine (toView_any _ V _ (hv1V.ext hTd) hsz1V hsz2V).mono ?_; rintro e w13 ⟨y1, y2, rfl, hoy3, hoy4, -, hb13⟩; have hK13 := six_cells (Blk.ext (Blk.ext bxV_11 (below_drew w11) (Blk.lt bxV_11)) hb13 (Blk.lt (Blk.ext bxV_11 (below_drew w11) (Blk.lt bxV_11)))) (Blk.ext (Blk.ext bV_11 (below_drew w11) (Blk.lt bV_11)) hb13 (Blk.lt (Blk.ext bV_11 (below_drew w11) (Blk.lt bV_11)))))
      | (go_at_call 21; refine (eqView_yes _ _ V _ (Own.view (hoy1.ext hb13) (hoy2.ext hb13)) (Own.view hoy3 hoy4)).mono ?_; rintro e w14 ⟨rfl, hb14⟩; have hK14 := six_cells (Blk.ext (Blk.ext (Blk.ext bxV_11 (below_drew w11) (Blk.lt bxV_11)) hb13 (Blk.lt (Blk.ext bxV_11 (below_drew w11) (Blk.lt bxV_11)))) hb14 (Blk.lt (Blk.ext (Blk.ext bxV_11 (below_drew w11) (Blk.lt bxV_11)) hb13 (Blk.lt (Blk.ext bxV_11 (below_drew w11) (Blk.lt bxV_11)))))) (Blk.ext (Blk.ext (Blk.ext bV_11 (below_drew w11) (Blk.lt bV_11)) hb13 (Blk.lt (Blk.ext bV_11 (below_drew w11) (Blk.lt bV_11)))) hb14 (Blk.lt (Blk.ext (Blk.ext bV_11 (below_drew w11) (Blk.lt bV_11)) hb13 (Blk.lt (Blk.ext bV_11 (below_drew w11) (Blk.lt bV_11))))))))
  clear qV_11_0 qV_11_1 qV_11_2 qxV_11_0 qxV_11_1 qxV_11_2
  clear hK13 hK14 hoy1 hoy2 hoy3 hoy4
  have z12 : w11.heap.size ≤ w11.drew.heap.size := Nat.le_refl _
  have hT12 := hTd
  clear hTd
  have z13 : w11.drew.heap.size ≤ w13.heap.size := hb13.size
  have hT13 : Below w0.heap.size w0 w13 := hT12.trans (hb13.mono (by omega))
  have z14 : w13.heap.size ≤ w14.heap.size := hb14.size
  have hT14 : Below w0.heap.size w0 w14 := hT13.trans (hb14.mono (by omega))
  have bV_14 := (Blk.ext (Blk.ext (Blk.ext bV_11 (below_drew w11) (Blk.lt bV_11)) hb13 (Blk.lt (Blk.ext bV_11 (below_drew w11) (Blk.lt bV_11)))) hb14 (Blk.lt (Blk.ext (Blk.ext bV_11 (below_drew w11) (Blk.lt bV_11)) hb13 (Blk.lt (Blk.ext bV_11 (below_drew w11) (Blk.lt bV_11))))))
  clear bV_11
  obtain ⟨⟨qV_14_0, qV_14_1, qV_14_2⟩, -⟩ := id bV_14.all3
  have bxV_14 := (Blk.ext (Blk.ext (Blk.ext bxV_11 (below_drew w11) (Blk.lt bxV_11)) hb13 (Blk.lt (Blk.ext bxV_11 (below_drew w11) (Blk.lt bxV_11)))) hb14 (Blk.lt (Blk.ext (Blk.ext bxV_11 (below_drew w11) (Blk.lt bxV_11)) hb13 (Blk.lt (Blk.ext bxV_11 (below_drew w11) (Blk.lt bxV_11))))))
  clear bxV_11
  obtain ⟨⟨qxV_14_0, qxV_14_1, qxV_14_2⟩, -⟩ := id bxV_14.all3
  go_wp2
  go_ret
  exact ⟨rfl, hW.trans (hT14.mono hW.size)⟩

end Go.Proofs.Ytmglcapjccbknaa
