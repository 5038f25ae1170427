/- The walks of exact laws: each answers true at every input and changes nothing that was there. No conditions. (printed by genlaw.py) -/
import Derived.Test.YtmglcapjccbknaaK9
import Derived.Test.YtmglcapjccbknaaL2
import Derived.Deep.RegionHeld3
namespace Go.Proofs.Ytmglcapjccbknaa
open Go.RowKit

set_option maxRecDepth 100000 in
set_option maxHeartbeats 3200000 in
theorem FnExactAddView_walk (vM : Value) (M : List Int) (vV : Value) (V : VL) (vU : Value) (U : List Int) (w : World) (hvM : Ints w vM M) (hvV : ViewV w vV V) (hvU : Ints w vU U) :
    Calls Try.prog 6 #[vM, vV, vU] w fun e w' => e = .returned (.bool true) ∧ Below w.heap.size w w' := by
  have hv0V := hvV
  obtain ⟨sV, tV, rfl, -, -⟩ := hvV
  have hW : Below w.heap.size w (w.alloc (.cells #[.int .i64 V.base, sV, tV] 24)) := Below.alloc (Below.refl w.heap.size w) (by simp <;> omega) (.cells #[.int .i64 V.base, sV, tV] 24)
  have bV_0 : Blk (w.alloc (.cells #[.int .i64 V.base, sV, tV] 24)) (w.heap.size) 24 #[.int .i64 V.base, sV, tV] := (Blk.new w 24 #[.int .i64 V.base, sV, tV])
  have hv1M := hvM.ext hW
  have hv1V := hv0V.ext hW
  have hv1U := hvU.ext hW
  by_cases hlM : 1048576 < M.length
  · obtain ⟨A0, c0, rfl, hk0, hm0, -⟩ := hvM
    unfold maxLen at hm0
    clear hv1M
    go_enter Try.func6, Try.ntmps6
    go_wp2
    go_ret
    exact ⟨rfl, hW⟩
  have hlM : M.length ≤ 1048576 := by omega
  by_cases hlU : 1048576 < U.length
  · obtain ⟨A0, c0, rfl, hk0, hm0, -⟩ := hvU
    unfold maxLen at hm0
    clear hv1U
    obtain ⟨AM0, cM0, rfl, hkM0, hmM0, -⟩ := hvM
    unfold maxLen at hmM0
    clear hv1M
    go_enter Try.func6, Try.ntmps6
    go_wp2
    go_ret
    exact ⟨rfl, hW⟩
  have hlU : U.length ≤ 1048576 := by omega
  by_cases hsV : 1048576 < V.shape.length + V.strides.length
  · have hzV : 1048576 < V.shape.length + V.strides.length := by omega
    obtain ⟨AM0, cM0, rfl, hkM0, hmM0, -⟩ := hvM
    unfold maxLen at hmM0
    obtain ⟨AU0, cU0, rfl, hkU0, hmU0, -⟩ := hvU
    unfold maxLen at hmU0
    go_enter Try.func6, Try.ntmps6
    go_wp2_with fail
    generalize (w.alloc (.cells #[.int .i64 V.base, sV, tV] 24)) = w0 at *
    have hT0 : Below w0.heap.size w0 w0 := Below.refl _ _
    have zlV : w.heap.size < w0.heap.size := bV_0.lt
    refine (szView_no _ V 1048576 _ (hv1V.ext hT0) hzV (by omega)).mono ?_; rintro e w1 ⟨rfl, hb1⟩
    have z1 : w0.heap.size ≤ w1.heap.size := hb1.size
    have hT1 : Below w0.heap.size w0 w1 := hT0.trans (hb1.mono (by omega))
    go_wp2
    go_ret
    exact ⟨rfl, hW.trans (hT1.mono hW.size)⟩
  have hsz1V : V.shape.length ≤ 1048576 := by omega
  have hsz2V : V.strides.length ≤ 1048576 := by omega
  obtain ⟨AM0, cM0, rfl, hkM0, hmM0, -⟩ := id hvM
  unfold maxLen at hmM0
  obtain ⟨AU0, cU0, rfl, hkU0, hmU0, -⟩ := id hvU
  unfold maxLen at hmU0
  go_enter Try.func6, Try.ntmps6
  go_wp2_with fail
  generalize (w.alloc (.cells #[.int .i64 V.base, sV, tV] 24)) = w0 at *
  have hT0 : Below w0.heap.size w0 w0 := Below.refl _ _
  have zlV : w.heap.size < w0.heap.size := bV_0.lt
  refine (szView_ok _ V 1048576 _ hv1V (by omega) (by omega)).mono ?_; rintro e w1 ⟨rfl, hb1⟩
  have z1 : w0.heap.size ≤ w1.heap.size := hb1.size
  have hT1 : Below w0.heap.size w0 w1 := hT0.trans (hb1.mono (by omega))
  have bV_1 := (Blk.ext bV_0 hb1 (Blk.lt bV_0))
  obtain ⟨⟨qV_1_0, qV_1_1, qV_1_2⟩, -⟩ := id bV_1.all3
  go_wp2_with fail
  have hTd : Below w0.heap.size w0 w1.drew := hT1.drew
  have tokwM : True := trivial
  have tokwV : True := trivial
  have tokwU : True := trivial
  go_region_held3 (fun w' => w'.cell? ⟨w.heap.size, 0, none⟩ = some (.int .i64 V.base) ∧ w'.cell? ⟨w.heap.size, 1, none⟩ = some (sV) ∧ w'.cell? ⟨w.heap.size, 2, none⟩ = some (tV))
    (first | go_keep | exact hK3 | exact hK4 | exact hK5 | exact hK6)
    (first
      | (go_at_call 17; have _t := tokwM; refine (toIntS_any _ M _ (hv1M.ext hTd) hlM).mono ?_; rintro e w3 ⟨xwM, rfl, howM, hb3⟩; clear tokwM; have hTa3 := bstep hTd hb3 hTd.size; have hkV_3 := (Blk.ext (Blk.ext bV_1 (below_drew w1) (Blk.lt bV_1)) hb3 (Blk.lt (Blk.ext bV_1 (below_drew w1) (Blk.lt bV_1)))); have hK3 := (hkV_3).all3.1)
      | (go_at_call 18; have _t := tokwV; refine (toView_any _ V _ (hv1V.ext hTa3) hsz1V hsz2V).mono ?_; rintro e w4 ⟨xwVs, xwVt, rfl, howVs, howVt, sepwV, hb4⟩; clear tokwV; have hTa4 := bstep hTa3 hb4 hTa3.size; have hkV_4 := (Blk.ext (Blk.ext (Blk.ext bV_1 (below_drew w1) (Blk.lt bV_1)) hb3 (Blk.lt (Blk.ext bV_1 (below_drew w1) (Blk.lt bV_1)))) hb4 (Blk.lt (Blk.ext (Blk.ext bV_1 (below_drew w1) (Blk.lt bV_1)) hb3 (Blk.lt (Blk.ext bV_1 (below_drew w1) (Blk.lt bV_1)))))); have hK4 := (hkV_4).all3.1)
      | (go_at_call 17; have _t := tokwU; refine (toIntS_any _ U _ (hv1U.ext hTa4) hlU).mono ?_; rintro e w5 ⟨xwU, rfl, howU, hb5⟩; clear tokwU; have hTa5 := bstep hTa4 hb5 hTa4.size; have hkV_5 := (Blk.ext (Blk.ext (Blk.ext (Blk.ext bV_1 (below_drew w1) (Blk.lt bV_1)) hb3 (Blk.lt (Blk.ext bV_1 (below_drew w1) (Blk.lt bV_1)))) hb4 (Blk.lt (Blk.ext (Blk.ext bV_1 (below_drew w1) (Blk.lt bV_1)) hb3 (Blk.lt (Blk.ext bV_1 (below_drew w1) (Blk.lt bV_1)))))) hb5 (Blk.lt (Blk.ext (Blk.ext (Blk.ext bV_1 (below_drew w1) (Blk.lt bV_1)) hb3 (Blk.lt (Blk.ext bV_1 (below_drew w1) (Blk.lt bV_1)))) hb4 (Blk.lt (Blk.ext (Blk.ext bV_1 (below_drew w1) (Blk.lt bV_1)) hb3 (Blk.lt (Blk.ext bV_1 (below_drew w1) (Blk.lt bV_1)))))))); have hK5 := (hkV_5).all3.1)
      | (go_at_call 29; refine (sAddView_any _ _ _ M V U _ (Own.ints ((howM.ext hb4).ext hb5)) (Own.view (howVs.ext hb5) (howVt.ext hb5)) (Own.ints howU)).mono ?_; rintro e w6 ⟨rw, rfl, howr, hb6⟩; have hkV_6 := (Blk.ext (Blk.ext (Blk.ext (Blk.ext (Blk.ext bV_1 (below_drew w1) (Blk.lt bV_1)) hb3 (Blk.lt (Blk.ext bV_1 (below_drew w1) (Blk.lt bV_1)))) hb4 (Blk.lt (Blk.ext (Blk.ext bV_1 (below_drew w1) (Blk.lt bV_1)) hb3 (Blk.lt (Blk.ext bV_1 (below_drew w1) (Blk.lt bV_1)))))) hb5 (Blk.lt (Blk.ext (Blk.ext (Blk.ext bV_1 (below_drew w1) (Blk.lt bV_1)) hb3 (Blk.lt (Blk.ext bV_1 (below_drew w1) (Blk.lt bV_1)))) hb4 (Blk.lt (Blk.ext (Blk.ext bV_1 (below_drew w1) (Blk.lt bV_1)) hb3 (Blk.lt (Blk.ext bV_1 (below_drew w1) (Blk.lt bV_1)))))))) hb6 (Blk.lt (Blk.ext (Blk.ext (Blk.ext (Blk.ext bV_1 (below_drew w1) (Blk.lt bV_1)) hb3 (Blk.lt (Blk.ext bV_1 (below_drew w1) (Blk.lt bV_1)))) hb4 (Blk.lt (Blk.ext (Blk.ext bV_1 (below_drew w1) (Blk.lt bV_1)) hb3 (Blk.lt (Blk.ext bV_1 (below_drew w1) (Blk.lt bV_1)))))) hb5 (Blk.lt (Blk.ext (Blk.ext (Blk.ext bV_1 (below_drew w1) (Blk.lt bV_1)) hb3 (Blk.lt (Blk.ext bV_1 (below_drew w1) (Blk.lt bV_1)))) hb4 (Blk.lt (Blk.ext (Blk.ext bV_1 (below_drew w1) (Blk.lt bV_1)) hb3 (Blk.lt (Blk.ext bV_1 (below_drew w1) (Blk.lt bV_1)))))))))); have hK6 := (hkV_6).all3.1))
  clear hK3 hK4 hK5 hK6
  clear qV_1_0 qV_1_1 qV_1_2
  have z2 : w1.heap.size ≤ w1.drew.heap.size := Nat.le_refl _
  have hT2 := hTd
  have z3 : w1.drew.heap.size ≤ w3.heap.size := hb3.size
  have hT3 : Below w0.heap.size w0 w3 := hT2.trans (hb3.mono (by omega))
  have z4 : w3.heap.size ≤ w4.heap.size := hb4.size
  have hT4 : Below w0.heap.size w0 w4 := hT3.trans (hb4.mono (by omega))
  have z5 : w4.heap.size ≤ w5.heap.size := hb5.size
  have hT5 : Below w0.heap.size w0 w5 := hT4.trans (hb5.mono (by omega))
  have z6 : w5.heap.size ≤ w6.heap.size := hb6.size
  have hT6 : Below w0.heap.size w0 w6 := hT5.trans (hb6.mono (by omega))
  have bV_6 := (Blk.ext (Blk.ext (Blk.ext (Blk.ext (Blk.ext bV_1 (below_drew w1) (Blk.lt bV_1)) hb3 (Blk.lt (Blk.ext bV_1 (below_drew w1) (Blk.lt bV_1)))) hb4 (Blk.lt (Blk.ext (Blk.ext bV_1 (below_drew w1) (Blk.lt bV_1)) hb3 (Blk.lt (Blk.ext bV_1 (below_drew w1) (Blk.lt bV_1)))))) hb5 (Blk.lt (Blk.ext (Blk.ext (Blk.ext bV_1 (below_drew w1) (Blk.lt bV_1)) hb3 (Blk.lt (Blk.ext bV_1 (below_drew w1) (Blk.lt bV_1)))) hb4 (Blk.lt (Blk.ext (Blk.ext bV_1 (below_drew w1) (Blk.lt bV_1)) hb3 (Blk.lt (Blk.ext bV_1 (below_drew w1) (Blk.lt bV_1)))))))) hb6 (Blk.lt (Blk.ext (Blk.ext (Blk.ext (Blk.ext bV_1 (below_drew w1) (Blk.lt bV_1)) hb3 (Blk.lt (Blk.ext bV_1 (below_drew w1) (Blk.lt bV_1)))) hb4 (Blk.lt (Blk.ext (Blk.ext bV_1 (below_drew w1) (Blk.lt bV_1)) hb3 (Blk.lt (Blk.ext bV_1 (below_drew w1) (Blk.lt bV_1)))))) hb5 (Blk.lt (Blk.ext (Blk.ext (Blk.ext bV_1 (below_drew w1) (Blk.lt bV_1)) hb3 (Blk.lt (Blk.ext bV_1 (below_drew w1) (Blk.lt bV_1)))) hb4 (Blk.lt (Blk.ext (Blk.ext bV_1 (below_drew w1) (Blk.lt bV_1)) hb3 (Blk.lt (Blk.ext bV_1 (below_drew w1) (Blk.lt bV_1))))))))))
  clear bV_1
  obtain ⟨⟨qV_6_0, qV_6_1, qV_6_2⟩, -⟩ := id bV_6.all3
  have sgwr := howr.seg
  go_wp2_with fail
  refine (toIntS_any _ M _ (hv1M.ext hT6) hlM).mono ?_; rintro e w7 ⟨xxM, rfl, hoxM, hb7⟩
  clear qV_6_0 qV_6_1 qV_6_2
  have z7 : w6.heap.size ≤ w7.heap.size := hb7.size
  have hT7 : Below w0.heap.size w0 w7 := hT6.trans (hb7.mono (by omega))
  have bV_7 := (Blk.ext bV_6 hb7 (Blk.lt bV_6))
  clear bV_6
  obtain ⟨⟨qV_7_0, qV_7_1, qV_7_2⟩, -⟩ := id bV_7.all3
  have sgxM := hoxM.seg
  go_wp2_with fail
  refine (toView_any _ V _ (hv1V.ext hT7) hsz1V hsz2V).mono ?_; rintro e w8 ⟨xxVs, xxVt, rfl, hoxVs, hoxVt, sepxV, hb8⟩
  clear qV_7_0 qV_7_1 qV_7_2
  have z8 : w7.heap.size ≤ w8.heap.size := hb8.size
  have hT8 : Below w0.heap.size w0 w8 := hT7.trans (hb8.mono (by omega))
  have bV_8 := (Blk.ext bV_7 hb8 (Blk.lt bV_7))
  clear bV_7
  obtain ⟨⟨qV_8_0, qV_8_1, qV_8_2⟩, -⟩ := id bV_8.all3
  have sgxVs := hoxVs.seg
  have sgxVt := hoxVt.seg
  obtain ⟨AxVs, cxVs, exVs⟩ := hoxVs.form
  obtain ⟨AxVt, cxVt, exVt⟩ := hoxVt.form
  subst exVs exVt
  have bxV_9 := Blk.new w8 28 #[.int .i64 V.base, .slice AxVs V.shape.length cxVs, .slice AxVt V.strides.length cxVt]
  have hb9 := below_alloc w8 (.cells #[.int .i64 V.base, .slice AxVs V.shape.length cxVs, .slice AxVt V.strides.length cxVt] 28)
  obtain ⟨mV_8_0, mV_8_1, mV_8_2⟩ := (Blk.ext bV_8 (below_alloc w8 (.cells #[.int .i64 V.base, .slice AxVs V.shape.length cxVs, .slice AxVt V.strides.length cxVt] 28)) (Blk.lt bV_8)).all3.1
  go_wp2_with fail
  generalize w8.alloc (.cells #[.int .i64 V.base, .slice AxVs V.shape.length cxVs, .slice AxVt V.strides.length cxVt] 28) = w9 at *
  clear qV_8_0 qV_8_1 qV_8_2 mV_8_0 mV_8_1 mV_8_2
  have z9 : w8.heap.size ≤ w9.heap.size := hb9.size
  have hT9 : Below w0.heap.size w0 w9 := hT8.trans (hb9.mono (by omega))
  have zlxV : w8.heap.size < w9.heap.size := bxV_9.lt
  have bV_9 := (Blk.ext bV_8 hb9 (Blk.lt bV_8))
  clear bV_8
  obtain ⟨⟨qV_9_0, qV_9_1, qV_9_2⟩, -⟩ := id bV_9.all3
  obtain ⟨⟨qxV_9_0, qxV_9_1, qxV_9_2⟩, -⟩ := id bxV_9.all3
  go_wp2_with fail
  refine (toIntS_any _ U _ (hv1U.ext hT9) hlU).mono ?_; rintro e w10 ⟨xxU, rfl, hoxU, hb10⟩
  clear qV_9_0 qV_9_1 qV_9_2 qxV_9_0 qxV_9_1 qxV_9_2
  have z10 : w9.heap.size ≤ w10.heap.size := hb10.size
  have hT10 : Below w0.heap.size w0 w10 := hT9.trans (hb10.mono (by omega))
  have bV_10 := (Blk.ext bV_9 hb10 (Blk.lt bV_9))
  clear bV_9
  obtain ⟨⟨qV_10_0, qV_10_1, qV_10_2⟩, -⟩ := id bV_10.all3
  have bxV_10 := (Blk.ext bxV_9 hb10 (Blk.lt bxV_9))
  clear bxV_9
  obtain ⟨⟨qxV_10_0, qxV_10_1, qxV_10_2⟩, -⟩ := id bxV_10.all3
  have sgxU := hoxU.seg
  go_wp2_with fail
  refine (AddView_any _ _ _ M V U _ (Own.ints (((hoxM.ext hb8).ext hb9).ext hb10)) (Own.view ((hoxVs.ext hb9).ext hb10) ((hoxVt.ext hb9).ext hb10)) (Own.ints hoxU)).mono ?_; rintro e w11 ⟨rg, rfl, hogr, hb11⟩
  clear qV_10_0 qV_10_1 qV_10_2 qxV_10_0 qxV_10_1 qxV_10_2
  have z11 : w10.heap.size ≤ w11.heap.size := hb11.size
  have hT11 : Below w0.heap.size w0 w11 := hT10.trans (hb11.mono (by omega))
  have bV_11 := (Blk.ext bV_10 hb11 (Blk.lt bV_10))
  clear bV_10
  obtain ⟨⟨qV_11_0, qV_11_1, qV_11_2⟩, -⟩ := id bV_11.all3
  have bxV_11 := (Blk.ext bxV_10 hb11 (Blk.lt bxV_10))
  clear bxV_10
  obtain ⟨⟨qxV_11_0, qxV_11_1, qxV_11_2⟩, -⟩ := id bxV_11.all3
  have sggr := hogr.seg
  go_wp2_with fail
  refine (eqIntS_yes _ _ (addL M V U) _ (Own.ints hogr) (Own.ints (((((howr.ext hb7).ext hb8).ext hb9).ext hb10).ext hb11))).mono ?_; rintro e w12 ⟨rfl, hb12⟩
  clear qV_11_0 qV_11_1 qV_11_2 qxV_11_0 qxV_11_1 qxV_11_2
  have z12 : w11.heap.size ≤ w12.heap.size := hb12.size
  have hT12 : Below w0.heap.size w0 w12 := hT11.trans (hb12.mono (by omega))
  have bV_12 := (Blk.ext bV_11 hb12 (Blk.lt bV_11))
  clear bV_11
  obtain ⟨⟨qV_12_0, qV_12_1, qV_12_2⟩, -⟩ := id bV_12.all3
  have bxV_12 := (Blk.ext bxV_11 hb12 (Blk.lt bxV_11))
  clear bxV_11
  obtain ⟨⟨qxV_12_0, qxV_12_1, qxV_12_2⟩, -⟩ := id bxV_12.all3
  go_wp2_with fail
  refine (toIntS_any _ M _ (hv1M.ext hT12) hlM).mono ?_; rintro e w13 ⟨yy, rfl, hoyy, hb13⟩
  clear qV_12_0 qV_12_1 qV_12_2 qxV_12_0 qxV_12_1 qxV_12_2
  have z13 : w12.heap.size ≤ w13.heap.size := hb13.size
  have hT13 : Below w0.heap.size w0 w13 := hT12.trans (hb13.mono (by omega))
  have bV_13 := (Blk.ext bV_12 hb13 (Blk.lt bV_12))
  clear bV_12
  obtain ⟨⟨qV_13_0, qV_13_1, qV_13_2⟩, -⟩ := id bV_13.all3
  have bxV_13 := (Blk.ext bxV_12 hb13 (Blk.lt bxV_12))
  clear bxV_12
  obtain ⟨⟨qxV_13_0, qxV_13_1, qxV_13_2⟩, -⟩ := id bxV_13.all3
  go_wp2_with fail
  refine (eqIntS_yes _ _ M _ (Own.ints ((((((hoxM.ext hb8).ext hb9).ext hb10).ext hb11).ext hb12).ext hb13)) (Own.ints hoyy)).mono ?_; rintro e w14 ⟨rfl, hb14⟩
  clear qV_13_0 qV_13_1 qV_13_2 qxV_13_0 qxV_13_1 qxV_13_2
  have z14 : w13.heap.size ≤ w14.heap.size := hb14.size
  have hT14 : Below w0.heap.size w0 w14 := hT13.trans (hb14.mono (by omega))
  have bV_14 := (Blk.ext bV_13 hb14 (Blk.lt bV_13))
  clear bV_13
  obtain ⟨⟨qV_14_0, qV_14_1, qV_14_2⟩, -⟩ := id bV_14.all3
  have bxV_14 := (Blk.ext bxV_13 hb14 (Blk.lt bxV_13))
  clear bxV_13
  obtain ⟨⟨qxV_14_0, qxV_14_1, qxV_14_2⟩, -⟩ := id bxV_14.all3
  clear hoyy
  go_wp2_with fail
  have hTd : Below w0.heap.size w0 w14.drew := hT14.drew
  have hoy1 := (((((((hoxVs.ext hb9).ext hb10).ext hb11).ext hb12).ext hb13).ext hb14).ext (below_drew w14))
  have hoy2 := (((((((hoxVt.ext hb9).ext hb10).ext hb11).ext hb12).ext hb13).ext hb14).ext (below_drew w14))
  go_region_held3 (fun w' => w'.cell? ⟨w8.heap.size, 0, none⟩ = some (.int .i64 V.base) ∧ w'.cell? ⟨w8.heap.size, 1, none⟩ = some (.slice AxVs V.shape.length cxVs) ∧ w'.cell? ⟨w8.heap.size, 2, none⟩ = some (.slice AxVt V.strides.length cxVt) ∧ w'.cell? ⟨w.heap.size, 0, none⟩ = some (.int .i64 V.base) ∧ w'.cell? ⟨w.heap.size, 1, none⟩ = some (sV) ∧ w'.cell? ⟨w.heap.size, 2, none⟩ = some (tV))
    (first | go_keep | exact hK16 | exact hK17)
    (first
      | (go_at_call 18; refine (toView_any _ V _ (hv1V.ext hTd) hsz1V hsz2V).mono ?_; rintro e w16 ⟨y1, y2, rfl, hoy3, hoy4, -, hb16⟩; have hK16 := six_cells (Blk.ext (Blk.ext bxV_14 (below_drew w14) (Blk.lt bxV_14)) hb16 (Blk.lt (Blk.ext bxV_14 (below_drew w14) (Blk.lt bxV_14)))) (Blk.ext (Blk.ext bV_14 (below_drew w14) (Blk.lt bV_14)) hb16 (Blk.lt (Blk.ext bV_14 (below_drew w14) (Blk.lt bV_14)))))
      | (go_at_call 21; refine (eqView_yes _ _ V _ (Own.view (hoy1.ext hb16) (hoy2.ext hb16)) (Own.view hoy3 hoy4)).mono ?_; rintro e w17 ⟨rfl, hb17⟩; have hK17 := six_cells (Blk.ext (Blk.ext (Blk.ext bxV_14 (below_drew w14) (Blk.lt bxV_14)) hb16 (Blk.lt (Blk.ext bxV_14 (below_drew w14) (Blk.lt bxV_14)))) hb17 (Blk.lt (Blk.ext (Blk.ext bxV_14 (below_drew w14) (Blk.lt bxV_14)) hb16 (Blk.lt (Blk.ext bxV_14 (below_drew w14) (Blk.lt bxV_14)))))) (Blk.ext (Blk.ext (Blk.ext bV_14 (below_drew w14) (Blk.lt bV_14)) hb16 (Blk.lt (Blk.ext bV_14 (below_drew w14) (Blk.lt bV_14)))) hb17 (Blk.lt (Blk.ext (Blk.ext bV_14 (below_drew w14) (Blk.lt bV_14)) hb16 (Blk.lt (Blk.ext bV_14 (below_drew w14) (Blk.lt bV_14))))))))
  clear qV_14_0 qV_14_1 qV_14_2 qxV_14_0 qxV_14_1 qxV_14_2
  clear hK16 hK17 hoy1 hoy2 hoy3 hoy4
  have z15 : w14.heap.size ≤ w14.drew.heap.size := Nat.le_refl _
  have hT15 := hTd
  clear hTd
  have z16 : w14.drew.heap.size ≤ w16.heap.size := hb16.size
  have hT16 : Below w0.heap.size w0 w16 := hT15.trans (hb16.mono (by omega))
  have z17 : w16.heap.size ≤ w17.heap.size := hb17.size
  have hT17 : Below w0.heap.size w0 w17 := hT16.trans (hb17.mono (by omega))
  have bV_17 := (Blk.ext (Blk.ext (Blk.ext bV_14 (below_drew w14) (Blk.lt bV_14)) hb16 (Blk.lt (Blk.ext bV_14 (below_drew w14) (Blk.lt bV_14)))) hb17 (Blk.lt (Blk.ext (Blk.ext bV_14 (below_drew w14) (Blk.lt bV_14)) hb16 (Blk.lt (Blk.ext bV_14 (below_drew w14) (Blk.lt bV_14))))))
  clear bV_14
  obtain ⟨⟨qV_17_0, qV_17_1, qV_17_2⟩, -⟩ := id bV_17.all3
  have bxV_17 := (Blk.ext (Blk.ext (Blk.ext bxV_14 (below_drew w14) (Blk.lt bxV_14)) hb16 (Blk.lt (Blk.ext bxV_14 (below_drew w14) (Blk.lt bxV_14)))) hb17 (Blk.lt (Blk.ext (Blk.ext bxV_14 (below_drew w14) (Blk.lt bxV_14)) hb16 (Blk.lt (Blk.ext bxV_14 (below_drew w14) (Blk.lt bxV_14))))))
  clear bxV_14
  obtain ⟨⟨qxV_17_0, qxV_17_1, qxV_17_2⟩, -⟩ := id bxV_17.all3
  go_wp2_with fail
  refine (toIntS_any _ U _ (hv1U.ext hT17) hlU).mono ?_; rintro e w18 ⟨yy, rfl, hoyy, hb18⟩
  clear qV_17_0 qV_17_1 qV_17_2 qxV_17_0 qxV_17_1 qxV_17_2
  have z18 : w17.heap.size ≤ w18.heap.size := hb18.size
  have hT18 : Below w0.heap.size w0 w18 := hT17.trans (hb18.mono (by omega))
  have bV_18 := (Blk.ext bV_17 hb18 (Blk.lt bV_17))
  clear bV_17
  obtain ⟨⟨qV_18_0, qV_18_1, qV_18_2⟩, -⟩ := id bV_18.all3
  have bxV_18 := (Blk.ext bxV_17 hb18 (Blk.lt bxV_17))
  clear bxV_17
  obtain ⟨⟨qxV_18_0, qxV_18_1, qxV_18_2⟩, -⟩ := id bxV_18.all3
  go_wp2_with fail
  refine (eqIntS_yes _ _ U _ (Own.ints ((((((((hoxU.ext hb11).ext hb12).ext hb13).ext hb14).ext (below_drew w14)).ext hb16).ext hb17).ext hb18)) (Own.ints hoyy)).mono ?_; rintro e w19 ⟨rfl, hb19⟩
  clear qV_18_0 qV_18_1 qV_18_2 qxV_18_0 qxV_18_1 qxV_18_2
  have z19 : w18.heap.size ≤ w19.heap.size := hb19.size
  have hT19 : Below w0.heap.size w0 w19 := hT18.trans (hb19.mono (by omega))
  have bV_19 := (Blk.ext bV_18 hb19 (Blk.lt bV_18))
  clear bV_18
  obtain ⟨⟨qV_19_0, qV_19_1, qV_19_2⟩, -⟩ := id bV_19.all3
  have bxV_19 := (Blk.ext bxV_18 hb19 (Blk.lt bxV_18))
  clear bxV_18
  obtain ⟨⟨qxV_19_0, qxV_19_1, qxV_19_2⟩, -⟩ := id bxV_19.all3
  clear hoyy
  go_wp2_with fail
  refine (markIntS_any _ M (1) _ _ ((((((((((((hoxM.ext hb8).ext hb9).ext hb10).ext hb11).ext hb12).ext hb13).ext hb14).ext (below_drew w14)).ext hb16).ext hb17).ext hb18).ext hb19) hlM (by omega)).mono ?_; rintro e w20 ⟨rfl, -, hw20⟩
  have hb20 := Chg.of_grown hw20 sgxM
  clear qV_19_0 qV_19_1 qV_19_2 qxV_19_0 qxV_19_1 qxV_19_2
  have z20 : w19.heap.size ≤ w20.heap.size := hb20.size
  have hT20 : Below w0.heap.size w0 w20 := hT19.trans (hb20.below (by omega) (by omega))
  have bV_20 := (Blk.chg bV_19 hb20 (by omega))
  clear bV_19
  obtain ⟨⟨qV_20_0, qV_20_1, qV_20_2⟩, -⟩ := id bV_20.all3
  have bxV_20 := (Blk.chg bxV_19 hb20 (by omega))
  clear bxV_19
  obtain ⟨⟨qxV_20_0, qxV_20_1, qxV_20_2⟩, -⟩ := id bxV_20.all3
  go_wp2_with fail
  refine (markView_any _ _ _ V.shape V.strides (1 + M.length) w7.heap.size w7.heap.size w7.heap.size w8.heap.size _ ((((((((((((hoxVs.ext hb9).ext hb10).ext hb11).ext hb12).ext hb13).ext hb14).ext (below_drew w14)).ext hb16).ext hb17).ext hb18).ext hb19).chg hb20 sgxVs (by omega)) ((((((((((((hoxVt.ext hb9).ext hb10).ext hb11).ext hb12).ext hb13).ext hb14).ext (below_drew w14)).ext hb16).ext hb17).ext hb18).ext hb19).chg hb20 sgxVt (by omega)) sepxV sgxVs sgxVt hsz1V hsz2V (by omega)).mono ?_; rintro e w21 ⟨rfl, -, -, hb21⟩
  clear qV_20_0 qV_20_1 qV_20_2 qxV_20_0 qxV_20_1 qxV_20_2
  have z21 : w20.heap.size ≤ w21.heap.size := hb21.size
  have hT21 : Below w0.heap.size w0 w21 := hT20.trans (hb21.below (by omega) (by omega))
  have bV_21 := (Blk.chg bV_20 hb21 (by omega))
  clear bV_20
  obtain ⟨⟨qV_21_0, qV_21_1, qV_21_2⟩, -⟩ := id bV_21.all3
  go_wp2_with fail
  refine (markIntS_any _ U (1 + M.length + V.shape.length + V.strides.length) _ _ (((((((((((hoxU.ext hb11).ext hb12).ext hb13).ext hb14).ext (below_drew w14)).ext hb16).ext hb17).ext hb18).ext hb19).chg hb20 sgxU (by omega)).chg hb21 sgxU (by omega)) hlU (by omega)).mono ?_; rintro e w22 ⟨rfl, -, hw22⟩
  have hb22 := Chg.of_grown hw22 sgxU
  clear qV_21_0 qV_21_1 qV_21_2
  have z22 : w21.heap.size ≤ w22.heap.size := hb22.size
  have hT22 : Below w0.heap.size w0 w22 := hT21.trans (hb22.below (by omega) (by omega))
  have bV_22 := (Blk.chg bV_21 hb22 (by omega))
  clear bV_21
  obtain ⟨⟨qV_22_0, qV_22_1, qV_22_2⟩, -⟩ := id bV_22.all3
  go_wp2_with fail
  refine (eqIntS_yes _ _ (addL M V U) _ (Own.ints (((((((((((hogr.ext hb12).ext hb13).ext hb14).ext (below_drew w14)).ext hb16).ext hb17).ext hb18).ext hb19).chg hb20 sggr (by omega)).chg hb21 sggr (by omega)).chg hb22 sggr (by omega))) (Own.ints ((((((((((((((((howr.ext hb7).ext hb8).ext hb9).ext hb10).ext hb11).ext hb12).ext hb13).ext hb14).ext (below_drew w14)).ext hb16).ext hb17).ext hb18).ext hb19).chg hb20 sgwr (by omega)).chg hb21 sgwr (by omega)).chg hb22 sgwr (by omega)))).mono ?_; rintro e w23 ⟨rfl, hb23⟩
  clear qV_22_0 qV_22_1 qV_22_2
  have z23 : w22.heap.size ≤ w23.heap.size := hb23.size
  have hT23 : Below w0.heap.size w0 w23 := hT22.trans (hb23.mono (by omega))
  have bV_23 := (Blk.ext bV_22 hb23 (Blk.lt bV_22))
  clear bV_22
  obtain ⟨⟨qV_23_0, qV_23_1, qV_23_2⟩, -⟩ := id bV_23.all3
  have hlr : (addL M V U).length ≤ 1048576 := by have := addL_len M V U; omega
  go_wp2_with fail
  refine (markIntS_any _ (addL M V U) (1) _ _ ((((((((((((hogr.ext hb12).ext hb13).ext hb14).ext (below_drew w14)).ext hb16).ext hb17).ext hb18).ext hb19).chg hb20 sggr (by omega)).chg hb21 sggr (by omega)).chg hb22 sggr (by omega)).ext hb23) hlr (by omega)).mono ?_; rintro e w24 ⟨rfl, hom, hw24⟩
  have hb24 := Chg.of_grown hw24 sggr
  clear qV_23_0 qV_23_1 qV_23_2
  have z24 : w23.heap.size ≤ w24.heap.size := hb24.size
  have hT24 : Below w0.heap.size w0 w24 := hT23.trans (hb24.below (by omega) (by omega))
  have bV_24 := (Blk.chg bV_23 hb24 (by omega))
  clear bV_23
  obtain ⟨⟨qV_24_0, qV_24_1, qV_24_2⟩, -⟩ := id bV_24.all3
  go_wp2_with fail
  refine (heldIntS_any _ (1) (addL M V U).length _ (Own.ints hom) hlr (by omega)).mono ?_; rintro e w' ⟨rfl, rfl⟩
  go_wp2_with fail
  have hTd : Below w0.heap.size w0 w24.drew := hT24.drew
  have tokhM : True := trivial
  have tokhV : True := trivial
  have tokhU : True := trivial
  go_region_held3 (fun w' => w'.cell? ⟨w.heap.size, 0, none⟩ = some (.int .i64 V.base) ∧ w'.cell? ⟨w.heap.size, 1, none⟩ = some (sV) ∧ w'.cell? ⟨w.heap.size, 2, none⟩ = some (tV))
    (first | go_keep | exact hK26 | exact hK27 | exact hK28 | exact hK29)
    (first
      | (go_at_call 17; have _t := tokhM; refine (toIntS_any _ M _ (hv1M.ext hTd) hlM).mono ?_; rintro e w26 ⟨xhM, rfl, hohM, hb26⟩; clear tokhM; have hTa26 := bstep hTd hb26 hTd.size; have hkV_26 := (Blk.ext (Blk.ext bV_24 (below_drew w24) (Blk.lt bV_24)) hb26 (Blk.lt (Blk.ext bV_24 (below_drew w24) (Blk.lt bV_24)))); have hK26 := (hkV_26).all3.1)
      | (go_at_call 18; have _t := tokhV; refine (toView_any _ V _ (hv1V.ext hTa26) hsz1V hsz2V).mono ?_; rintro e w27 ⟨xhVs, xhVt, rfl, hohVs, hohVt, sephV, hb27⟩; clear tokhV; have hTa27 := bstep hTa26 hb27 hTa26.size; have hkV_27 := (Blk.ext (Blk.ext (Blk.ext bV_24 (below_drew w24) (Blk.lt bV_24)) hb26 (Blk.lt (Blk.ext bV_24 (below_drew w24) (Blk.lt bV_24)))) hb27 (Blk.lt (Blk.ext (Blk.ext bV_24 (below_drew w24) (Blk.lt bV_24)) hb26 (Blk.lt (Blk.ext bV_24 (below_drew w24) (Blk.lt bV_24)))))); have hK27 := (hkV_27).all3.1)
      | (go_at_call 17; have _t := tokhU; refine (toIntS_any _ U _ (hv1U.ext hTa27) hlU).mono ?_; rintro e w28 ⟨xhU, rfl, hohU, hb28⟩; clear tokhU; have hTa28 := bstep hTa27 hb28 hTa27.size; have hkV_28 := (Blk.ext (Blk.ext (Blk.ext (Blk.ext bV_24 (below_drew w24) (Blk.lt bV_24)) hb26 (Blk.lt (Blk.ext bV_24 (below_drew w24) (Blk.lt bV_24)))) hb27 (Blk.lt (Blk.ext (Blk.ext bV_24 (below_drew w24) (Blk.lt bV_24)) hb26 (Blk.lt (Blk.ext bV_24 (below_drew w24) (Blk.lt bV_24)))))) hb28 (Blk.lt (Blk.ext (Blk.ext (Blk.ext bV_24 (below_drew w24) (Blk.lt bV_24)) hb26 (Blk.lt (Blk.ext bV_24 (below_drew w24) (Blk.lt bV_24)))) hb27 (Blk.lt (Blk.ext (Blk.ext bV_24 (below_drew w24) (Blk.lt bV_24)) hb26 (Blk.lt (Blk.ext bV_24 (below_drew w24) (Blk.lt bV_24)))))))); have hK28 := (hkV_28).all3.1)
      | (go_at_call 30; refine (AddView_any _ _ _ M V U _ (Own.ints ((hohM.ext hb27).ext hb28)) (Own.view (hohVs.ext hb28) (hohVt.ext hb28)) (Own.ints hohU)).mono ?_; rintro e w29 ⟨rh, rfl, hohr, hb29⟩; have hkV_29 := (Blk.ext (Blk.ext (Blk.ext (Blk.ext (Blk.ext bV_24 (below_drew w24) (Blk.lt bV_24)) hb26 (Blk.lt (Blk.ext bV_24 (below_drew w24) (Blk.lt bV_24)))) hb27 (Blk.lt (Blk.ext (Blk.ext bV_24 (below_drew w24) (Blk.lt bV_24)) hb26 (Blk.lt (Blk.ext bV_24 (below_drew w24) (Blk.lt bV_24)))))) hb28 (Blk.lt (Blk.ext (Blk.ext (Blk.ext bV_24 (below_drew w24) (Blk.lt bV_24)) hb26 (Blk.lt (Blk.ext bV_24 (below_drew w24) (Blk.lt bV_24)))) hb27 (Blk.lt (Blk.ext (Blk.ext bV_24 (below_drew w24) (Blk.lt bV_24)) hb26 (Blk.lt (Blk.ext bV_24 (below_drew w24) (Blk.lt bV_24)))))))) hb29 (Blk.lt (Blk.ext (Blk.ext (Blk.ext (Blk.ext bV_24 (below_drew w24) (Blk.lt bV_24)) hb26 (Blk.lt (Blk.ext bV_24 (below_drew w24) (Blk.lt bV_24)))) hb27 (Blk.lt (Blk.ext (Blk.ext bV_24 (below_drew w24) (Blk.lt bV_24)) hb26 (Blk.lt (Blk.ext bV_24 (below_drew w24) (Blk.lt bV_24)))))) hb28 (Blk.lt (Blk.ext (Blk.ext (Blk.ext bV_24 (below_drew w24) (Blk.lt bV_24)) hb26 (Blk.lt (Blk.ext bV_24 (below_drew w24) (Blk.lt bV_24)))) hb27 (Blk.lt (Blk.ext (Blk.ext bV_24 (below_drew w24) (Blk.lt bV_24)) hb26 (Blk.lt (Blk.ext bV_24 (below_drew w24) (Blk.lt bV_24)))))))))); have hK29 := (hkV_29).all3.1))
  clear hK26 hK27 hK28 hK29
  clear qV_24_0 qV_24_1 qV_24_2
  have z25 : w24.heap.size ≤ w24.drew.heap.size := Nat.le_refl _
  have hT25 := hTd
  have z26 : w24.drew.heap.size ≤ w26.heap.size := hb26.size
  have hT26 : Below w0.heap.size w0 w26 := hT25.trans (hb26.mono (by omega))
  have z27 : w26.heap.size ≤ w27.heap.size := hb27.size
  have hT27 : Below w0.heap.size w0 w27 := hT26.trans (hb27.mono (by omega))
  have z28 : w27.heap.size ≤ w28.heap.size := hb28.size
  have hT28 : Below w0.heap.size w0 w28 := hT27.trans (hb28.mono (by omega))
  have z29 : w28.heap.size ≤ w29.heap.size := hb29.size
  have hT29 : Below w0.heap.size w0 w29 := hT28.trans (hb29.mono (by omega))
  have bV_29 := (Blk.ext (Blk.ext (Blk.ext (Blk.ext (Blk.ext bV_24 (below_drew w24) (Blk.lt bV_24)) hb26 (Blk.lt (Blk.ext bV_24 (below_drew w24) (Blk.lt bV_24)))) hb27 (Blk.lt (Blk.ext (Blk.ext bV_24 (below_drew w24) (Blk.lt bV_24)) hb26 (Blk.lt (Blk.ext bV_24 (below_drew w24) (Blk.lt bV_24)))))) hb28 (Blk.lt (Blk.ext (Blk.ext (Blk.ext bV_24 (below_drew w24) (Blk.lt bV_24)) hb26 (Blk.lt (Blk.ext bV_24 (below_drew w24) (Blk.lt bV_24)))) hb27 (Blk.lt (Blk.ext (Blk.ext bV_24 (below_drew w24) (Blk.lt bV_24)) hb26 (Blk.lt (Blk.ext bV_24 (below_drew w24) (Blk.lt bV_24)))))))) hb29 (Blk.lt (Blk.ext (Blk.ext (Blk.ext (Blk.ext bV_24 (below_drew w24) (Blk.lt bV_24)) hb26 (Blk.lt (Blk.ext bV_24 (below_drew w24) (Blk.lt bV_24)))) hb27 (Blk.lt (Blk.ext (Blk.ext bV_24 (below_drew w24) (Blk.lt bV_24)) hb26 (Blk.lt (Blk.ext bV_24 (below_drew w24) (Blk.lt bV_24)))))) hb28 (Blk.lt (Blk.ext (Blk.ext (Blk.ext bV_24 (below_drew w24) (Blk.lt bV_24)) hb26 (Blk.lt (Blk.ext bV_24 (below_drew w24) (Blk.lt bV_24)))) hb27 (Blk.lt (Blk.ext (Blk.ext bV_24 (below_drew w24) (Blk.lt bV_24)) hb26 (Blk.lt (Blk.ext bV_24 (below_drew w24) (Blk.lt bV_24))))))))))
  clear bV_24
  obtain ⟨⟨qV_29_0, qV_29_1, qV_29_2⟩, -⟩ := id bV_29.all3
  have sghr := hohr.seg
  go_wp2_with fail
  refine (eqIntS_yes _ _ (addL M V U) _ (Own.ints hohr) (Own.ints (((((((((((((((((((((((howr.ext hb7).ext hb8).ext hb9).ext hb10).ext hb11).ext hb12).ext hb13).ext hb14).ext (below_drew w14)).ext hb16).ext hb17).ext hb18).ext hb19).chg hb20 sgwr (by omega)).chg hb21 sgwr (by omega)).chg hb22 sgwr (by omega)).ext hb23).chg hb24 sgwr (by omega)).ext (below_drew w24)).ext hb26).ext hb27).ext hb28).ext hb29))).mono ?_; rintro e w30 ⟨rfl, hb30⟩
  clear qV_29_0 qV_29_1 qV_29_2
  have z30 : w29.heap.size ≤ w30.heap.size := hb30.size
  have hT30 : Below w0.heap.size w0 w30 := hT29.trans (hb30.mono (by omega))
  have bV_30 := (Blk.ext bV_29 hb30 (Blk.lt bV_29))
  clear bV_29
  obtain ⟨⟨qV_30_0, qV_30_1, qV_30_2⟩, -⟩ := id bV_30.all3
  go_wp2_with fail
  refine (heldIntS_any _ (1) (addL M V U).length _ (Own.ints ((((((hom.ext (below_drew w24)).ext hb26).ext hb27).ext hb28).ext hb29).ext hb30)) hlr (by omega)).mono ?_; rintro e w' ⟨rfl, rfl⟩
  go_wp2
  go_ret
  exact ⟨rfl, hW.trans (hT30.mono hW.size)⟩

end Go.Proofs.Ytmglcapjccbknaa
