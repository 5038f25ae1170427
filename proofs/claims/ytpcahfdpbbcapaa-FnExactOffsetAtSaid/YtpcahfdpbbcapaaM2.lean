/- The walks of exact laws: each answers true at every input and changes nothing that was there. No conditions. (printed by genlaw.py) -/
import Derived.Test.YtpcahfdpbbcapaaC6
import Derived.Test.YtpcahfdpbbcapaaL2
import Derived.Deep.RegionHeld3
namespace Go.Proofs.Ytpcahfdpbbcapaa
open Go.RowKit

set_option maxRecDepth 100000 in
set_option maxHeartbeats 3200000 in
theorem FnExactOffsetAt_walk (vV : Value) (V : VL) (vX : Value) (X : List Int) (w : World) (hvV : ViewV w vV V) (hvX : Ints w vX X) :
    Calls Try.prog 6 #[vV, vX] w fun e w' => e = .returned (.bool true) ∧ Below w.heap.size w w' := by
  have hv0V := hvV
  obtain ⟨sV, tV, rfl, -, -⟩ := hvV
  have hW : Below w.heap.size w (w.alloc (.cells #[.int .i64 V.base, sV, tV] 33)) := Below.alloc (Below.refl w.heap.size w) (by simp <;> omega) (.cells #[.int .i64 V.base, sV, tV] 33)
  have bV_0 : Blk (w.alloc (.cells #[.int .i64 V.base, sV, tV] 33)) (w.heap.size) 33 #[.int .i64 V.base, sV, tV] := (Blk.new w 33 #[.int .i64 V.base, sV, tV])
  have hv1V := hv0V.ext hW
  have hv1X := hvX.ext hW
  by_cases hlX : 1048576 < X.length
  · obtain ⟨A0, c0, rfl, hk0, hm0, -⟩ := hvX
    unfold maxLen at hm0
    clear hv1X
    go_enter Try.func6, Try.ntmps6
    go_wp2
    go_ret
    exact ⟨rfl, hW⟩
  have hlX : X.length ≤ 1048576 := by omega
  by_cases hsV : 1048576 < V.shape.length + V.strides.length
  · have hzV : 1048576 < V.shape.length + V.strides.length := by omega
    obtain ⟨AX0, cX0, rfl, hkX0, hmX0, -⟩ := hvX
    unfold maxLen at hmX0
    go_enter Try.func6, Try.ntmps6
    go_wp2_with fail
    generalize (w.alloc (.cells #[.int .i64 V.base, sV, tV] 33)) = w0 at *
    have hT0 : Below w0.heap.size w0 w0 := Below.refl _ _
    have zlV : w.heap.size < w0.heap.size := bV_0.lt
    refine (szView_no _ V 1048576 _ (hv1V.ext hT0) hzV (by omega)).mono ?_; rintro e w1 ⟨rfl, hb1⟩
    have z1 : w0.heap.size ≤ w1.heap.size := hb1.size
    have hT1 : Below w0.heap.size w0 w1 := hT0.trans (hb1.mono (by omega))
    go_wp2
    go_ret
    exact ⟨rfl, hW.trans (hT1.mono hW.size)⟩
  have hsz1V : V.shape.length ≤ 1048576 := by omega
  have hsz2V : V.strides.length ≤ 1048576 := by omega
  obtain ⟨AX0, cX0, rfl, hkX0, hmX0, -⟩ := id hvX
  unfold maxLen at hmX0
  go_enter Try.func6, Try.ntmps6
  go_wp2_with fail
  generalize (w.alloc (.cells #[.int .i64 V.base, sV, tV] 33)) = w0 at *
  have hT0 : Below w0.heap.size w0 w0 := Below.refl _ _
  have zlV : w.heap.size < w0.heap.size := bV_0.lt
  refine (szView_ok _ V 1048576 _ hv1V (by omega) (by omega)).mono ?_; rintro e w1 ⟨rfl, hb1⟩
  have z1 : w0.heap.size ≤ w1.heap.size := hb1.size
  have hT1 : Below w0.heap.size w0 w1 := hT0.trans (hb1.mono (by omega))
  have bV_1 := (Blk.ext bV_0 hb1 (Blk.lt bV_0))
  obtain ⟨⟨qV_1_0, qV_1_1, qV_1_2⟩, -⟩ := id bV_1.all3
  go_wp2_with fail
  refine (toView_any _ V _ (hv1V.ext hT1) hsz1V hsz2V).mono ?_; rintro e w2 ⟨xwVs, xwVt, rfl, howVs, howVt, sepwV, hb2⟩
  clear qV_1_0 qV_1_1 qV_1_2
  have z2 : w1.heap.size ≤ w2.heap.size := hb2.size
  have hT2 : Below w0.heap.size w0 w2 := hT1.trans (hb2.mono (by omega))
  have bV_2 := (Blk.ext bV_1 hb2 (Blk.lt bV_1))
  clear bV_1
  obtain ⟨⟨qV_2_0, qV_2_1, qV_2_2⟩, -⟩ := id bV_2.all3
  go_wp2_with fail
  refine (toIntS_any _ X _ (hv1X.ext hT2) hlX).mono ?_; rintro e w3 ⟨xwX, rfl, howX, hb3⟩
  clear qV_2_0 qV_2_1 qV_2_2
  have z3 : w2.heap.size ≤ w3.heap.size := hb3.size
  have hT3 : Below w0.heap.size w0 w3 := hT2.trans (hb3.mono (by omega))
  have bV_3 := (Blk.ext bV_2 hb3 (Blk.lt bV_2))
  clear bV_2
  obtain ⟨⟨qV_3_0, qV_3_1, qV_3_2⟩, -⟩ := id bV_3.all3
  go_wp2_with fail
  refine (sOffsetAt_any _ _ V X _ (Own.view (howVs.ext hb3) (howVt.ext hb3)) (Own.ints howX)).mono ?_; rintro e w4 ⟨rfl, hb4⟩
  clear qV_3_0 qV_3_1 qV_3_2
  have z4 : w3.heap.size ≤ w4.heap.size := hb4.size
  have hT4 : Below w0.heap.size w0 w4 := hT3.trans (hb4.mono (by omega))
  have bV_4 := (Blk.ext bV_3 hb4 (Blk.lt bV_3))
  clear bV_3
  obtain ⟨⟨qV_4_0, qV_4_1, qV_4_2⟩, -⟩ := id bV_4.all3
  go_wp2_with fail
  refine (toView_any _ V _ (hv1V.ext hT4) hsz1V hsz2V).mono ?_; rintro e w5 ⟨xxVs, xxVt, rfl, hoxVs, hoxVt, sepxV, hb5⟩
  clear qV_4_0 qV_4_1 qV_4_2
  have z5 : w4.heap.size ≤ w5.heap.size := hb5.size
  have hT5 : Below w0.heap.size w0 w5 := hT4.trans (hb5.mono (by omega))
  have bV_5 := (Blk.ext bV_4 hb5 (Blk.lt bV_4))
  clear bV_4
  obtain ⟨⟨qV_5_0, qV_5_1, qV_5_2⟩, -⟩ := id bV_5.all3
  have sgxVs := hoxVs.seg
  have sgxVt := hoxVt.seg
  obtain ⟨AxVs, cxVs, exVs⟩ := hoxVs.form
  obtain ⟨AxVt, cxVt, exVt⟩ := hoxVt.form
  subst exVs exVt
  have bxV_6 := Blk.new w5 36 #[.int .i64 V.base, .slice AxVs V.shape.length cxVs, .slice AxVt V.strides.length cxVt]
  have hb6 := below_alloc w5 (.cells #[.int .i64 V.base, .slice AxVs V.shape.length cxVs, .slice AxVt V.strides.length cxVt] 36)
  obtain ⟨mV_5_0, mV_5_1, mV_5_2⟩ := (Blk.ext bV_5 (below_alloc w5 (.cells #[.int .i64 V.base, .slice AxVs V.shape.length cxVs, .slice AxVt V.strides.length cxVt] 36)) (Blk.lt bV_5)).all3.1
  go_wp2_with fail
  generalize w5.alloc (.cells #[.int .i64 V.base, .slice AxVs V.shape.length cxVs, .slice AxVt V.strides.length cxVt] 36) = w6 at *
  clear qV_5_0 qV_5_1 qV_5_2 mV_5_0 mV_5_1 mV_5_2
  have z6 : w5.heap.size ≤ w6.heap.size := hb6.size
  have hT6 : Below w0.heap.size w0 w6 := hT5.trans (hb6.mono (by omega))
  have zlxV : w5.heap.size < w6.heap.size := bxV_6.lt
  have bV_6 := (Blk.ext bV_5 hb6 (Blk.lt bV_5))
  clear bV_5
  obtain ⟨⟨qV_6_0, qV_6_1, qV_6_2⟩, -⟩ := id bV_6.all3
  obtain ⟨⟨qxV_6_0, qxV_6_1, qxV_6_2⟩, -⟩ := id bxV_6.all3
  go_wp2_with fail
  refine (toIntS_any _ X _ (hv1X.ext hT6) hlX).mono ?_; rintro e w7 ⟨xxX, rfl, hoxX, hb7⟩
  clear qV_6_0 qV_6_1 qV_6_2 qxV_6_0 qxV_6_1 qxV_6_2
  have z7 : w6.heap.size ≤ w7.heap.size := hb7.size
  have hT7 : Below w0.heap.size w0 w7 := hT6.trans (hb7.mono (by omega))
  have bV_7 := (Blk.ext bV_6 hb7 (Blk.lt bV_6))
  clear bV_6
  obtain ⟨⟨qV_7_0, qV_7_1, qV_7_2⟩, -⟩ := id bV_7.all3
  have bxV_7 := (Blk.ext bxV_6 hb7 (Blk.lt bxV_6))
  clear bxV_6
  obtain ⟨⟨qxV_7_0, qxV_7_1, qxV_7_2⟩, -⟩ := id bxV_7.all3
  have sgxX := hoxX.seg
  go_wp2_with fail
  refine (OffsetAt_any _ _ V X _ (Own.view ((hoxVs.ext hb6).ext hb7) ((hoxVt.ext hb6).ext hb7)) (Own.ints hoxX)).mono ?_; rintro e w8 ⟨rfl, hb8⟩
  clear qV_7_0 qV_7_1 qV_7_2 qxV_7_0 qxV_7_1 qxV_7_2
  have z8 : w7.heap.size ≤ w8.heap.size := hb8.size
  have hT8 : Below w0.heap.size w0 w8 := hT7.trans (hb8.mono (by omega))
  have bV_8 := (Blk.ext bV_7 hb8 (Blk.lt bV_7))
  clear bV_7
  obtain ⟨⟨qV_8_0, qV_8_1, qV_8_2⟩, -⟩ := id bV_8.all3
  have bxV_8 := (Blk.ext bxV_7 hb8 (Blk.lt bxV_7))
  clear bxV_7
  obtain ⟨⟨qxV_8_0, qxV_8_1, qxV_8_2⟩, -⟩ := id bxV_8.all3
  go_wp2_with fail
  have hTd : Below w0.heap.size w0 w8.drew := hT8.drew
  have hoy1 := ((((hoxVs.ext hb6).ext hb7).ext hb8).ext (below_drew w8))
  have hoy2 := ((((hoxVt.ext hb6).ext hb7).ext hb8).ext (below_drew w8))
  go_region_held3 (fun w' => w'.cell? ⟨w5.heap.size, 0, none⟩ = some (.int .i64 V.base) ∧ w'.cell? ⟨w5.heap.size, 1, none⟩ = some (.slice AxVs V.shape.length cxVs) ∧ w'.cell? ⟨w5.heap.size, 2, none⟩ = some (.slice AxVt V.strides.length cxVt) ∧ w'.cell? ⟨w.heap.size, 0, none⟩ = some (.int .i64 V.base) ∧ w'.cell? ⟨w.heap.size, 1, none⟩ = some (sV) ∧ w'.cell? ⟨w.heap.size, 2, none⟩ = some (tV))
    (first | go_keep | exact hK10 | exact hK11)
    (first
      | (go_at_call 24; refine (toView_any _ V _ (hv1V.ext hTd) hsz1V hsz2V).mono ?_; rintro e w10 ⟨y1, y2, rfl, hoy3, hoy4, -, hb10⟩; have hK10 := six_cells (Blk.ext (Blk.ext bxV_8 (below_drew w8) (Blk.lt bxV_8)) hb10 (Blk.lt (Blk.ext bxV_8 (below_drew w8) (Blk.lt bxV_8)))) (Blk.ext (Blk.ext bV_8 (below_drew w8) (Blk.lt bV_8)) hb10 (Blk.lt (Blk.ext bV_8 (below_drew w8) (Blk.lt bV_8)))))
      | (go_at_call 26; refine (eqView_yes _ _ V _ (Own.view (hoy1.ext hb10) (hoy2.ext hb10)) (Own.view hoy3 hoy4)).mono ?_; rintro e w11 ⟨rfl, hb11⟩; have hK11 := six_cells (Blk.ext (Blk.ext (Blk.ext bxV_8 (below_drew w8) (Blk.lt bxV_8)) hb10 (Blk.lt (Blk.ext bxV_8 (below_drew w8) (Blk.lt bxV_8)))) hb11 (Blk.lt (Blk.ext (Blk.ext bxV_8 (below_drew w8) (Blk.lt bxV_8)) hb10 (Blk.lt (Blk.ext bxV_8 (below_drew w8) (Blk.lt bxV_8)))))) (Blk.ext (Blk.ext (Blk.ext bV_8 (below_drew w8) (Blk.lt bV_8)) hb10 (Blk.lt (Blk.ext bV_8 (below_drew w8) (Blk.lt bV_8)))) hb11 (Blk.lt (Blk.ext (Blk.ext bV_8 (below_drew w8) (Blk.lt bV_8)) hb10 (Blk.lt (Blk.ext bV_8 (below_drew w8) (Blk.lt bV_8))))))))
  clear qV_8_0 qV_8_1 qV_8_2 qxV_8_0 qxV_8_1 qxV_8_2
  clear hK10 hK11 hoy1 hoy2 hoy3 hoy4
  have z9 : w8.heap.size ≤ w8.drew.heap.size := Nat.le_refl _
  have hT9 := hTd
  clear hTd
  have z10 : w8.drew.heap.size ≤ w10.heap.size := hb10.size
  have hT10 : Below w0.heap.size w0 w10 := hT9.trans (hb10.mono (by omega))
  have z11 : w10.heap.size ≤ w11.heap.size := hb11.size
  have hT11 : Below w0.heap.size w0 w11 := hT10.trans (hb11.mono (by omega))
  have bV_11 := (Blk.ext (Blk.ext (Blk.ext bV_8 (below_drew w8) (Blk.lt bV_8)) hb10 (Blk.lt (Blk.ext bV_8 (below_drew w8) (Blk.lt bV_8)))) hb11 (Blk.lt (Blk.ext (Blk.ext bV_8 (below_drew w8) (Blk.lt bV_8)) hb10 (Blk.lt (Blk.ext bV_8 (below_drew w8) (Blk.lt bV_8))))))
  clear bV_8
  obtain ⟨⟨qV_11_0, qV_11_1, qV_11_2⟩, -⟩ := id bV_11.all3
  have bxV_11 := (Blk.ext (Blk.ext (Blk.ext bxV_8 (below_drew w8) (Blk.lt bxV_8)) hb10 (Blk.lt (Blk.ext bxV_8 (below_drew w8) (Blk.lt bxV_8)))) hb11 (Blk.lt (Blk.ext (Blk.ext bxV_8 (below_drew w8) (Blk.lt bxV_8)) hb10 (Blk.lt (Blk.ext bxV_8 (below_drew w8) (Blk.lt bxV_8))))))
  clear bxV_8
  obtain ⟨⟨qxV_11_0, qxV_11_1, qxV_11_2⟩, -⟩ := id bxV_11.all3
  go_wp2_with fail
  refine (toIntS_any _ X _ (hv1X.ext hT11) hlX).mono ?_; rintro e w12 ⟨yy, rfl, hoyy, hb12⟩
  clear qV_11_0 qV_11_1 qV_11_2 qxV_11_0 qxV_11_1 qxV_11_2
  have z12 : w11.heap.size ≤ w12.heap.size := hb12.size
  have hT12 : Below w0.heap.size w0 w12 := hT11.trans (hb12.mono (by omega))
  have bV_12 := (Blk.ext bV_11 hb12 (Blk.lt bV_11))
  clear bV_11
  obtain ⟨⟨qV_12_0, qV_12_1, qV_12_2⟩, -⟩ := id bV_12.all3
  have bxV_12 := (Blk.ext bxV_11 hb12 (Blk.lt bxV_11))
  clear bxV_11
  obtain ⟨⟨qxV_12_0, qxV_12_1, qxV_12_2⟩, -⟩ := id bxV_12.all3
  go_wp2_with fail
  refine (eqIntS_yes _ _ X _ (Own.ints (((((hoxX.ext hb8).ext (below_drew w8)).ext hb10).ext hb11).ext hb12)) (Own.ints hoyy)).mono ?_; rintro e w13 ⟨rfl, hb13⟩
  clear qV_12_0 qV_12_1 qV_12_2 qxV_12_0 qxV_12_1 qxV_12_2
  have z13 : w12.heap.size ≤ w13.heap.size := hb13.size
  have hT13 : Below w0.heap.size w0 w13 := hT12.trans (hb13.mono (by omega))
  have bV_13 := (Blk.ext bV_12 hb13 (Blk.lt bV_12))
  clear bV_12
  obtain ⟨⟨qV_13_0, qV_13_1, qV_13_2⟩, -⟩ := id bV_13.all3
  have bxV_13 := (Blk.ext bxV_12 hb13 (Blk.lt bxV_12))
  clear bxV_12
  obtain ⟨⟨qxV_13_0, qxV_13_1, qxV_13_2⟩, -⟩ := id bxV_13.all3
  clear hoyy
  go_wp2
  go_ret
  exact ⟨rfl, hW.trans (hT13.mono hW.size)⟩

end Go.Proofs.Ytpcahfdpbbcapaa
