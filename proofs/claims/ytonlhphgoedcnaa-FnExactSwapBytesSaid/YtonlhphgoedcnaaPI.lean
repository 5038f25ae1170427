/- The walks of exact laws: each answers true at every input and changes nothing that was there. No conditions. (printed by genlaw2.py) -/
import Derived.Test.YtonlhphgoedcnaaUB
import Derived.Test.YtonlhphgoedcnaaL4
import Derived.Test.YtonlhphgoedcnaaL7
import Derived.Deep.RegionHeld3
namespace Go.Proofs.Ytonlhphgoedcnaa
open Go.RowKit

set_option maxRecDepth 100000 in
set_option maxHeartbeats 3200000 in
theorem FnExactSwapBytes_walk (vF : Value) (F : FL) (vX : Value) (X : List Int) (w : World) (hvF : FormatV w vF F) (hvX : Ints w vX X) :
    Calls Try.prog 14 #[vF, vX] w fun e w' => e = .returned (.bool true) ∧ Below w.heap.size w w' := by
  have hv0F := hvF
  obtain ⟨sF, rfl, -⟩ := hvF
  have hW : Below w.heap.size w (w.alloc (.cells #[sF, .bool F.big, .bool F.aligned] 24)) := Below.alloc (Below.refl w.heap.size w) (by simp <;> omega) (.cells #[sF, .bool F.big, .bool F.aligned] 24)
  have bF_0 : Blk (w.alloc (.cells #[sF, .bool F.big, .bool F.aligned] 24)) (w.heap.size) 24 #[sF, .bool F.big, .bool F.aligned] := (Blk.new w 24 #[sF, .bool F.big, .bool F.aligned])
  have hv1F := hv0F.ext hW
  have hv1X := hvX.ext hW
  by_cases hlX : 1048576 < X.length
  · obtain ⟨A0, c0, rfl, hk0, hm0, -⟩ := hvX
    unfold maxLen at hm0
    clear hv1X
    go_enter Try.func14, Try.ntmps14
    go_wp2
    go_ret
    exact ⟨rfl, hW⟩
  have hlX : X.length ≤ 1048576 := by omega
  by_cases hsF : 1048576 < F.sizes.length
  · have hzF : 1048576 < F.sizes.length := by omega
    obtain ⟨AX0, cX0, rfl, hkX0, hmX0, -⟩ := hvX
    unfold maxLen at hmX0
    go_enter Try.func14, Try.ntmps14
    go_wp2_with fail
    generalize (w.alloc (.cells #[sF, .bool F.big, .bool F.aligned] 24)) = w0 at *
    have hT0 : Below w0.heap.size w0 w0 := Below.refl _ _
    have zlF : w.heap.size < w0.heap.size := bF_0.lt
    obtain ⟨⟨qF_0_0, qF_0_1, qF_0_2⟩, -⟩ := id bF_0.all3
    refine (szFormat_no _ F 1048576 _ (hv1F.ext hT0) hzF (by omega)).mono ?_; rintro e w1 ⟨rfl, hb1⟩
    clear qF_0_0 qF_0_1 qF_0_2
    have z1 : w0.heap.size ≤ w1.heap.size := hb1.size
    have hT1 : Below w0.heap.size w0 w1 := hT0.trans (hb1.mono (by omega))
    go_wp2
    go_ret
    exact ⟨rfl, hW.trans (hT1.mono hW.size)⟩
  have hsz1F : F.sizes.length ≤ 1048576 := by omega
  obtain ⟨AX0, cX0, rfl, hkX0, hmX0, -⟩ := id hvX
  unfold maxLen at hmX0
  go_enter Try.func14, Try.ntmps14
  go_wp2_with fail
  generalize (w.alloc (.cells #[sF, .bool F.big, .bool F.aligned] 24)) = w0 at *
  have hT0 : Below w0.heap.size w0 w0 := Below.refl _ _
  have zlF : w.heap.size < w0.heap.size := bF_0.lt
  obtain ⟨⟨qF_0_0, qF_0_1, qF_0_2⟩, -⟩ := id bF_0.all3
  refine (szFormat_ok _ F 1048576 _ hv1F (by omega) (by omega)).mono ?_; rintro e w1 ⟨rfl, hb1⟩
  clear qF_0_0 qF_0_1 qF_0_2
  have z1 : w0.heap.size ≤ w1.heap.size := hb1.size
  have hT1 : Below w0.heap.size w0 w1 := hT0.trans (hb1.mono (by omega))
  have bF_1 := (Blk.ext bF_0 hb1 (Blk.lt bF_0))
  obtain ⟨⟨qF_1_0, qF_1_1, qF_1_2⟩, -⟩ := id bF_1.all3
  go_wp2_with fail
  refine (toFormat_any _ F _ (hv1F.ext hT1) hsz1F).mono ?_; rintro e w2 ⟨xwFs, rfl, howFs, hb2⟩
  clear qF_1_0 qF_1_1 qF_1_2
  have z2 : w1.heap.size ≤ w2.heap.size := hb2.size
  have hT2 : Below w0.heap.size w0 w2 := hT1.trans (hb2.mono (by omega))
  have bF_2 := (Blk.ext bF_1 hb2 (Blk.lt bF_1))
  clear bF_1
  obtain ⟨⟨qF_2_0, qF_2_1, qF_2_2⟩, -⟩ := id bF_2.all3
  go_wp2_with fail
  refine (toIntS_any _ X _ (hv1X.ext hT2) hlX).mono ?_; rintro e w3 ⟨xwX, rfl, howX, hb3⟩
  clear qF_2_0 qF_2_1 qF_2_2
  have z3 : w2.heap.size ≤ w3.heap.size := hb3.size
  have hT3 : Below w0.heap.size w0 w3 := hT2.trans (hb3.mono (by omega))
  have bF_3 := (Blk.ext bF_2 hb3 (Blk.lt bF_2))
  clear bF_2
  obtain ⟨⟨qF_3_0, qF_3_1, qF_3_2⟩, -⟩ := id bF_3.all3
  go_wp2_with fail
  refine (sSwapBytes_any _ _ F X _ (Own.format (howFs.ext hb3)) (Own.ints howX)).mono ?_; rintro e w4 ⟨rw, rfl, howr, hb4⟩
  clear qF_3_0 qF_3_1 qF_3_2
  have z4 : w3.heap.size ≤ w4.heap.size := hb4.size
  have hT4 : Below w0.heap.size w0 w4 := hT3.trans (hb4.mono (by omega))
  have bF_4 := (Blk.ext bF_3 hb4 (Blk.lt bF_3))
  clear bF_3
  obtain ⟨⟨qF_4_0, qF_4_1, qF_4_2⟩, -⟩ := id bF_4.all3
  have sgwr := howr.seg
  go_wp2_with fail
  refine (toFormat_any _ F _ (hv1F.ext hT4) hsz1F).mono ?_; rintro e w5 ⟨xxFs, rfl, hoxFs, hb5⟩
  clear qF_4_0 qF_4_1 qF_4_2
  have z5 : w4.heap.size ≤ w5.heap.size := hb5.size
  have hT5 : Below w0.heap.size w0 w5 := hT4.trans (hb5.mono (by omega))
  have bF_5 := (Blk.ext bF_4 hb5 (Blk.lt bF_4))
  clear bF_4
  obtain ⟨⟨qF_5_0, qF_5_1, qF_5_2⟩, -⟩ := id bF_5.all3
  have sgxFs := hoxFs.seg
  obtain ⟨AxFs, cxFs, exFs⟩ := hoxFs.form
  subst exFs
  have bxF_6 := Blk.new w5 30 #[.slice AxFs F.sizes.length cxFs, .bool F.big, .bool F.aligned]
  have hb6 := below_alloc w5 (.cells #[.slice AxFs F.sizes.length cxFs, .bool F.big, .bool F.aligned] 30)
  obtain ⟨mF_5_0, mF_5_1, mF_5_2⟩ := (Blk.ext bF_5 (below_alloc w5 (.cells #[.slice AxFs F.sizes.length cxFs, .bool F.big, .bool F.aligned] 30)) (Blk.lt bF_5)).all3.1
  go_wp2_with fail
  generalize w5.alloc (.cells #[.slice AxFs F.sizes.length cxFs, .bool F.big, .bool F.aligned] 30) = w6 at *
  clear qF_5_0 qF_5_1 qF_5_2 mF_5_0 mF_5_1 mF_5_2
  have z6 : w5.heap.size ≤ w6.heap.size := hb6.size
  have hT6 : Below w0.heap.size w0 w6 := hT5.trans (hb6.mono (by omega))
  have zlxF : w5.heap.size < w6.heap.size := bxF_6.lt
  have bF_6 := (Blk.ext bF_5 hb6 (Blk.lt bF_5))
  clear bF_5
  obtain ⟨⟨qF_6_0, qF_6_1, qF_6_2⟩, -⟩ := id bF_6.all3
  obtain ⟨⟨qxF_6_0, qxF_6_1, qxF_6_2⟩, -⟩ := id bxF_6.all3
  go_wp2_with fail
  refine (toIntS_any _ X _ (hv1X.ext hT6) hlX).mono ?_; rintro e w7 ⟨xxX, rfl, hoxX, hb7⟩
  clear qF_6_0 qF_6_1 qF_6_2 qxF_6_0 qxF_6_1 qxF_6_2
  have z7 : w6.heap.size ≤ w7.heap.size := hb7.size
  have hT7 : Below w0.heap.size w0 w7 := hT6.trans (hb7.mono (by omega))
  have bF_7 := (Blk.ext bF_6 hb7 (Blk.lt bF_6))
  clear bF_6
  obtain ⟨⟨qF_7_0, qF_7_1, qF_7_2⟩, -⟩ := id bF_7.all3
  have bxF_7 := (Blk.ext bxF_6 hb7 (Blk.lt bxF_6))
  clear bxF_6
  obtain ⟨⟨qxF_7_0, qxF_7_1, qxF_7_2⟩, -⟩ := id bxF_7.all3
  have sgxX := hoxX.seg
  go_wp2_with fail
  refine (SwapBytes_any _ _ F X _ (Own.format ((hoxFs.ext hb6).ext hb7)) (Own.ints hoxX)).mono ?_; rintro e w8 ⟨rg, rfl, hogr, hb8⟩
  clear qF_7_0 qF_7_1 qF_7_2 qxF_7_0 qxF_7_1 qxF_7_2
  have z8 : w7.heap.size ≤ w8.heap.size := hb8.size
  have hT8 : Below w0.heap.size w0 w8 := hT7.trans (hb8.mono (by omega))
  have bF_8 := (Blk.ext bF_7 hb8 (Blk.lt bF_7))
  clear bF_7
  obtain ⟨⟨qF_8_0, qF_8_1, qF_8_2⟩, -⟩ := id bF_8.all3
  have bxF_8 := (Blk.ext bxF_7 hb8 (Blk.lt bxF_7))
  clear bxF_7
  obtain ⟨⟨qxF_8_0, qxF_8_1, qxF_8_2⟩, -⟩ := id bxF_8.all3
  have sggr := hogr.seg
  go_wp2_with fail
  refine (eqIntS_yes _ _ (swapL F X) _ (Own.ints hogr) (Own.ints ((((howr.ext hb5).ext hb6).ext hb7).ext hb8))).mono ?_; rintro e w9 ⟨rfl, hb9⟩
  clear qF_8_0 qF_8_1 qF_8_2 qxF_8_0 qxF_8_1 qxF_8_2
  have z9 : w8.heap.size ≤ w9.heap.size := hb9.size
  have hT9 : Below w0.heap.size w0 w9 := hT8.trans (hb9.mono (by omega))
  have bF_9 := (Blk.ext bF_8 hb9 (Blk.lt bF_8))
  clear bF_8
  obtain ⟨⟨qF_9_0, qF_9_1, qF_9_2⟩, -⟩ := id bF_9.all3
  have bxF_9 := (Blk.ext bxF_8 hb9 (Blk.lt bxF_8))
  clear bxF_8
  obtain ⟨⟨qxF_9_0, qxF_9_1, qxF_9_2⟩, -⟩ := id bxF_9.all3
  go_wp2_with fail
  have hTd : Below w0.heap.size w0 w9.drew := hT9.drew
  have hoys := (((((hoxFs.ext hb6).ext hb7).ext hb8).ext hb9).ext (below_drew w9))
  go_region_held3 (fun w' => w'.cell? ⟨w5.heap.size, 0, none⟩ = some (.slice AxFs F.sizes.length cxFs) ∧ w'.cell? ⟨w5.heap.size, 1, none⟩ = some (.bool F.big) ∧ w'.cell? ⟨w5.heap.size, 2, none⟩ = some (.bool F.aligned) ∧ w'.cell? ⟨w.heap.size, 0, none⟩ = some (sF) ∧ w'.cell? ⟨w.heap.size, 1, none⟩ = some (.bool F.big) ∧ w'.cell? ⟨w.heap.size, 2, none⟩ = some (.bool F.aligned))
    (first | go_keep | exact hK11 | exact hK12)
    (first
      | (go_at_call 17; refine (toFormat_any _ F _ (hv1F.ext hTd) hsz1F).mono ?_; rintro e w11 ⟨ys, rfl, hozs, hb11⟩; have hK11 : w11.cell? ⟨w5.heap.size, 0, none⟩ = some (.slice AxFs F.sizes.length cxFs) ∧ w11.cell? ⟨w5.heap.size, 1, none⟩ = some (.bool F.big) ∧ w11.cell? ⟨w5.heap.size, 2, none⟩ = some (.bool F.aligned) ∧ w11.cell? ⟨w.heap.size, 0, none⟩ = some (sF) ∧ w11.cell? ⟨w.heap.size, 1, none⟩ = some (.bool F.big) ∧ w11.cell? ⟨w.heap.size, 2, none⟩ = some (.bool F.aligned) := ⟨Blk.cell (Blk.ext (Blk.ext bxF_9 (below_drew w9) (Blk.lt bxF_9)) hb11 (Blk.lt (Blk.ext bxF_9 (below_drew w9) (Blk.lt bxF_9)))) 0, Blk.cell (Blk.ext (Blk.ext bxF_9 (below_drew w9) (Blk.lt bxF_9)) hb11 (Blk.lt (Blk.ext bxF_9 (below_drew w9) (Blk.lt bxF_9)))) 1, Blk.cell (Blk.ext (Blk.ext bxF_9 (below_drew w9) (Blk.lt bxF_9)) hb11 (Blk.lt (Blk.ext bxF_9 (below_drew w9) (Blk.lt bxF_9)))) 2, Blk.cell (Blk.ext (Blk.ext bF_9 (below_drew w9) (Blk.lt bF_9)) hb11 (Blk.lt (Blk.ext bF_9 (below_drew w9) (Blk.lt bF_9)))) 0, Blk.cell (Blk.ext (Blk.ext bF_9 (below_drew w9) (Blk.lt bF_9)) hb11 (Blk.lt (Blk.ext bF_9 (below_drew w9) (Blk.lt bF_9)))) 1, Blk.cell (Blk.ext (Blk.ext bF_9 (below_drew w9) (Blk.lt bF_9)) hb11 (Blk.lt (Blk.ext bF_9 (below_drew w9) (Blk.lt bF_9)))) 2⟩)
      | (go_at_call 20; refine (eqFormat_yes _ _ F _ (Own.format (hoys.ext hb11)) (Own.format hozs)).mono ?_; rintro e w12 ⟨rfl, hb12⟩; have hK12 : w12.cell? ⟨w5.heap.size, 0, none⟩ = some (.slice AxFs F.sizes.length cxFs) ∧ w12.cell? ⟨w5.heap.size, 1, none⟩ = some (.bool F.big) ∧ w12.cell? ⟨w5.heap.size, 2, none⟩ = some (.bool F.aligned) ∧ w12.cell? ⟨w.heap.size, 0, none⟩ = some (sF) ∧ w12.cell? ⟨w.heap.size, 1, none⟩ = some (.bool F.big) ∧ w12.cell? ⟨w.heap.size, 2, none⟩ = some (.bool F.aligned) := ⟨Blk.cell (Blk.ext (Blk.ext (Blk.ext bxF_9 (below_drew w9) (Blk.lt bxF_9)) hb11 (Blk.lt (Blk.ext bxF_9 (below_drew w9) (Blk.lt bxF_9)))) hb12 (Blk.lt (Blk.ext (Blk.ext bxF_9 (below_drew w9) (Blk.lt bxF_9)) hb11 (Blk.lt (Blk.ext bxF_9 (below_drew w9) (Blk.lt bxF_9)))))) 0, Blk.cell (Blk.ext (Blk.ext (Blk.ext bxF_9 (below_drew w9) (Blk.lt bxF_9)) hb11 (Blk.lt (Blk.ext bxF_9 (below_drew w9) (Blk.lt bxF_9)))) hb12 (Blk.lt (Blk.ext (Blk.ext bxF_9 (below_drew w9) (Blk.lt bxF_9)) hb11 (Blk.lt (Blk.ext bxF_9 (below_drew w9) (Blk.lt bxF_9)))))) 1, Blk.cell (Blk.ext (Blk.ext (Blk.ext bxF_9 (below_drew w9) (Blk.lt bxF_9)) hb11 (Blk.lt (Blk.ext bxF_9 (below_drew w9) (Blk.lt bxF_9)))) hb12 (Blk.lt (Blk.ext (Blk.ext bxF_9 (below_drew w9) (Blk.lt bxF_9)) hb11 (Blk.lt (Blk.ext bxF_9 (below_drew w9) (Blk.lt bxF_9)))))) 2, Blk.cell (Blk.ext (Blk.ext (Blk.ext bF_9 (below_drew w9) (Blk.lt bF_9)) hb11 (Blk.lt (Blk.ext bF_9 (below_drew w9) (Blk.lt bF_9)))) hb12 (Blk.lt (Blk.ext (Blk.ext bF_9 (below_drew w9) (Blk.lt bF_9)) hb11 (Blk.lt (Blk.ext bF_9 (below_drew w9) (Blk.lt bF_9)))))) 0, Blk.cell (Blk.ext (Blk.ext (Blk.ext bF_9 (below_drew w9) (Blk.lt bF_9)) hb11 (Blk.lt (Blk.ext bF_9 (below_drew w9) (Blk.lt bF_9)))) hb12 (Blk.lt (Blk.ext (Blk.ext bF_9 (below_drew w9) (Blk.lt bF_9)) hb11 (Blk.lt (Blk.ext bF_9 (below_drew w9) (Blk.lt bF_9)))))) 1, Blk.cell (Blk.ext (Blk.ext (Blk.ext bF_9 (below_drew w9) (Blk.lt bF_9)) hb11 (Blk.lt (Blk.ext bF_9 (below_drew w9) (Blk.lt bF_9)))) hb12 (Blk.lt (Blk.ext (Blk.ext bF_9 (below_drew w9) (Blk.lt bF_9)) hb11 (Blk.lt (Blk.ext bF_9 (below_drew w9) (Blk.lt bF_9)))))) 2⟩))
  clear qF_9_0 qF_9_1 qF_9_2 qxF_9_0 qxF_9_1 qxF_9_2
  clear hK11 hK12 hoys hozs
  have z10 : w9.heap.size ≤ w9.drew.heap.size := Nat.le_refl _
  have hT10 := hTd
  have z11 : w9.drew.heap.size ≤ w11.heap.size := hb11.size
  have hT11 : Below w0.heap.size w0 w11 := hT10.trans (hb11.mono (by omega))
  have z12 : w11.heap.size ≤ w12.heap.size := hb12.size
  have hT12 : Below w0.heap.size w0 w12 := hT11.trans (hb12.mono (by omega))
  clear hTd
  have bF_12 := (Blk.ext (Blk.ext (Blk.ext bF_9 (below_drew w9) (Blk.lt bF_9)) hb11 (Blk.lt (Blk.ext bF_9 (below_drew w9) (Blk.lt bF_9)))) hb12 (Blk.lt (Blk.ext (Blk.ext bF_9 (below_drew w9) (Blk.lt bF_9)) hb11 (Blk.lt (Blk.ext bF_9 (below_drew w9) (Blk.lt bF_9))))))
  clear bF_9
  obtain ⟨⟨qF_12_0, qF_12_1, qF_12_2⟩, -⟩ := id bF_12.all3
  have bxF_12 := (Blk.ext (Blk.ext (Blk.ext bxF_9 (below_drew w9) (Blk.lt bxF_9)) hb11 (Blk.lt (Blk.ext bxF_9 (below_drew w9) (Blk.lt bxF_9)))) hb12 (Blk.lt (Blk.ext (Blk.ext bxF_9 (below_drew w9) (Blk.lt bxF_9)) hb11 (Blk.lt (Blk.ext bxF_9 (below_drew w9) (Blk.lt bxF_9))))))
  clear bxF_9
  obtain ⟨⟨qxF_12_0, qxF_12_1, qxF_12_2⟩, -⟩ := id bxF_12.all3
  go_wp2_with fail
  refine (toIntS_any _ X _ (hv1X.ext hT12) hlX).mono ?_; rintro e w13 ⟨yy, rfl, hoyy, hb13⟩
  clear qF_12_0 qF_12_1 qF_12_2 qxF_12_0 qxF_12_1 qxF_12_2
  have z13 : w12.heap.size ≤ w13.heap.size := hb13.size
  have hT13 : Below w0.heap.size w0 w13 := hT12.trans (hb13.mono (by omega))
  have bF_13 := (Blk.ext bF_12 hb13 (Blk.lt bF_12))
  clear bF_12
  obtain ⟨⟨qF_13_0, qF_13_1, qF_13_2⟩, -⟩ := id bF_13.all3
  have bxF_13 := (Blk.ext bxF_12 hb13 (Blk.lt bxF_12))
  clear bxF_12
  obtain ⟨⟨qxF_13_0, qxF_13_1, qxF_13_2⟩, -⟩ := id bxF_13.all3
  go_wp2_with fail
  refine (eqIntS_yes _ _ X _ (Own.ints ((((((hoxX.ext hb8).ext hb9).ext (below_drew w9)).ext hb11).ext hb12).ext hb13)) (Own.ints hoyy)).mono ?_; rintro e w14 ⟨rfl, hb14⟩
  clear qF_13_0 qF_13_1 qF_13_2 qxF_13_0 qxF_13_1 qxF_13_2
  have z14 : w13.heap.size ≤ w14.heap.size := hb14.size
  have hT14 : Below w0.heap.size w0 w14 := hT13.trans (hb14.mono (by omega))
  have bF_14 := (Blk.ext bF_13 hb14 (Blk.lt bF_13))
  clear bF_13
  obtain ⟨⟨qF_14_0, qF_14_1, qF_14_2⟩, -⟩ := id bF_14.all3
  have bxF_14 := (Blk.ext bxF_13 hb14 (Blk.lt bxF_13))
  clear bxF_13
  obtain ⟨⟨qxF_14_0, qxF_14_1, qxF_14_2⟩, -⟩ := id bxF_14.all3
  clear hoyy
  go_wp2_with fail
  refine (markFormat_any _ F (1) w4.heap.size w4.heap.size w5.heap.size _ (((((((((hoxFs.ext hb6).ext hb7).ext hb8).ext hb9).ext (below_drew w9)).ext hb11).ext hb12).ext hb13).ext hb14) sgxFs hsz1F (by omega)).mono ?_; rintro e w15 ⟨rfl, -, hb15⟩
  clear qF_14_0 qF_14_1 qF_14_2 qxF_14_0 qxF_14_1 qxF_14_2
  have z15 : w14.heap.size ≤ w15.heap.size := hb15.size
  have hT15 : Below w0.heap.size w0 w15 := hT14.trans (hb15.below (by omega) (by omega))
  have bF_15 := (Blk.chg bF_14 hb15 (by omega))
  clear bF_14
  obtain ⟨⟨qF_15_0, qF_15_1, qF_15_2⟩, -⟩ := id bF_15.all3
  go_wp2_with fail
  refine (markIntS_any _ X (1 + F.sizes.length) _ _ ((((((((hoxX.ext hb8).ext hb9).ext (below_drew w9)).ext hb11).ext hb12).ext hb13).ext hb14).chg hb15 sgxX (by omega)) hlX (by omega)).mono ?_; rintro e w16 ⟨rfl, -, hw16⟩
  have hb16 := Chg.of_grown hw16 sgxX
  clear qF_15_0 qF_15_1 qF_15_2
  have z16 : w15.heap.size ≤ w16.heap.size := hb16.size
  have hT16 : Below w0.heap.size w0 w16 := hT15.trans (hb16.below (by omega) (by omega))
  have bF_16 := (Blk.chg bF_15 hb16 (by omega))
  clear bF_15
  obtain ⟨⟨qF_16_0, qF_16_1, qF_16_2⟩, -⟩ := id bF_16.all3
  go_wp2_with fail
  refine (eqIntS_yes _ _ (swapL F X) _ (Own.ints ((((((((hogr.ext hb9).ext (below_drew w9)).ext hb11).ext hb12).ext hb13).ext hb14).chg hb15 sggr (by omega)).chg hb16 sggr (by omega))) (Own.ints ((((((((((((howr.ext hb5).ext hb6).ext hb7).ext hb8).ext hb9).ext (below_drew w9)).ext hb11).ext hb12).ext hb13).ext hb14).chg hb15 sgwr (by omega)).chg hb16 sgwr (by omega)))).mono ?_; rintro e w17 ⟨rfl, hb17⟩
  clear qF_16_0 qF_16_1 qF_16_2
  have z17 : w16.heap.size ≤ w17.heap.size := hb17.size
  have hT17 : Below w0.heap.size w0 w17 := hT16.trans (hb17.mono (by omega))
  have bF_17 := (Blk.ext bF_16 hb17 (Blk.lt bF_16))
  clear bF_16
  obtain ⟨⟨qF_17_0, qF_17_1, qF_17_2⟩, -⟩ := id bF_17.all3
  have hlr : (swapL F X).length ≤ 1048576 := by have := swapL_len F X; omega
  go_wp2_with fail
  refine (markIntS_any _ (swapL F X) (1) _ _ (((((((((hogr.ext hb9).ext (below_drew w9)).ext hb11).ext hb12).ext hb13).ext hb14).chg hb15 sggr (by omega)).chg hb16 sggr (by omega)).ext hb17) hlr (by omega)).mono ?_; rintro e w18 ⟨rfl, hom, hw18⟩
  have hb18 := Chg.of_grown hw18 sggr
  clear qF_17_0 qF_17_1 qF_17_2
  have z18 : w17.heap.size ≤ w18.heap.size := hb18.size
  have hT18 : Below w0.heap.size w0 w18 := hT17.trans (hb18.below (by omega) (by omega))
  have bF_18 := (Blk.chg bF_17 hb18 (by omega))
  clear bF_17
  obtain ⟨⟨qF_18_0, qF_18_1, qF_18_2⟩, -⟩ := id bF_18.all3
  go_wp2_with fail
  refine (heldIntS_any _ (1) (swapL F X).length _ (Own.ints hom) hlr (by omega)).mono ?_; rintro e w' ⟨rfl, rfl⟩
  go_wp2_with fail
  refine (toFormat_any _ F _ (hv1F.ext hT18) hsz1F).mono ?_; rintro e w19 ⟨xhFs, rfl, hohFs, hb19⟩
  clear qF_18_0 qF_18_1 qF_18_2
  have z19 : w18.heap.size ≤ w19.heap.size := hb19.size
  have hT19 : Below w0.heap.size w0 w19 := hT18.trans (hb19.mono (by omega))
  have bF_19 := (Blk.ext bF_18 hb19 (Blk.lt bF_18))
  clear bF_18
  obtain ⟨⟨qF_19_0, qF_19_1, qF_19_2⟩, -⟩ := id bF_19.all3
  go_wp2_with fail
  refine (toIntS_any _ X _ (hv1X.ext hT19) hlX).mono ?_; rintro e w20 ⟨xhX, rfl, hohX, hb20⟩
  clear qF_19_0 qF_19_1 qF_19_2
  have z20 : w19.heap.size ≤ w20.heap.size := hb20.size
  have hT20 : Below w0.heap.size w0 w20 := hT19.trans (hb20.mono (by omega))
  have bF_20 := (Blk.ext bF_19 hb20 (Blk.lt bF_19))
  clear bF_19
  obtain ⟨⟨qF_20_0, qF_20_1, qF_20_2⟩, -⟩ := id bF_20.all3
  go_wp2_with fail
  refine (SwapBytes_any _ _ F X _ (Own.format (hohFs.ext hb20)) (Own.ints hohX)).mono ?_; rintro e w21 ⟨rh, rfl, hohr, hb21⟩
  clear qF_20_0 qF_20_1 qF_20_2
  have z21 : w20.heap.size ≤ w21.heap.size := hb21.size
  have hT21 : Below w0.heap.size w0 w21 := hT20.trans (hb21.mono (by omega))
  have bF_21 := (Blk.ext bF_20 hb21 (Blk.lt bF_20))
  clear bF_20
  obtain ⟨⟨qF_21_0, qF_21_1, qF_21_2⟩, -⟩ := id bF_21.all3
  have sghr := hohr.seg
  go_wp2_with fail
  refine (eqIntS_yes _ _ (swapL F X) _ (Own.ints hohr) (Own.ints (((((((((((((((((howr.ext hb5).ext hb6).ext hb7).ext hb8).ext hb9).ext (below_drew w9)).ext hb11).ext hb12).ext hb13).ext hb14).chg hb15 sgwr (by omega)).chg hb16 sgwr (by omega)).ext hb17).chg hb18 sgwr (by omega)).ext hb19).ext hb20).ext hb21))).mono ?_; rintro e w22 ⟨rfl, hb22⟩
  clear qF_21_0 qF_21_1 qF_21_2
  have z22 : w21.heap.size ≤ w22.heap.size := hb22.size
  have hT22 : Below w0.heap.size w0 w22 := hT21.trans (hb22.mono (by omega))
  have bF_22 := (Blk.ext bF_21 hb22 (Blk.lt bF_21))
  clear bF_21
  obtain ⟨⟨qF_22_0, qF_22_1, qF_22_2⟩, -⟩ := id bF_22.all3
  go_wp2_with fail
  refine (heldIntS_any _ (1) (swapL F X).length _ (Own.ints ((((hom.ext hb19).ext hb20).ext hb21).ext hb22)) hlr (by omega)).mono ?_; rintro e w' ⟨rfl, rfl⟩
  go_wp2
  go_ret
  exact ⟨rfl, hW.trans (hT22.mono hW.size)⟩

end Go.Proofs.Ytonlhphgoedcnaa
