/- The walks of exact laws: each answers true at every input and changes nothing that was there. No conditions. (printed by genlaw2.py) -/
import Derived.Test.YtonlhphgoedcnaaQ6
import Derived.Test.YtonlhphgoedcnaaQ7
import Derived.Test.YtonlhphgoedcnaaL4
import Derived.Deep.RegionHeld3
namespace Go.Proofs.Ytonlhphgoedcnaa
open Go.RowKit

set_option maxRecDepth 100000 in
set_option maxHeartbeats 3200000 in
theorem FnExactPaddingOf_walk (vF : Value) (F : FL) (w : World) (hvF : FormatV w vF F) :
    Calls Try.prog 4 #[vF] w fun e w' => e = .returned (.bool true) ∧ Below w.heap.size w w' := by
  have hv0F := hvF
  obtain ⟨sF, rfl, -⟩ := hvF
  have hW : Below w.heap.size w (w.alloc (.cells #[sF, .bool F.big, .bool F.aligned] 24)) := Below.alloc (Below.refl w.heap.size w) (by simp <;> omega) (.cells #[sF, .bool F.big, .bool F.aligned] 24)
  have bF_0 : Blk (w.alloc (.cells #[sF, .bool F.big, .bool F.aligned] 24)) (w.heap.size) 24 #[sF, .bool F.big, .bool F.aligned] := (Blk.new w 24 #[sF, .bool F.big, .bool F.aligned])
  have hv1F := hv0F.ext hW
  by_cases hsF : 1048576 < F.sizes.length
  · have hzF : 1048576 < F.sizes.length := by omega
    go_enter Try.func4, Try.ntmps4
    go_wp2_with fail
    generalize (w.alloc (.cells #[sF, .bool F.big, .bool F.aligned] 24)) = w0 at *
    have hT0 : Below w0.heap.size w0 w0 := Below.refl _ _
    have zlF : w.heap.size < w0.heap.size := bF_0.lt
    obtain ⟨⟨qF_0_0, qF_0_1, qF_0_2⟩, -⟩ := id bF_0.all3
    refine (szFormat_no _ F 1048576 _ (hv1F.ext hT0) hzF (by omega)).mono ?_; rintro e w1 ⟨rfl, hb1⟩
    clear qF_0_0 qF_0_1 qF_0_2
    have z1 : w0.heap.size ≤ w1.heap.size := hb1.size
    have hT1 : Below w0.heap.size w0 w1 := hT0.trans (hb1.mono (by omega))
    go_wp2
    go_ret
    exact ⟨rfl, hW.trans (hT1.mono hW.size)⟩
  have hsz1F : F.sizes.length ≤ 1048576 := by omega
  go_enter Try.func4, Try.ntmps4
  go_wp2_with fail
  generalize (w.alloc (.cells #[sF, .bool F.big, .bool F.aligned] 24)) = w0 at *
  have hT0 : Below w0.heap.size w0 w0 := Below.refl _ _
  have zlF : w.heap.size < w0.heap.size := bF_0.lt
  obtain ⟨⟨qF_0_0, qF_0_1, qF_0_2⟩, -⟩ := id bF_0.all3
  refine (szFormat_ok _ F 1048576 _ hv1F (by omega) (by omega)).mono ?_; rintro e w1 ⟨rfl, hb1⟩
  clear qF_0_0 qF_0_1 qF_0_2
  have z1 : w0.heap.size ≤ w1.heap.size := hb1.size
  have hT1 : Below w0.heap.size w0 w1 := hT0.trans (hb1.mono (by omega))
  have bF_1 := (Blk.ext bF_0 hb1 (Blk.lt bF_0))
  obtain ⟨⟨qF_1_0, qF_1_1, qF_1_2⟩, -⟩ := id bF_1.all3
  go_wp2_with fail
  refine (toFormat_any _ F _ (hv1F.ext hT1) hsz1F).mono ?_; rintro e w2 ⟨xwFs, rfl, howFs, hb2⟩
  clear qF_1_0 qF_1_1 qF_1_2
  have z2 : w1.heap.size ≤ w2.heap.size := hb2.size
  have hT2 : Below w0.heap.size w0 w2 := hT1.trans (hb2.mono (by omega))
  have bF_2 := (Blk.ext bF_1 hb2 (Blk.lt bF_1))
  clear bF_1
  obtain ⟨⟨qF_2_0, qF_2_1, qF_2_2⟩, -⟩ := id bF_2.all3
  go_wp2_with fail
  refine (sPaddingOf_any _ F _ (Own.format howFs)).mono ?_; rintro e w3 ⟨rw, rfl, howr, hb3⟩
  clear qF_2_0 qF_2_1 qF_2_2
  have z3 : w2.heap.size ≤ w3.heap.size := hb3.size
  have hT3 : Below w0.heap.size w0 w3 := hT2.trans (hb3.mono (by omega))
  have bF_3 := (Blk.ext bF_2 hb3 (Blk.lt bF_2))
  clear bF_2
  obtain ⟨⟨qF_3_0, qF_3_1, qF_3_2⟩, -⟩ := id bF_3.all3
  have sgwr := howr.seg
  go_wp2_with fail
  refine (toFormat_any _ F _ (hv1F.ext hT3) hsz1F).mono ?_; rintro e w4 ⟨xxFs, rfl, hoxFs, hb4⟩
  clear qF_3_0 qF_3_1 qF_3_2
  have z4 : w3.heap.size ≤ w4.heap.size := hb4.size
  have hT4 : Below w0.heap.size w0 w4 := hT3.trans (hb4.mono (by omega))
  have bF_4 := (Blk.ext bF_3 hb4 (Blk.lt bF_3))
  clear bF_3
  obtain ⟨⟨qF_4_0, qF_4_1, qF_4_2⟩, -⟩ := id bF_4.all3
  have sgxFs := hoxFs.seg
  obtain ⟨AxFs, cxFs, exFs⟩ := hoxFs.form
  subst exFs
  have bxF_5 := Blk.new w4 30 #[.slice AxFs F.sizes.length cxFs, .bool F.big, .bool F.aligned]
  have hb5 := below_alloc w4 (.cells #[.slice AxFs F.sizes.length cxFs, .bool F.big, .bool F.aligned] 30)
  obtain ⟨mF_4_0, mF_4_1, mF_4_2⟩ := (Blk.ext bF_4 (below_alloc w4 (.cells #[.slice AxFs F.sizes.length cxFs, .bool F.big, .bool F.aligned] 30)) (Blk.lt bF_4)).all3.1
  go_wp2_with fail
  generalize w4.alloc (.cells #[.slice AxFs F.sizes.length cxFs, .bool F.big, .bool F.aligned] 30) = w5 at *
  clear qF_4_0 qF_4_1 qF_4_2 mF_4_0 mF_4_1 mF_4_2
  have z5 : w4.heap.size ≤ w5.heap.size := hb5.size
  have hT5 : Below w0.heap.size w0 w5 := hT4.trans (hb5.mono (by omega))
  have zlxF : w4.heap.size < w5.heap.size := bxF_5.lt
  have bF_5 := (Blk.ext bF_4 hb5 (Blk.lt bF_4))
  clear bF_4
  obtain ⟨⟨qF_5_0, qF_5_1, qF_5_2⟩, -⟩ := id bF_5.all3
  obtain ⟨⟨qxF_5_0, qxF_5_1, qxF_5_2⟩, -⟩ := id bxF_5.all3
  go_wp2_with fail
  refine (PaddingOf_any _ F _ (Own.format (hoxFs.ext hb5))).mono ?_; rintro e w6 ⟨rg, rfl, hogr, hb6⟩
  clear qF_5_0 qF_5_1 qF_5_2 qxF_5_0 qxF_5_1 qxF_5_2
  have z6 : w5.heap.size ≤ w6.heap.size := hb6.size
  have hT6 : Below w0.heap.size w0 w6 := hT5.trans (hb6.mono (by omega))
  have bF_6 := (Blk.ext bF_5 hb6 (Blk.lt bF_5))
  clear bF_5
  obtain ⟨⟨qF_6_0, qF_6_1, qF_6_2⟩, -⟩ := id bF_6.all3
  have bxF_6 := (Blk.ext bxF_5 hb6 (Blk.lt bxF_5))
  clear bxF_5
  obtain ⟨⟨qxF_6_0, qxF_6_1, qxF_6_2⟩, -⟩ := id bxF_6.all3
  have sggr := hogr.seg
  go_wp2_with fail
  refine (eqIntS_yes _ _ (padL F) _ (Own.ints hogr) (Own.ints (((howr.ext hb4).ext hb5).ext hb6))).mono ?_; rintro e w7 ⟨rfl, hb7⟩
  clear qF_6_0 qF_6_1 qF_6_2 qxF_6_0 qxF_6_1 qxF_6_2
  have z7 : w6.heap.size ≤ w7.heap.size := hb7.size
  have hT7 : Below w0.heap.size w0 w7 := hT6.trans (hb7.mono (by omega))
  have bF_7 := (Blk.ext bF_6 hb7 (Blk.lt bF_6))
  clear bF_6
  obtain ⟨⟨qF_7_0, qF_7_1, qF_7_2⟩, -⟩ := id bF_7.all3
  have bxF_7 := (Blk.ext bxF_6 hb7 (Blk.lt bxF_6))
  clear bxF_6
  obtain ⟨⟨qxF_7_0, qxF_7_1, qxF_7_2⟩, -⟩ := id bxF_7.all3
  go_wp2_with fail
  have hTd : Below w0.heap.size w0 w7.drew := hT7.drew
  have hoys := ((((hoxFs.ext hb5).ext hb6).ext hb7).ext (below_drew w7))
  go_region_held3 (fun w' => w'.cell? ⟨w4.heap.size, 0, none⟩ = some (.slice AxFs F.sizes.length cxFs) ∧ w'.cell? ⟨w4.heap.size, 1, none⟩ = some (.bool F.big) ∧ w'.cell? ⟨w4.heap.size, 2, none⟩ = some (.bool F.aligned) ∧ w'.cell? ⟨w.heap.size, 0, none⟩ = some (sF) ∧ w'.cell? ⟨w.heap.size, 1, none⟩ = some (.bool F.big) ∧ w'.cell? ⟨w.heap.size, 2, none⟩ = some (.bool F.aligned))
    (first | go_keep | exact hK9 | exact hK10)
    (first
      | (go_at_call 17; refine (toFormat_any _ F _ (hv1F.ext hTd) hsz1F).mono ?_; rintro e w9 ⟨ys, rfl, hozs, hb9⟩; have hK9 : w9.cell? ⟨w4.heap.size, 0, none⟩ = some (.slice AxFs F.sizes.length cxFs) ∧ w9.cell? ⟨w4.heap.size, 1, none⟩ = some (.bool F.big) ∧ w9.cell? ⟨w4.heap.size, 2, none⟩ = some (.bool F.aligned) ∧ w9.cell? ⟨w.heap.size, 0, none⟩ = some (sF) ∧ w9.cell? ⟨w.heap.size, 1, none⟩ = some (.bool F.big) ∧ w9.cell? ⟨w.heap.size, 2, none⟩ = some (.bool F.aligned) := ⟨Blk.cell (Blk.ext (Blk.ext bxF_7 (below_drew w7) (Blk.lt bxF_7)) hb9 (Blk.lt (Blk.ext bxF_7 (below_drew w7) (Blk.lt bxF_7)))) 0, Blk.cell (Blk.ext (Blk.ext bxF_7 (below_drew w7) (Blk.lt bxF_7)) hb9 (Blk.lt (Blk.ext bxF_7 (below_drew w7) (Blk.lt bxF_7)))) 1, Blk.cell (Blk.ext (Blk.ext bxF_7 (below_drew w7) (Blk.lt bxF_7)) hb9 (Blk.lt (Blk.ext bxF_7 (below_drew w7) (Blk.lt bxF_7)))) 2, Blk.cell (Blk.ext (Blk.ext bF_7 (below_drew w7) (Blk.lt bF_7)) hb9 (Blk.lt (Blk.ext bF_7 (below_drew w7) (Blk.lt bF_7)))) 0, Blk.cell (Blk.ext (Blk.ext bF_7 (below_drew w7) (Blk.lt bF_7)) hb9 (Blk.lt (Blk.ext bF_7 (below_drew w7) (Blk.lt bF_7)))) 1, Blk.cell (Blk.ext (Blk.ext bF_7 (below_drew w7) (Blk.lt bF_7)) hb9 (Blk.lt (Blk.ext bF_7 (below_drew w7) (Blk.lt bF_7)))) 2⟩)
      | (go_at_call 20; refine (eqFormat_yes _ _ F _ (Own.format (hoys.ext hb9)) (Own.format hozs)).mono ?_; rintro e w10 ⟨rfl, hb10⟩; have hK10 : w10.cell? ⟨w4.heap.size, 0, none⟩ = some (.slice AxFs F.sizes.length cxFs) ∧ w10.cell? ⟨w4.heap.size, 1, none⟩ = some (.bool F.big) ∧ w10.cell? ⟨w4.heap.size, 2, none⟩ = some (.bool F.aligned) ∧ w10.cell? ⟨w.heap.size, 0, none⟩ = some (sF) ∧ w10.cell? ⟨w.heap.size, 1, none⟩ = some (.bool F.big) ∧ w10.cell? ⟨w.heap.size, 2, none⟩ = some (.bool F.aligned) := ⟨Blk.cell (Blk.ext (Blk.ext (Blk.ext bxF_7 (below_drew w7) (Blk.lt bxF_7)) hb9 (Blk.lt (Blk.ext bxF_7 (below_drew w7) (Blk.lt bxF_7)))) hb10 (Blk.lt (Blk.ext (Blk.ext bxF_7 (below_drew w7) (Blk.lt bxF_7)) hb9 (Blk.lt (Blk.ext bxF_7 (below_drew w7) (Blk.lt bxF_7)))))) 0, Blk.cell (Blk.ext (Blk.ext (Blk.ext bxF_7 (below_drew w7) (Blk.lt bxF_7)) hb9 (Blk.lt (Blk.ext bxF_7 (below_drew w7) (Blk.lt bxF_7)))) hb10 (Blk.lt (Blk.ext (Blk.ext bxF_7 (below_drew w7) (Blk.lt bxF_7)) hb9 (Blk.lt (Blk.ext bxF_7 (below_drew w7) (Blk.lt bxF_7)))))) 1, Blk.cell (Blk.ext (Blk.ext (Blk.ext bxF_7 (below_drew w7) (Blk.lt bxF_7)) hb9 (Blk.lt (Blk.ext bxF_7 (below_drew w7) (Blk.lt bxF_7)))) hb10 (Blk.lt (Blk.ext (Blk.ext bxF_7 (below_drew w7) (Blk.lt bxF_7)) hb9 (Blk.lt (Blk.ext bxF_7 (below_drew w7) (Blk.lt bxF_7)))))) 2, Blk.cell (Blk.ext (Blk.ext (Blk.ext bF_7 (below_drew w7) (Blk.lt bF_7)) hb9 (Blk.lt (Blk.ext bF_7 (below_drew w7) (Blk.lt bF_7)))) hb10 (Blk.lt (Blk.ext (Blk.ext bF_7 (below_drew w7) (Blk.lt bF_7)) hb9 (Blk.lt (Blk.ext bF_7 (below_drew w7) (Blk.lt bF_7)))))) 0, Blk.cell (Blk.ext (Blk.ext (Blk.ext bF_7 (below_drew w7) (Blk.lt bF_7)) hb9 (Blk.lt (Blk.ext bF_7 (below_drew w7) (Blk.lt bF_7)))) hb10 (Blk.lt (Blk.ext (Blk.ext bF_7 (below_drew w7) (Blk.lt bF_7)) hb9 (Blk.lt (Blk.ext bF_7 (below_drew w7) (Blk.lt bF_7)))))) 1, Blk.cell (Blk.ext (Blk.ext (Blk.ext bF_7 (below_drew w7) (Blk.lt bF_7)) hb9 (Blk.lt (Blk.ext bF_7 (below_drew w7) (Blk.lt bF_7)))) hb10 (Blk.lt (Blk.ext (Blk.ext bF_7 (below_drew w7) (Blk.lt bF_7)) hb9 (Blk.lt (Blk.ext bF_7 (below_drew w7) (Blk.lt bF_7)))))) 2⟩))
  clear qF_7_0 qF_7_1 qF_7_2 qxF_7_0 qxF_7_1 qxF_7_2
  clear hK9 hK10 hoys hozs
  have z8 : w7.heap.size ≤ w7.drew.heap.size := Nat.le_refl _
  have hT8 := hTd
  have z9 : w7.drew.heap.size ≤ w9.heap.size := hb9.size
  have hT9 : Below w0.heap.size w0 w9 := hT8.trans (hb9.mono (by omega))
  have z10 : w9.heap.size ≤ w10.heap.size := hb10.size
  have hT10 : Below w0.heap.size w0 w10 := hT9.trans (hb10.mono (by omega))
  clear hTd
  have bF_10 := (Blk.ext (Blk.ext (Blk.ext bF_7 (below_drew w7) (Blk.lt bF_7)) hb9 (Blk.lt (Blk.ext bF_7 (below_drew w7) (Blk.lt bF_7)))) hb10 (Blk.lt (Blk.ext (Blk.ext bF_7 (below_drew w7) (Blk.lt bF_7)) hb9 (Blk.lt (Blk.ext bF_7 (below_drew w7) (Blk.lt bF_7))))))
  clear bF_7
  obtain ⟨⟨qF_10_0, qF_10_1, qF_10_2⟩, -⟩ := id bF_10.all3
  have bxF_10 := (Blk.ext (Blk.ext (Blk.ext bxF_7 (below_drew w7) (Blk.lt bxF_7)) hb9 (Blk.lt (Blk.ext bxF_7 (below_drew w7) (Blk.lt bxF_7)))) hb10 (Blk.lt (Blk.ext (Blk.ext bxF_7 (below_drew w7) (Blk.lt bxF_7)) hb9 (Blk.lt (Blk.ext bxF_7 (below_drew w7) (Blk.lt bxF_7))))))
  clear bxF_7
  obtain ⟨⟨qxF_10_0, qxF_10_1, qxF_10_2⟩, -⟩ := id bxF_10.all3
  go_wp2_with fail
  refine (markFormat_any _ F (1) w3.heap.size w3.heap.size w4.heap.size _ ((((((hoxFs.ext hb5).ext hb6).ext hb7).ext (below_drew w7)).ext hb9).ext hb10) sgxFs hsz1F (by omega)).mono ?_; rintro e w11 ⟨rfl, -, hb11⟩
  clear qF_10_0 qF_10_1 qF_10_2 qxF_10_0 qxF_10_1 qxF_10_2
  have z11 : w10.heap.size ≤ w11.heap.size := hb11.size
  have hT11 : Below w0.heap.size w0 w11 := hT10.trans (hb11.below (by omega) (by omega))
  have bF_11 := (Blk.chg bF_10 hb11 (by omega))
  clear bF_10
  obtain ⟨⟨qF_11_0, qF_11_1, qF_11_2⟩, -⟩ := id bF_11.all3
  go_wp2_with fail
  refine (eqIntS_yes _ _ (padL F) _ (Own.ints (((((hogr.ext hb7).ext (below_drew w7)).ext hb9).ext hb10).chg hb11 sggr (by omega))) (Own.ints ((((((((howr.ext hb4).ext hb5).ext hb6).ext hb7).ext (below_drew w7)).ext hb9).ext hb10).chg hb11 sgwr (by omega)))).mono ?_; rintro e w12 ⟨rfl, hb12⟩
  clear qF_11_0 qF_11_1 qF_11_2
  have z12 : w11.heap.size ≤ w12.heap.size := hb12.size
  have hT12 : Below w0.heap.size w0 w12 := hT11.trans (hb12.mono (by omega))
  have bF_12 := (Blk.ext bF_11 hb12 (Blk.lt bF_11))
  clear bF_11
  obtain ⟨⟨qF_12_0, qF_12_1, qF_12_2⟩, -⟩ := id bF_12.all3
  have hlr : (padL F).length ≤ 1048576 := by have := padL_len F; omega
  go_wp2_with fail
  refine (markIntS_any _ (padL F) (1) _ _ ((((((hogr.ext hb7).ext (below_drew w7)).ext hb9).ext hb10).chg hb11 sggr (by omega)).ext hb12) hlr (by omega)).mono ?_; rintro e w13 ⟨rfl, hom, hw13⟩
  have hb13 := Chg.of_grown hw13 sggr
  clear qF_12_0 qF_12_1 qF_12_2
  have z13 : w12.heap.size ≤ w13.heap.size := hb13.size
  have hT13 : Below w0.heap.size w0 w13 := hT12.trans (hb13.below (by omega) (by omega))
  have bF_13 := (Blk.chg bF_12 hb13 (by omega))
  clear bF_12
  obtain ⟨⟨qF_13_0, qF_13_1, qF_13_2⟩, -⟩ := id bF_13.all3
  go_wp2_with fail
  refine (heldIntS_any _ (1) (padL F).length _ (Own.ints hom) hlr (by omega)).mono ?_; rintro e w' ⟨rfl, rfl⟩
  go_wp2_with fail
  refine (toFormat_any _ F _ (hv1F.ext hT13) hsz1F).mono ?_; rintro e w14 ⟨xhFs, rfl, hohFs, hb14⟩
  clear qF_13_0 qF_13_1 qF_13_2
  have z14 : w13.heap.size ≤ w14.heap.size := hb14.size
  have hT14 : Below w0.heap.size w0 w14 := hT13.trans (hb14.mono (by omega))
  have bF_14 := (Blk.ext bF_13 hb14 (Blk.lt bF_13))
  clear bF_13
  obtain ⟨⟨qF_14_0, qF_14_1, qF_14_2⟩, -⟩ := id bF_14.all3
  go_wp2_with fail
  refine (PaddingOf_any _ F _ (Own.format hohFs)).mono ?_; rintro e w15 ⟨rh, rfl, hohr, hb15⟩
  clear qF_14_0 qF_14_1 qF_14_2
  have z15 : w14.heap.size ≤ w15.heap.size := hb15.size
  have hT15 : Below w0.heap.size w0 w15 := hT14.trans (hb15.mono (by omega))
  have bF_15 := (Blk.ext bF_14 hb15 (Blk.lt bF_14))
  clear bF_14
  obtain ⟨⟨qF_15_0, qF_15_1, qF_15_2⟩, -⟩ := id bF_15.all3
  have sghr := hohr.seg
  go_wp2_with fail
  refine (eqIntS_yes _ _ (padL F) _ (Own.ints hohr) (Own.ints ((((((((((((howr.ext hb4).ext hb5).ext hb6).ext hb7).ext (below_drew w7)).ext hb9).ext hb10).chg hb11 sgwr (by omega)).ext hb12).chg hb13 sgwr (by omega)).ext hb14).ext hb15))).mono ?_; rintro e w16 ⟨rfl, hb16⟩
  clear qF_15_0 qF_15_1 qF_15_2
  have z16 : w15.heap.size ≤ w16.heap.size := hb16.size
  have hT16 : Below w0.heap.size w0 w16 := hT15.trans (hb16.mono (by omega))
  have bF_16 := (Blk.ext bF_15 hb16 (Blk.lt bF_15))
  clear bF_15
  obtain ⟨⟨qF_16_0, qF_16_1, qF_16_2⟩, -⟩ := id bF_16.all3
  go_wp2_with fail
  refine (heldIntS_any _ (1) (padL F).length _ (Own.ints (((hom.ext hb14).ext hb15).ext hb16)) hlr (by omega)).mono ?_; rintro e w' ⟨rfl, rfl⟩
  go_wp2
  go_ret
  exact ⟨rfl, hW.trans (hT16.mono hW.size)⟩

end Go.Proofs.Ytonlhphgoedcnaa
