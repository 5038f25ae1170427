/- The walks of exact laws: each answers true at every input and changes nothing that was there. No conditions. (printed by genlaw2.py) -/
import Derived.Test.YtldblcolnjkcaaaEX2
import Derived.Test.YtldblcolnjkcaaaRTh
import Derived.Test.YtldblcolnjkcaaaRTm
import Derived.Test.YtldblcolnjkcaaaL6
import Derived.Test.YtldblcolnjkcaaaL7m
import Derived.Test.YtldblcolnjkcaaaL1
import Derived.Deep.RegionHeld3
namespace Go.Proofs.Ytldblcolnjkcaaa
open Go.RowKit

set_option maxRecDepth 100000 in
set_option maxHeartbeats 3200000 in
theorem FnExactExtentsOf_walk (vX : Value) (X : List TL) (vY : Value) (Y : List (List Int)) (w : World) (hvX : TensorsV w vX X) (hvY : IntsS w vY Y) :
    Calls Try.prog 11 #[vX, vY] w fun e w' => e = .returned (.bool true) ∧ Below w.heap.size w w' := by
  have hW : Below w.heap.size w w := Below.refl _ _
  have hv1X := hvX.ext hW
  have hv1Y := hvY.ext hW
  by_cases hsX : 1048576 < szR lenT X
  · have hzX : 1048576 < szR lenT X := by omega
    go_enter Try.func11, Try.ntmps11
    go_wp2_with fail
    obtain ⟨w0, hw0⟩ : ∃ w0, w0 = w := ⟨_, rfl⟩
    subst hw0
    have hT0 : Below w0.heap.size w0 w0 := Below.refl _ _
    refine (szTensorS_no _ X 1048576 _ (hv1X.ext hT0) hzX (by omega)).mono ?_; rintro e w1 ⟨rfl, hb1⟩
    have z1 : w0.heap.size ≤ w1.heap.size := hb1.size
    have hT1 : Below w0.heap.size w0 w1 := hT0.trans (hb1.mono (by omega))
    go_wp2
    go_ret
    exact ⟨rfl, hW.trans (hT1.mono hW.size)⟩
  by_cases hsY : 1048576 < szR lenT X + llSize Y
  · have hzY : (1048576 - szR lenT X) < llSize Y := by omega
    go_enter Try.func11, Try.ntmps11
    go_wp2_with fail
    obtain ⟨w0, hw0⟩ : ∃ w0, w0 = w := ⟨_, rfl⟩
    subst hw0
    have hT0 : Below w0.heap.size w0 w0 := Below.refl _ _
    refine (szTensorS_ok _ X 1048576 _ hv1X (by omega) (by omega)).mono ?_; rintro e w1 ⟨rfl, hb1⟩
    have z1 : w0.heap.size ≤ w1.heap.size := hb1.size
    have hT1 : Below w0.heap.size w0 w1 := hT0.trans (hb1.mono (by omega))
    go_wp2_with fail
    refine (szIntSS_no _ Y (1048576 - szR lenT X) _ (hv1Y.ext hT1) hzY (by omega)).mono ?_; rintro e w2 ⟨rfl, hb2⟩
    have z2 : w1.heap.size ≤ w2.heap.size := hb2.size
    have hT2 : Below w0.heap.size w0 w2 := hT1.trans (hb2.mono (by omega))
    go_wp2
    go_ret
    exact ⟨rfl, hW.trans (hT2.mono hW.size)⟩
  have hsz1X : szR lenT X ≤ 1048576 := by omega
  have hsz1Y : llSize Y ≤ 1048576 := by omega
  obtain ⟨AX0, cX0, rfl, hkX0, hmX0⟩ := hvX.form
  obtain ⟨AY0, cY0, rfl, hkY0, hmY0⟩ := hvY.form
  go_enter Try.func11, Try.ntmps11
  go_wp2_with fail
  obtain ⟨w0, hw0⟩ : ∃ w0, w0 = w := ⟨_, rfl⟩
  subst hw0
  have hT0 : Below w0.heap.size w0 w0 := Below.refl _ _
  refine (szTensorS_ok _ X 1048576 _ hv1X (by omega) (by omega)).mono ?_; rintro e w1 ⟨rfl, hb1⟩
  have z1 : w0.heap.size ≤ w1.heap.size := hb1.size
  have hT1 : Below w0.heap.size w0 w1 := hT0.trans (hb1.mono (by omega))
  go_wp2_with fail
  refine (szIntSS_ok _ Y (1048576 - szR lenT X) _ (hv1Y.ext hT1) (by omega) (by omega)).mono ?_; rintro e w2 ⟨rfl, hb2⟩
  have z2 : w1.heap.size ≤ w2.heap.size := hb2.size
  have hT2 : Below w0.heap.size w0 w2 := hT1.trans (hb2.mono (by omega))
  go_wp2_with fail
  refine (toTensorS_any _ X _ (hv1X.ext hT2) hsz1X).mono ?_; rintro e w3 ⟨xwX, uwX, rfl, howX, hb3⟩
  have z3 : w2.heap.size ≤ w3.heap.size := hb3.size
  have hT3 : Below w0.heap.size w0 w3 := hT2.trans (hb3.mono (by omega))
  go_wp2_with fail
  refine (toIntSS_any _ Y _ (hv1Y.ext hT3) hsz1Y).mono ?_; rintro e w4 ⟨xwY, uwY, rfl, howY, hb4⟩
  have z4 : w3.heap.size ≤ w4.heap.size := hb4.size
  have hT4 : Below w0.heap.size w0 w4 := hT3.trans (hb4.mono (by omega))
  go_wp2_with fail
  refine (sExtentsOf_any _ _ X Y _ (OwnC.seen (howX.ext hb4)) (OwnL.ints howY)).mono ?_; rintro e w5 ⟨rw, rfl, howr, hb5⟩
  have z5 : w4.heap.size ≤ w5.heap.size := hb5.size
  have hT5 : Below w0.heap.size w0 w5 := hT4.trans (hb5.mono (by omega))
  have sgwr := howr.seg
  go_wp2_with fail
  refine (toTensorS_any _ X _ (hv1X.ext hT5) hsz1X).mono ?_; rintro e w6 ⟨xxX, uxX, rfl, hoxX, hb6⟩
  have z6 : w5.heap.size ≤ w6.heap.size := hb6.size
  have hT6 : Below w0.heap.size w0 w6 := hT5.trans (hb6.mono (by omega))
  have sgxX := hoxX.seg
  go_wp2_with fail
  refine (toIntSS_any _ Y _ (hv1Y.ext hT6) hsz1Y).mono ?_; rintro e w7 ⟨xxY, uxY, rfl, hoxY, hb7⟩
  have z7 : w6.heap.size ≤ w7.heap.size := hb7.size
  have hT7 : Below w0.heap.size w0 w7 := hT6.trans (hb7.mono (by omega))
  have sgxY := hoxY.seg
  go_wp2_with fail
  refine (ExtentsOf_any _ _ X Y _ (OwnC.seen (hoxX.ext hb7)) (OwnL.ints hoxY)).mono ?_; rintro e w8 ⟨rg, rfl, hogr, hb8⟩
  have z8 : w7.heap.size ≤ w8.heap.size := hb8.size
  have hT8 : Below w0.heap.size w0 w8 := hT7.trans (hb8.mono (by omega))
  have sggr := hogr.seg
  go_wp2_with fail
  refine (eqIntS_yes _ _ (extentsL X Y) _ (Own.ints hogr) (Own.ints (((howr.ext hb6).ext hb7).ext hb8))).mono ?_; rintro e w9 ⟨rfl, hb9⟩
  have z9 : w8.heap.size ≤ w9.heap.size := hb9.size
  have hT9 : Below w0.heap.size w0 w9 := hT8.trans (hb9.mono (by omega))
  go_wp2_with fail
  refine (toTensorS_any _ X _ (hv1X.ext hT9) hsz1X).mono ?_; rintro e w10 ⟨yy, uyy, rfl, hoyy, hb10⟩
  have z10 : w9.heap.size ≤ w10.heap.size := hb10.size
  have hT10 : Below w0.heap.size w0 w10 := hT9.trans (hb10.mono (by omega))
  go_wp2_with fail
  refine (eqTensorS_yes _ _ X _ (OwnC.seen ((((hoxX.ext hb7).ext hb8).ext hb9).ext hb10)) (OwnC.seen hoyy)).mono ?_; rintro e w11 ⟨rfl, hb11⟩
  have z11 : w10.heap.size ≤ w11.heap.size := hb11.size
  have hT11 : Below w0.heap.size w0 w11 := hT10.trans (hb11.mono (by omega))
  clear hoyy
  go_wp2_with fail
  refine (toIntSS_any _ Y _ (hv1Y.ext hT11) hsz1Y).mono ?_; rintro e w12 ⟨yy, uyy, rfl, hoyy, hb12⟩
  have z12 : w11.heap.size ≤ w12.heap.size := hb12.size
  have hT12 : Below w0.heap.size w0 w12 := hT11.trans (hb12.mono (by omega))
  go_wp2_with fail
  refine (eqIntSS_yes _ _ Y _ (OwnL.ints (((((hoxY.ext hb8).ext hb9).ext hb10).ext hb11).ext hb12)) (OwnL.ints hoyy)).mono ?_; rintro e w13 ⟨rfl, hb13⟩
  have z13 : w12.heap.size ≤ w13.heap.size := hb13.size
  have hT13 : Below w0.heap.size w0 w13 := hT12.trans (hb13.mono (by omega))
  clear hoyy
  go_wp2_with fail
  refine (markTensorS_any _ _ X (1) _ w5.heap.size w6.heap.size _ (((((((hoxX.ext hb7).ext hb8).ext hb9).ext hb10).ext hb11).ext hb12).ext hb13) sgxX hsz1X (by omega)).mono ?_; rintro e w14 ⟨rfl, hb14⟩
  have z14 : w13.heap.size ≤ w14.heap.size := hb14.size
  have hT14 : Below w0.heap.size w0 w14 := hT13.trans (hb14.below (by omega) (by omega))
  have hstX : X.length + wTo lenT X X.length ≤ 1048576 := hsz1X
  go_wp2_with fail
  refine (markIntSS_any _ _ Y (1 + wTo lenT X X.length) _ w6.heap.size w7.heap.size _ (((((((hoxY.ext hb8).ext hb9).ext hb10).ext hb11).ext hb12).ext hb13).chg hb14 sgxY (by omega)) sgxY hsz1Y (by omega)).mono ?_; rintro e w15 ⟨rfl, -, hb15⟩
  have z15 : w14.heap.size ≤ w15.heap.size := hb15.size
  have hT15 : Below w0.heap.size w0 w15 := hT14.trans (hb15.below (by omega) (by omega))
  have hstY : sumTo Y Y.length ≤ llSize Y := Nat.le_add_left _ _
  go_wp2_with fail
  refine (eqIntS_yes _ _ (extentsL X Y) _ (Own.ints (((((((hogr.ext hb9).ext hb10).ext hb11).ext hb12).ext hb13).chg hb14 sggr (by omega)).chg hb15 sggr (by omega))) (Own.ints ((((((((((howr.ext hb6).ext hb7).ext hb8).ext hb9).ext hb10).ext hb11).ext hb12).ext hb13).chg hb14 sgwr (by omega)).chg hb15 sgwr (by omega)))).mono ?_; rintro e w16 ⟨rfl, hb16⟩
  have z16 : w15.heap.size ≤ w16.heap.size := hb16.size
  have hT16 : Below w0.heap.size w0 w16 := hT15.trans (hb16.mono (by omega))
  have hlr : (extentsL X Y).length ≤ 1048576 := by have := extentsL_len X Y; omega
  go_wp2_with fail
  refine (markIntS_any _ (extentsL X Y) (1) _ _ ((((((((hogr.ext hb9).ext hb10).ext hb11).ext hb12).ext hb13).chg hb14 sggr (by omega)).chg hb15 sggr (by omega)).ext hb16) hlr (by omega)).mono ?_; rintro e w17 ⟨rfl, hom, hw17⟩
  have hb17 := Chg.of_grown hw17 sggr
  have z17 : w16.heap.size ≤ w17.heap.size := hb17.size
  have hT17 : Below w0.heap.size w0 w17 := hT16.trans (hb17.below (by omega) (by omega))
  go_wp2_with fail
  refine (heldIntS_any _ (1) (extentsL X Y).length _ (Own.ints hom) hlr (by omega)).mono ?_; rintro e w' ⟨rfl, rfl⟩
  go_wp2_with fail
  refine (toTensorS_any _ X _ (hv1X.ext hT17) hsz1X).mono ?_; rintro e w18 ⟨xhX, uhX, rfl, hohX, hb18⟩
  have z18 : w17.heap.size ≤ w18.heap.size := hb18.size
  have hT18 : Below w0.heap.size w0 w18 := hT17.trans (hb18.mono (by omega))
  go_wp2_with fail
  refine (toIntSS_any _ Y _ (hv1Y.ext hT18) hsz1Y).mono ?_; rintro e w19 ⟨xhY, uhY, rfl, hohY, hb19⟩
  have z19 : w18.heap.size ≤ w19.heap.size := hb19.size
  have hT19 : Below w0.heap.size w0 w19 := hT18.trans (hb19.mono (by omega))
  go_wp2_with fail
  refine (ExtentsOf_any _ _ X Y _ (OwnC.seen (hohX.ext hb19)) (OwnL.ints hohY)).mono ?_; rintro e w20 ⟨rh, rfl, hohr, hb20⟩
  have z20 : w19.heap.size ≤ w20.heap.size := hb20.size
  have hT20 : Below w0.heap.size w0 w20 := hT19.trans (hb20.mono (by omega))
  have sghr := hohr.seg
  go_wp2_with fail
  refine (eqIntS_yes _ _ (extentsL X Y) _ (Own.ints hohr) (Own.ints (((((((((((((((howr.ext hb6).ext hb7).ext hb8).ext hb9).ext hb10).ext hb11).ext hb12).ext hb13).chg hb14 sgwr (by omega)).chg hb15 sgwr (by omega)).ext hb16).chg hb17 sgwr (by omega)).ext hb18).ext hb19).ext hb20))).mono ?_; rintro e w21 ⟨rfl, hb21⟩
  have z21 : w20.heap.size ≤ w21.heap.size := hb21.size
  have hT21 : Below w0.heap.size w0 w21 := hT20.trans (hb21.mono (by omega))
  go_wp2_with fail
  refine (heldIntS_any _ (1) (extentsL X Y).length _ (Own.ints ((((hom.ext hb18).ext hb19).ext hb20).ext hb21)) hlr (by omega)).mono ?_; rintro e w' ⟨rfl, rfl⟩
  go_wp2
  go_ret
  exact ⟨rfl, hW.trans (hT21.mono hW.size)⟩

end Go.Proofs.Ytldblcolnjkcaaa
