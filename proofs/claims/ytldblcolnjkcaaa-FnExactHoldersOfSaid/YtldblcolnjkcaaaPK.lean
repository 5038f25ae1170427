/- The walks of exact laws: each answers true at every input and changes nothing that was there. No conditions. (printed by genlaw2.py) -/
import Derived.Test.YtldblcolnjkcaaaHV2
import Derived.Test.YtldblcolnjkcaaaRVh
import Derived.Test.YtldblcolnjkcaaaRVm
import Derived.Test.YtldblcolnjkcaaaL1
import Derived.Deep.RegionHeld3
namespace Go.Proofs.Ytldblcolnjkcaaa
open Go.RowKit

set_option maxRecDepth 100000 in
set_option maxHeartbeats 3200000 in
theorem FnExactHoldersOf_walk (vX : Value) (X : List VL) (P : Int) (w : World) (hvX : ViewsV w vX X) (wfP : -9223372036854775808 ≤ P ∧ P ≤ 9223372036854775807) :
    Calls Try.prog 9 #[vX, .int .i64 P] w fun e w' => e = .returned (.bool true) ∧ Below w.heap.size w w' := by
  obtain ⟨wfP1, wfP2⟩ := wfP
  have hW : Below w.heap.size w w := Below.refl _ _
  have hv1X := hvX.ext hW
  by_cases hsX : 1048576 < szR lenV X
  · have hzX : 1048576 < szR lenV X := by omega
    go_enter Try.func9, Try.ntmps9
    go_wp2_with fail
    obtain ⟨w0, hw0⟩ : ∃ w0, w0 = w := ⟨_, rfl⟩
    subst hw0
    have hT0 : Below w0.heap.size w0 w0 := Below.refl _ _
    refine (szViewS_no _ X 1048576 _ (hv1X.ext hT0) hzX (by omega)).mono ?_; rintro e w1 ⟨rfl, hb1⟩
    have z1 : w0.heap.size ≤ w1.heap.size := hb1.size
    have hT1 : Below w0.heap.size w0 w1 := hT0.trans (hb1.mono (by omega))
    go_wp2
    go_ret
    exact ⟨rfl, hW.trans (hT1.mono hW.size)⟩
  have hsz1X : szR lenV X ≤ 1048576 := by omega
  obtain ⟨AX0, cX0, rfl, hkX0, hmX0⟩ := hvX.form
  go_enter Try.func9, Try.ntmps9
  go_wp2_with fail
  obtain ⟨w0, hw0⟩ : ∃ w0, w0 = w := ⟨_, rfl⟩
  subst hw0
  have hT0 : Below w0.heap.size w0 w0 := Below.refl _ _
  refine (szViewS_ok _ X 1048576 _ hv1X (by omega) (by omega)).mono ?_; rintro e w1 ⟨rfl, hb1⟩
  have z1 : w0.heap.size ≤ w1.heap.size := hb1.size
  have hT1 : Below w0.heap.size w0 w1 := hT0.trans (hb1.mono (by omega))
  go_wp2_with fail
  refine (toViewS_any _ X _ (hv1X.ext hT1) hsz1X).mono ?_; rintro e w2 ⟨xwX, uwX, rfl, howX, hb2⟩
  have z2 : w1.heap.size ≤ w2.heap.size := hb2.size
  have hT2 : Below w0.heap.size w0 w2 := hT1.trans (hb2.mono (by omega))
  go_wp2_with fail
  refine (sHoldersOf_law _ X P _ (OwnC.seen howX) ⟨wfP1, wfP2⟩).mono ?_; rintro e w3 ⟨rw, rfl, howr, hb3⟩
  have z3 : w2.heap.size ≤ w3.heap.size := hb3.size
  have hT3 : Below w0.heap.size w0 w3 := hT2.trans (hb3.mono (by omega))
  have sgwr := howr.seg
  go_wp2_with fail
  refine (toViewS_any _ X _ (hv1X.ext hT3) hsz1X).mono ?_; rintro e w4 ⟨xxX, uxX, rfl, hoxX, hb4⟩
  have z4 : w3.heap.size ≤ w4.heap.size := hb4.size
  have hT4 : Below w0.heap.size w0 w4 := hT3.trans (hb4.mono (by omega))
  have sgxX := hoxX.seg
  go_wp2_with fail
  refine (HoldersOf_law _ X P _ (OwnC.seen hoxX) ⟨wfP1, wfP2⟩).mono ?_; rintro e w5 ⟨rg, rfl, hogr, hb5⟩
  have z5 : w4.heap.size ≤ w5.heap.size := hb5.size
  have hT5 : Below w0.heap.size w0 w5 := hT4.trans (hb5.mono (by omega))
  have sggr := hogr.seg
  go_wp2_with fail
  refine (eqIntS_yes _ _ (holdersL X P) _ (Own.ints hogr) (Own.ints ((howr.ext hb4).ext hb5))).mono ?_; rintro e w6 ⟨rfl, hb6⟩
  have z6 : w5.heap.size ≤ w6.heap.size := hb6.size
  have hT6 : Below w0.heap.size w0 w6 := hT5.trans (hb6.mono (by omega))
  go_wp2_with fail
  refine (toViewS_any _ X _ (hv1X.ext hT6) hsz1X).mono ?_; rintro e w7 ⟨yy, uyy, rfl, hoyy, hb7⟩
  have z7 : w6.heap.size ≤ w7.heap.size := hb7.size
  have hT7 : Below w0.heap.size w0 w7 := hT6.trans (hb7.mono (by omega))
  go_wp2_with fail
  refine (eqViewS_yes _ _ X _ (OwnC.seen (((hoxX.ext hb5).ext hb6).ext hb7)) (OwnC.seen hoyy)).mono ?_; rintro e w8 ⟨rfl, hb8⟩
  have z8 : w7.heap.size ≤ w8.heap.size := hb8.size
  have hT8 : Below w0.heap.size w0 w8 := hT7.trans (hb8.mono (by omega))
  clear hoyy
  go_wp2_with fail
  refine (markViewS_any _ _ X (1) _ w3.heap.size w4.heap.size _ ((((hoxX.ext hb5).ext hb6).ext hb7).ext hb8) sgxX hsz1X (by omega)).mono ?_; rintro e w9 ⟨rfl, hb9⟩
  have z9 : w8.heap.size ≤ w9.heap.size := hb9.size
  have hT9 : Below w0.heap.size w0 w9 := hT8.trans (hb9.below (by omega) (by omega))
  have hstX : X.length + wTo lenV X X.length ≤ 1048576 := hsz1X
  go_wp2_with fail
  refine (eqIntS_yes _ _ (holdersL X P) _ (Own.ints ((((hogr.ext hb6).ext hb7).ext hb8).chg hb9 sggr (by omega))) (Own.ints ((((((howr.ext hb4).ext hb5).ext hb6).ext hb7).ext hb8).chg hb9 sgwr (by omega)))).mono ?_; rintro e w10 ⟨rfl, hb10⟩
  have z10 : w9.heap.size ≤ w10.heap.size := hb10.size
  have hT10 : Below w0.heap.size w0 w10 := hT9.trans (hb10.mono (by omega))
  have hlr : (holdersL X P).length ≤ 1048576 := by have := holdersL_len X P; omega
  go_wp2_with fail
  refine (markIntS_any _ (holdersL X P) (1) _ _ (((((hogr.ext hb6).ext hb7).ext hb8).chg hb9 sggr (by omega)).ext hb10) hlr (by omega)).mono ?_; rintro e w11 ⟨rfl, hom, hw11⟩
  have hb11 := Chg.of_grown hw11 sggr
  have z11 : w10.heap.size ≤ w11.heap.size := hb11.size
  have hT11 : Below w0.heap.size w0 w11 := hT10.trans (hb11.below (by omega) (by omega))
  go_wp2_with fail
  refine (heldIntS_any _ (1) (holdersL X P).length _ (Own.ints hom) hlr (by omega)).mono ?_; rintro e w' ⟨rfl, rfl⟩
  go_wp2_with fail
  refine (toViewS_any _ X _ (hv1X.ext hT11) hsz1X).mono ?_; rintro e w12 ⟨xhX, uhX, rfl, hohX, hb12⟩
  have z12 : w11.heap.size ≤ w12.heap.size := hb12.size
  have hT12 : Below w0.heap.size w0 w12 := hT11.trans (hb12.mono (by omega))
  go_wp2_with fail
  refine (HoldersOf_law _ X P _ (OwnC.seen hohX) ⟨wfP1, wfP2⟩).mono ?_; rintro e w13 ⟨rh, rfl, hohr, hb13⟩
  have z13 : w12.heap.size ≤ w13.heap.size := hb13.size
  have hT13 : Below w0.heap.size w0 w13 := hT12.trans (hb13.mono (by omega))
  have sghr := hohr.seg
  go_wp2_with fail
  refine (eqIntS_yes _ _ (holdersL X P) _ (Own.ints hohr) (Own.ints ((((((((((howr.ext hb4).ext hb5).ext hb6).ext hb7).ext hb8).chg hb9 sgwr (by omega)).ext hb10).chg hb11 sgwr (by omega)).ext hb12).ext hb13))).mono ?_; rintro e w14 ⟨rfl, hb14⟩
  have z14 : w13.heap.size ≤ w14.heap.size := hb14.size
  have hT14 : Below w0.heap.size w0 w14 := hT13.trans (hb14.mono (by omega))
  go_wp2_with fail
  refine (heldIntS_any _ (1) (holdersL X P).length _ (Own.ints (((hom.ext hb12).ext hb13).ext hb14)) hlr (by omega)).mono ?_; rintro e w' ⟨rfl, rfl⟩
  go_wp2
  go_ret
  exact ⟨rfl, hW.trans (hT14.mono hW.size)⟩

end Go.Proofs.Ytldblcolnjkcaaa
