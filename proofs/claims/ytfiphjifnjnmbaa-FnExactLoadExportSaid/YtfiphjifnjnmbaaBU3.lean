/- The contracts of the implementation's buffers. No conditions. -/
import Derived.Test.YtfiphjifnjnmbaaBU1
import Derived.Test.YtfiphjifnjnmbaaGr
import Derived.Deep.Cut
import Derived.Deep.LoopGhost
namespace Go.Proofs.Ytfiphjifnjnmbaa
open Go.RowKit

set_option maxRecDepth 100000 in
set_option maxHeartbeats 6400000 in
theorem isBuffer_any (v : Value) (U : BL) (w : World) (h : BufferV w v U) :
    Calls Try.prog 56 #[v] w fun e w' => e = .returned (.bool (isBufL U)) ∧ Below w.heap.size w w' := by
  have h0 := h
  obtain ⟨cv, ev, rfl, hc, he⟩ := h
  obtain ⟨Ac, cc, rfl⟩ := hc.form
  have hcm : U.cells.length ≤ 9223372036854775807 := by
    obtain ⟨_, _, _, h1, h2, _⟩ := hc
    unfold maxLen at h2
    omega
  obtain ⟨Ae, ce, rfl, hk1, hm1⟩ := he.form
  have hA := Blk.new w 42 #[.slice Ac U.cells.length cc, .slice Ae U.exports.length ce]
  have hW := below_alloc w (.cells #[.slice Ac U.cells.length cc, .slice Ae U.exports.length ce] 42)
  cases hm : isMemL U.cells
  · have HQ := hid (isBufL_mem hm)
    go_enter Try.func56, Try.ntmps56
    go_upto_region 1 with fail
    generalize w.alloc (.cells #[.slice Ac U.cells.length cc, .slice Ae U.exports.length ce] 42) = w1 at *
    have HA := hid hA
    have HB := hid hW
    have HU := hid (BufferV.ext h0 hW)
    obtain ⟨⟨a0, a1⟩, -⟩ := HA.out.all2
    clear hA hW hc
    have HC := hid (show Ints w1 (.slice Ac U.cells.length cc) U.cells by
      obtain ⟨cv1, ev1, e1, hc1, -⟩ := HU.out
      have e2 : .slice Ac U.cells.length cc = cv1 ∧ .slice Ae U.exports.length ce = ev1 := by simpa using e1
      exact e2.1 ▸ hc1)
    go_wp2_with fail
    refine (isMemory_any _ U.cells _ HC.out).mono ?_; rintro e w' ⟨rfl, rfl⟩
    rw [hm]
    go_wp2
    go_ret
    exact ⟨ret_bool HQ.out.symm, HB.out⟩
  by_cases h8 : 8 < U.exports.length
  · have HQ := hid (isBufL_len h8)
    have h8i : (8 : Int) < (U.exports.length : Int) := by omega
    go_enter Try.func56, Try.ntmps56
    go_upto_region 1 with fail
    generalize w.alloc (.cells #[.slice Ac U.cells.length cc, .slice Ae U.exports.length ce] 42) = w1 at *
    have HA := hid hA
    have HB := hid hW
    have HU := hid (BufferV.ext h0 hW)
    obtain ⟨⟨a0, a1⟩, -⟩ := HA.out.all2
    clear hA hW hc
    have HC := hid (show Ints w1 (.slice Ac U.cells.length cc) U.cells by
      obtain ⟨cv1, ev1, e1, hc1, -⟩ := HU.out
      have e2 : .slice Ac U.cells.length cc = cv1 ∧ .slice Ae U.exports.length ce = ev1 := by simpa using e1
      exact e2.1 ▸ hc1)
    go_wp2_with fail
    refine (isMemory_any _ U.cells _ HC.out).mono ?_; rintro e w' ⟨rfl, rfl⟩
    rw [hm]
    go_wp2
    go_ret
    exact ⟨ret_bool HQ.out.symm, HB.out⟩
  have h8d : decide ((8 : Int) < (U.exports.length : Int)) = false := by simp; omega
  have HM := hid hm
  go_enter Try.func56, Try.ntmps56
  go_upto_region 1 with fail
  generalize w.alloc (.cells #[.slice Ac U.cells.length cc, .slice Ae U.exports.length ce] 42) = w1 at *
  have HA := hid hA
  have HB := hid hW
  have HU := hid (BufferV.ext h0 hW)
  obtain ⟨⟨a0, a1⟩, -⟩ := HA.out.all2
  clear hA hW hc
  have HC := hid (show Ints w1 (.slice Ac U.cells.length cc) U.cells by
    obtain ⟨cv1, ev1, e1, hc1, -⟩ := HU.out
    have e2 : .slice Ac U.cells.length cc = cv1 ∧ .slice Ae U.exports.length ce = ev1 := by simpa using e1
    exact e2.1 ▸ hc1)
  go_wp2_with fail
  refine (isMemory_any _ U.cells _ HC.out).mono ?_; rintro e w' ⟨rfl, rfl⟩
  rw [hm]
  have HEV := hid he
  clear hm he
  go_upto_region 4 with fail
  clear a0 a1
  go_loopg [18] U.exports.length (fun g i wr => ∃ k : Nat, k ≤ U.exports.length ∧ g = U.exports.length - k ∧ i = .int .i64 k ∧ Hid (okTo U k = true) ∧ Below w1.heap.size w1 wr)
  case atStart => exact ⟨0, Nat.zero_le _, rfl, rfl, hid rfl, Below.refl _ _⟩
  case round =>
    obtain ⟨k, hk, rfl, rfl, HK, hb⟩ := hrel
    have hA := HA.out.ext hb HA.out.lt
    have hsz := hb.size
    have hBr := HB.out.nx hb HB.out.size
    obtain ⟨⟨a0, a1⟩, -⟩ := hA.all2
    by_cases hlt : k < U.exports.length
    · have hki : (k : Int) < (U.exports.length : Int) := by omega
      have HS := hid (okTo_succ U k)
      have HF := hid (isBufL_bad hlt)
      obtain ⟨b, off, u1, u2, rfl, x0, x1, x2, x3, x4, hE⟩ := (HEV.out.ext hBr).at_ k hlt
      obtain ⟨s1, t1, ev1, hs, ht⟩ := hE.view
      have ev2 : u1 = s1 ∧ u2 = t1 := by simpa using ev1
      obtain ⟨rfl, rfl⟩ := ev2
      obtain ⟨As, cs, rfl⟩ := hs.form
      obtain ⟨At, ct, rfl⟩ := ht.form
      have HOK := hid (show okExp U k = (inR U.exports[k].parent (-1) ((k : Int) - 1) && isViewL U.exports[k].view && (!U.exports[k].opn || (fitsL U.exports[k].view (U.cells.length : Nat) && (decide (U.exports[k].parent < 0) || (expAt U U.exports[k].parent.toNat).opn)))) by unfold okExp; rw [expAt_get hlt])
      obtain ⟨E, eE⟩ : ∃ E, U.exports[k] = E := ⟨_, rfl⟩
      rw [eE] at x0 x1 x2 x3 x4 hs ht HOK
      have hV : ViewV wr (.agg #[.int .i64 E.view.base, .slice As E.view.shape.length cs, .slice At E.view.strides.length ct]) E.view := ⟨_, _, rfl, hs, ht⟩
      clear hE hs ht ev1 eE
      have hZ := Blk.new wr 70 #[.int .i64 E.parent, .int .i64 E.view.base, .slice As E.view.shape.length cs, .slice At E.view.strides.length ct, .bool E.opn]
      have hbz := below_alloc wr (.cells #[.int .i64 E.parent, .int .i64 E.view.base, .slice As E.view.shape.length cs, .slice At E.view.strides.length ct, .bool E.opn] 70)
      have HV1 := hid (hV.ext hbz)
      have HB1 := hid (hb.nx hbz hsz)
      have HA1 := hid (hA.ext hbz hA.lt)
      go_upto_region 6 with fail
      clear a0 a1 x0 x1 x2 x3 x4 hA hbz hb hV hBr hsz
      generalize wr.alloc (.cells #[.int .i64 E.parent, .int .i64 E.view.base, .slice As E.view.shape.length cs, .slice At E.view.strides.length ct, .bool E.opn] 70) = wq at *
      have HZ1 := hid hZ
      clear hZ
      obtain ⟨⟨z0, z1, z2, z3, z4⟩, -⟩ := HZ1.out.all5E
      go_wp2_with fail
      refine (isView_any _ E.view _ HV1.out).mono ?_; rintro e w2 ⟨rfl, hb2⟩
      have HA2 := hid (HA1.out.ext hb2 HA1.out.lt)
      have HZ2 := hid (HZ1.out.ext hb2 HZ1.out.lt)
      have HB2 := hid (HB1.out.nx hb2 HB1.out.size)
      have HV2 := hid (HV1.out.ext hb2)
      have HW2 := hid (HB.out.nx HB2.out HB.out.size)
      clear z0 z1 z2 z3 z4 hb2 HA1 HZ1 HB1 HV1
      obtain ⟨⟨a0, a1⟩, -⟩ := HA2.out.all2
      obtain ⟨⟨z0, z1, z2, z3, z4⟩, -⟩ := HZ2.out.all5E
      cases c2 : isViewL E.view
      · have HQ := hid (HF.out (show okExp U k = false by rw [HOK.out, c2]; simp))
        clear c2
        go_wp2
        go_ret
        exact ⟨ret_bool HQ.out.symm, HW2.out⟩
      have HVL := hid c2
      rw [c2] at HOK
      clear c2
      by_cases c1 : E.parent < -1
      · have HQ := hid (HF.out (show okExp U k = false by rw [HOK.out, inR_no (by omega)]; rfl))
        go_wp2
        go_ret
        exact ⟨ret_bool HQ.out.symm, HW2.out⟩
      have c1d : decide (E.parent < -1) = false := by simp; omega
      by_cases c6 : (k : Int) ≤ E.parent
      · have HQ := hid (HF.out (show okExp U k = false by rw [HOK.out, inR_no (by omega)]; rfl))
        go_wp2
        go_ret
        exact ⟨ret_bool HQ.out.symm, HW2.out⟩
      have c6d : decide ((k : Int) ≤ E.parent) = false := by simp; omega
      rw [inR_yes (show -1 ≤ E.parent by omega) (show E.parent ≤ (k : Int) - 1 by omega)] at HOK
      cases c3 : E.opn
      · have HT := hid (show okTo U (k + 1) = true by rw [HS.out, HK.out, HOK.out, c3]; rfl)
        rw [c3] at z4
        clear c3
        go_wp2
        go_roundg (U.exports.length - (k + 1))
        case measure => omega
        case rel => exact ⟨k + 1, by omega, rfl, by go_num, HT, HB2.out⟩
      rw [c3] at HOK z4 HZ2
      clear c3
      go_wp2_with fail
      refine (fitsIn_any _ E.view (U.cells.length : Nat) _ HV2.out HVL.out).mono ?_; rintro e w3 ⟨rfl, hb3⟩
      have HA3 := hid (HA2.out.ext hb3 HA2.out.lt)
      have HZ3 := hid (HZ2.out.ext hb3 HZ2.out.lt)
      have HB3 := hid (HB2.out.nx hb3 HB2.out.size)
      have HW3 := hid (HB.out.nx HB3.out HB.out.size)
      clear a0 a1 z0 z1 z2 z3 z4 hb3 HA2 HZ2 HB2 HW2
      obtain ⟨⟨a0, a1⟩, -⟩ := HA3.out.all2
      obtain ⟨⟨z0, z1, z2, z3, z4⟩, -⟩ := HZ3.out.all5E
      cases c4 : fitsL E.view (U.cells.length : Nat)
      · have HQ := hid (HF.out (show okExp U k = false by rw [HOK.out, c4]; rfl))
        clear c4
        go_wp2
        go_ret
        exact ⟨ret_bool HQ.out.symm, HW3.out⟩
      rw [c4] at HOK
      clear c4
      by_cases c5 : 0 ≤ E.parent
      case neg =>
        have c5d : decide ((0 : Int) ≤ E.parent) = false := by simp; omega
        have HT := hid (show okTo U (k + 1) = true by rw [HS.out, HK.out, HOK.out]; simp; omega)
        go_wp2
        go_roundg (U.exports.length - (k + 1))
        case measure => omega
        case rel => exact ⟨k + 1, by omega, rfl, by go_num, HT, HB3.out⟩
      obtain ⟨p, hp⟩ : ∃ p : Nat, E.parent = (p : Int) := ⟨E.parent.toNat, by omega⟩
      have hpk : p < U.exports.length := by omega
      have HP := hid (show okExp U k = U.exports[p].opn by
        have hp0 : ¬ (p : Int) < 0 := by omega
        rw [HOK.out, hp, Int.toNat_natCast, expAt_get hpk]
        simp [hp0])
      obtain ⟨b', off', v1, v2, eb, -, -, -, -, x4, -⟩ := (HEV.out.ext HW3.out).at_ p hpk
      simp only [Option.some.injEq, Addr.mk.injEq, and_true] at eb
      obtain ⟨rfl, rfl⟩ := eb
      have hpi : (p : Int) < (U.exports.length : Int) := by omega
      rw [hp] at z0
      clear c5 c1 c6 c1d c6d HOK hp
      cases c7 : U.exports[p].opn
      · have HQ := hid (HF.out (HP.out.trans c7))
        rw [c7] at x4
        clear c7
        go_wp2
        go_ret
        exact ⟨ret_bool HQ.out.symm, HW3.out⟩
      · have HT := hid (show okTo U (k + 1) = true by rw [HS.out, HK.out, HP.out, c7]; rfl)
        rw [c7] at x4
        clear c7
        go_wp2
        go_roundg (U.exports.length - (k + 1))
        case measure => omega
        case rel => exact ⟨k + 1, by omega, rfl, by go_num, HT, HB3.out⟩
    · obtain rfl : U.exports.length = k := by omega
      have HQ := hid (isBufL_yes HM.out (by omega) HK.out)
      go_wp2
      go_ret
      exact ⟨ret_bool HQ.out.symm, hBr⟩

set_option maxRecDepth 100000 in
set_option maxHeartbeats 6400000 in
theorem ValidBuffer_any (v : Value) (U : BL) (w : World) (h : BufferV w v U) :
    Calls Try.prog 25 #[v] w fun e w' => e = .returned (.bool (isBufL U)) ∧ Below w.heap.size w w' := by
  have h0 := h
  obtain ⟨cv, ev, rfl, hc, he⟩ := h
  obtain ⟨Ac, cc, rfl⟩ := hc.form
  have hcm : U.cells.length ≤ 9223372036854775807 := by
    obtain ⟨_, _, _, h1, h2, _⟩ := hc
    unfold maxLen at h2
    omega
  obtain ⟨Ae, ce, rfl, hk1, hm1⟩ := he.form
  have hA := Blk.new w 42 #[.slice Ac U.cells.length cc, .slice Ae U.exports.length ce]
  have hW := below_alloc w (.cells #[.slice Ac U.cells.length cc, .slice Ae U.exports.length ce] 42)
  go_enter Try.func25, Try.ntmps25
  go_upto_region 1 with fail
  generalize w.alloc (.cells #[.slice Ac U.cells.length cc, .slice Ae U.exports.length ce] 42) = w1 at *
  have HA := hid hA
  have HB := hid hW
  have HU := hid (BufferV.ext h0 hW)
  obtain ⟨⟨a0, a1⟩, -⟩ := HA.out.all2
  clear hA hW hc
  go_wp2_with fail
  refine (isBuffer_any _ U _ HU.out).mono ?_; rintro e w2 ⟨rfl, hb⟩
  have HA2 := hid (HA.out.ext hb HA.out.lt)
  have HB2 := hid (HB.out.nx hb HB.out.size)
  have HU2 := hid (BufferV.ext HU.out hb)
  clear a0 a1 hb
  obtain ⟨⟨a0, a1⟩, -⟩ := HA2.out.all2
  go_wp2
  go_ret
  exact ⟨rfl, HB2.out⟩

set_option maxRecDepth 100000 in
set_option maxHeartbeats 6400000 in
theorem isOpen_any (v : Value) (U : BL) (id : Int) (w : World) (h : BufferV w v U) :
    Calls Try.prog 52 #[v, .int .i64 id] w fun e w' => e = .returned (.bool (isBufL U && openL U id)) ∧ Below w.heap.size w w' := by
  have h0 := h
  obtain ⟨cv, ev, rfl, hc, he⟩ := h
  obtain ⟨Ac, cc, rfl⟩ := hc.form
  have hcm : U.cells.length ≤ 9223372036854775807 := by
    obtain ⟨_, _, _, h1, h2, _⟩ := hc
    unfold maxLen at h2
    omega
  obtain ⟨Ae, ce, rfl, hk1, hm1⟩ := he.form
  have hA := Blk.new w 42 #[.slice Ac U.cells.length cc, .slice Ae U.exports.length ce]
  have hW := below_alloc w (.cells #[.slice Ac U.cells.length cc, .slice Ae U.exports.length ce] 42)
  cases hok : isBufL U
  · have HQ := hid (show (isBufL U && openL U id) = false by simp [hok])
    rw [hok] at HQ
    go_enter Try.func52, Try.ntmps52
    go_upto_region 1 with fail
    generalize w.alloc (.cells #[.slice Ac U.cells.length cc, .slice Ae U.exports.length ce] 42) = w1 at *
    have HA := hid hA
    have HB := hid hW
    have HU := hid (BufferV.ext h0 hW)
    obtain ⟨⟨a0, a1⟩, -⟩ := HA.out.all2
    clear hA hW hc
    go_wp2_with fail
    refine (isBuffer_any _ U _ HU.out).mono ?_; rintro e w2 ⟨rfl, hb⟩
    have HA2 := hid (HA.out.ext hb HA.out.lt)
    have HB2 := hid (HB.out.nx hb HB.out.size)
    have HU2 := hid (BufferV.ext HU.out hb)
    clear a0 a1 hb
    obtain ⟨⟨a0, a1⟩, -⟩ := HA2.out.all2
    rw [hok]
    clear hok
    go_wp2
    go_ret
    exact ⟨ret_bool HQ.out.symm, HB2.out⟩
  by_cases h1 : 0 ≤ id
  case neg =>
    have HQ := hid (show (true && openL U id) = false by simp [openL, inR, h1])
    have hd : decide ((0 : Int) ≤ id) = false := by simp [h1]
    go_enter Try.func52, Try.ntmps52
    go_upto_region 1 with fail
    generalize w.alloc (.cells #[.slice Ac U.cells.length cc, .slice Ae U.exports.length ce] 42) = w1 at *
    have HA := hid hA
    have HB := hid hW
    have HU := hid (BufferV.ext h0 hW)
    obtain ⟨⟨a0, a1⟩, -⟩ := HA.out.all2
    clear hA hW hc
    go_wp2_with fail
    refine (isBuffer_any _ U _ HU.out).mono ?_; rintro e w2 ⟨rfl, hb⟩
    have HA2 := hid (HA.out.ext hb HA.out.lt)
    have HB2 := hid (HB.out.nx hb HB.out.size)
    have HU2 := hid (BufferV.ext HU.out hb)
    clear a0 a1 hb
    obtain ⟨⟨a0, a1⟩, -⟩ := HA2.out.all2
    rw [hok]
    clear hok
    go_wp2
    go_ret
    exact ⟨ret_bool HQ.out.symm, HB2.out⟩
  by_cases h2 : id < (U.exports.length : Int)
  case neg =>
    have HQ := hid (show (true && openL U id) = false by
      have : inR id 0 ((U.exports.length : Int) - 1) = false := inR_no (by omega)
      simp [openL, this])
    go_enter Try.func52, Try.ntmps52
    go_upto_region 1 with fail
    generalize w.alloc (.cells #[.slice Ac U.cells.length cc, .slice Ae U.exports.length ce] 42) = w1 at *
    have HA := hid hA
    have HB := hid hW
    have HU := hid (BufferV.ext h0 hW)
    obtain ⟨⟨a0, a1⟩, -⟩ := HA.out.all2
    clear hA hW hc
    go_wp2_with fail
    refine (isBuffer_any _ U _ HU.out).mono ?_; rintro e w2 ⟨rfl, hb⟩
    have HA2 := hid (HA.out.ext hb HA.out.lt)
    have HB2 := hid (HB.out.nx hb HB.out.size)
    have HU2 := hid (BufferV.ext HU.out hb)
    clear a0 a1 hb
    obtain ⟨⟨a0, a1⟩, -⟩ := HA2.out.all2
    rw [hok]
    clear hok
    go_wp2
    go_ret
    exact ⟨ret_bool HQ.out.symm, HB2.out⟩
  obtain ⟨p, rfl⟩ : ∃ p : Nat, id = (p : Int) := ⟨id.toNat, by omega⟩
  have hp : p < U.exports.length := by omega
  have HQ := hid (show (true && openL U (p : Int)) = U.exports[p].opn by
    have : inR (p : Int) 0 ((U.exports.length : Int) - 1) = true := inR_yes (by omega) (by omega)
    rw [openL, this, Int.toNat_natCast, expAt_get hp]; rfl)
  obtain ⟨b, off, u1, u2, rfl, -, -, -, -, x4, -⟩ := he.at_ p hp
  go_enter Try.func52, Try.ntmps52
  go_upto_region 1 with fail
  generalize w.alloc (.cells #[.slice Ac U.cells.length cc, .slice (some ⟨b, off, none⟩) U.exports.length ce] 42) = w1 at *
  have HA := hid hA
  have HB := hid hW
  have HU := hid (BufferV.ext h0 hW)
  obtain ⟨⟨a0, a1⟩, -⟩ := HA.out.all2
  clear hA hW hc
  go_wp2_with fail
  refine (isBuffer_any _ U _ HU.out).mono ?_; rintro e w2 ⟨rfl, hb⟩
  have HA2 := hid (HA.out.ext hb HA.out.lt)
  have HB2 := hid (HB.out.nx hb HB.out.size)
  have HU2 := hid (BufferV.ext HU.out hb)
  clear a0 a1 hb
  obtain ⟨⟨a0, a1⟩, -⟩ := HA2.out.all2
  rw [hok]
  clear hok
  have x4 := (HB2.out.cell (p := ⟨b, off + p * 5 + 4, none⟩) (World.block_lt_of_cell? _ _ x4)).trans x4
  go_wp2
  go_ret
  exact ⟨ret_bool HQ.out.symm, HB2.out⟩

set_option maxRecDepth 100000 in
set_option maxHeartbeats 6400000 in
theorem KidsOf_any (v : Value) (U : BL) (id : Int) (w : World) (h : BufferV w v U) :
    Calls Try.prog 29 #[v, .int .i64 id] w (RetOwn w (kidsOfL U id)) := by
  have h0 := h
  obtain ⟨cv, ev, rfl, hc, he⟩ := h
  obtain ⟨Ac, cc, rfl⟩ := hc.form
  have hcm : U.cells.length ≤ 9223372036854775807 := by
    obtain ⟨_, _, _, h1, h2, _⟩ := hc
    unfold maxLen at h2
    omega
  obtain ⟨Ae, ce, rfl, hk1, hm1⟩ := he.form
  have hA := Blk.new w 42 #[.slice Ac U.cells.length cc, .slice Ae U.exports.length ce]
  have hW := below_alloc w (.cells #[.slice Ac U.cells.length cc, .slice Ae U.exports.length ce] 42)
  cases hok : isBufL U
  · have HQ := hid (show kidsOfL U id = [] by simp [kidsOfL, hok])
    go_enter Try.func29, Try.ntmps29
    go_upto_region 1 with fail
    generalize w.alloc (.cells #[.slice Ac U.cells.length cc, .slice Ae U.exports.length ce] 42) = w1 at *
    have HA := hid hA
    have HB := hid hW
    have HU := hid (BufferV.ext h0 hW)
    obtain ⟨⟨a0, a1⟩, -⟩ := HA.out.all2
    clear hA hW hc
    go_wp2_with fail
    refine (isBuffer_any _ U _ HU.out).mono ?_; rintro e w2 ⟨rfl, hb⟩
    have HA2 := hid (HA.out.ext hb HA.out.lt)
    have HB2 := hid (HB.out.nx hb HB.out.size)
    have HU2 := hid (BufferV.ext HU.out hb)
    clear a0 a1 hb
    obtain ⟨⟨a0, a1⟩, -⟩ := HA2.out.all2
    rw [hok]
    clear hok
    go_wp2
    go_ret
    exact ⟨_, rfl, by rw [HQ.out]; exact Own.nil _ _, HB2.out⟩
  by_cases h1 : id < -1
  · have HQ := hid (show kidsOfL U id = [] by
      have : inR id (-1) ((U.exports.length : Int) - 1) = false := inR_no (by omega)
      simp [kidsOfL, this])
    go_enter Try.func29, Try.ntmps29
    go_upto_region 1 with fail
    generalize w.alloc (.cells #[.slice Ac U.cells.length cc, .slice Ae U.exports.length ce] 42) = w1 at *
    have HA := hid hA
    have HB := hid hW
    have HU := hid (BufferV.ext h0 hW)
    obtain ⟨⟨a0, a1⟩, -⟩ := HA.out.all2
    clear hA hW hc
    go_wp2_with fail
    refine (isBuffer_any _ U _ HU.out).mono ?_; rintro e w2 ⟨rfl, hb⟩
    have HA2 := hid (HA.out.ext hb HA.out.lt)
    have HB2 := hid (HB.out.nx hb HB.out.size)
    have HU2 := hid (BufferV.ext HU.out hb)
    clear a0 a1 hb
    obtain ⟨⟨a0, a1⟩, -⟩ := HA2.out.all2
    rw [hok]
    clear hok
    go_wp2
    go_ret
    exact ⟨_, rfl, by rw [HQ.out]; exact Own.nil _ _, HB2.out⟩
  have h1d : decide (id < -1) = false := by simp; omega
  by_cases h2 : id < (U.exports.length : Int)
  case neg =>
    have h2d : decide ((U.exports.length : Int) ≤ id) = true := by simp; omega
    have HQ := hid (show kidsOfL U id = [] by
      have : inR id (-1) ((U.exports.length : Int) - 1) = false := inR_no (by omega)
      simp [kidsOfL, this])
    go_enter Try.func29, Try.ntmps29
    go_upto_region 1 with fail
    generalize w.alloc (.cells #[.slice Ac U.cells.length cc, .slice Ae U.exports.length ce] 42) = w1 at *
    have HA := hid hA
    have HB := hid hW
    have HU := hid (BufferV.ext h0 hW)
    obtain ⟨⟨a0, a1⟩, -⟩ := HA.out.all2
    clear hA hW hc
    go_wp2_with fail
    refine (isBuffer_any _ U _ HU.out).mono ?_; rintro e w2 ⟨rfl, hb⟩
    have HA2 := hid (HA.out.ext hb HA.out.lt)
    have HB2 := hid (HB.out.nx hb HB.out.size)
    have HU2 := hid (BufferV.ext HU.out hb)
    clear a0 a1 hb
    obtain ⟨⟨a0, a1⟩, -⟩ := HA2.out.all2
    rw [hok]
    clear hok
    go_wp2
    go_ret
    exact ⟨_, rfl, by rw [HQ.out]; exact Own.nil _ _, HB2.out⟩
  have h2d : decide ((U.exports.length : Int) ≤ id) = false := by simp; omega
  have HQ := hid (show kidsOfL U id = kidsTo U (some id) U.exports.length by
    have : inR id (-1) ((U.exports.length : Int) - 1) = true := inR_yes (by omega) (by omega)
    simp [kidsOfL, hok, this])
  have h8 := (isBufL_and hok).2.1
  go_enter Try.func29, Try.ntmps29
  go_upto_region 1 with fail
  generalize w.alloc (.cells #[.slice Ac U.cells.length cc, .slice Ae U.exports.length ce] 42) = w1 at *
  have HA := hid hA
  have HB := hid hW
  have HU := hid (BufferV.ext h0 hW)
  obtain ⟨⟨a0, a1⟩, -⟩ := HA.out.all2
  clear hA hW hc
  go_wp2_with fail
  refine (isBuffer_any _ U _ HU.out).mono ?_; rintro e w2 ⟨rfl, hb⟩
  have HA2 := hid (HA.out.ext hb HA.out.lt)
  have HB2 := hid (HB.out.nx hb HB.out.size)
  have HU2 := hid (BufferV.ext HU.out hb)
  clear a0 a1 hb
  obtain ⟨⟨a0, a1⟩, -⟩ := HA2.out.all2
  rw [hok]
  clear hok
  go_upto_region 3 with fail
  have HEV := hid he
  clear a0 a1 he
  have hz2 := HB2.out.size
  have HE := hid (Own.empty w2 (B := w2.heap.size) rfl (Nat.le_refl _))
  have HBE := hid (below_alloc w2 (.cells #[] 3))
  have hAE := HA2.out.ext HBE.out HA2.out.lt
  obtain ⟨⟨a0, a1⟩, -⟩ := hAE.all2
  go_upto_region 5 with fail
  clear a0 a1 hAE
  go_loopg [5, 26] U.exports.length (fun g out i wr => ∃ k : Nat, k ≤ U.exports.length ∧ g = U.exports.length - k ∧ i = .int .i64 k ∧ Own wr w2.heap.size out (kidsTo U (some id) k) ∧ Below w2.heap.size w2 wr)
  case atStart => exact ⟨0, Nat.zero_le _, rfl, rfl, HE.out, HBE.out⟩
  case round =>
    obtain ⟨k, hk, rfl, rfl, hown, hb⟩ := hrel
    clear HE HBE
    have HO := hid hown
    obtain ⟨A1, c1, e1⟩ := hown.form
    subst e1
    clear hown
    have hA := HA2.out.ext hb HA2.out.lt
    have hsz := hb.size
    have HBr := hid (HB2.out.nx hb HB2.out.size)
    obtain ⟨⟨a0, a1⟩, -⟩ := hA.all2
    by_cases hlt : k < U.exports.length
    · have hki : (k : Int) < (U.exports.length : Int) := by omega
      obtain ⟨b, off, u1, u2, rfl, x0, x1, x2, x3, x4, hE⟩ := (HEV.out.ext HBr.out).at_ k hlt
      have HYS := hid (fun h => kidsTo_yes (U := U) (id := (some id)) (k := k) h)
      have HNO := hid (fun h => kidsTo_no (U := U) (id := (some id)) (k := k) h)
      have HLN := hid (show (kidsTo U (some id) k).length ≤ 1000000000000 by have := kidsTo_len U (some id) k; omega)
      have HKA := hid (show kidAt U (some id) k = (U.exports[k].opn && (U.exports[k].parent == id)) by unfold kidAt; rw [expAt_get hlt])
      obtain ⟨s1, t1, ev1, hs, ht⟩ := hE.view
      have ev2 : u1 = s1 ∧ u2 = t1 := by simpa using ev1
      obtain ⟨rfl, rfl⟩ := ev2
      obtain ⟨As, cs, rfl⟩ := hs.form
      obtain ⟨At, ct, rfl⟩ := ht.form
      clear hE hs ht ev1
      obtain ⟨E, eE⟩ : ∃ E, U.exports[k] = E := ⟨_, rfl⟩
      rw [eE] at x0 x1 x2 x3 x4 HKA
      clear eE
      have hZ := Blk.new wr 70 #[.int .i64 E.parent, .int .i64 E.view.base, .slice As E.view.shape.length cs, .slice At E.view.strides.length ct, .bool E.opn]
      have hbz := below_alloc wr (.cells #[.int .i64 E.parent, .int .i64 E.view.base, .slice As E.view.shape.length cs, .slice At E.view.strides.length ct, .bool E.opn] 70)
      have HO1 := hid (HO.out.ext hbz)
      have HB1 := hid (hb.nx hbz hsz)
      go_upto_region 7 with fail
      clear a0 a1 x0 x1 x2 x3 x4 hA hbz hb HO HBr
      generalize wr.alloc (.cells #[.int .i64 E.parent, .int .i64 E.view.base, .slice As E.view.shape.length cs, .slice At E.view.strides.length ct, .bool E.opn] 70) = wq at *
      obtain ⟨⟨z0, z1, z2, z3, z4⟩, -⟩ := hZ.all5E
      clear hZ
      have hsz := HB1.out.size
      cases c2 : E.opn
      · rw [c2] at HKA z4
        clear c2
        have HN := hid (HNO.out (HKA.out.trans (by rfl)))
        clear HKA HYS HNO
        go_wp2
        go_roundg (U.exports.length - (k + 1))
        case measure => omega
        case rel => exact ⟨k + 1, by omega, rfl, by go_num, by rw [HN.out]; exact HO1.out, HB1.out⟩
      · rw [c2] at HKA z4
        clear c2
        cases c3 : E.parent == id
        · rw [c3] at HKA
          have HN := hid (HNO.out (HKA.out.trans (by rfl)))
          clear HKA HYS HNO
          go_wp2
          go_roundg (U.exports.length - (k + 1))
          case measure => omega
          case rel => exact ⟨k + 1, by omega, rfl, by go_num, by rw [HN.out]; exact HO1.out, HB1.out⟩
        · rw [c3] at HKA
          have HN := hid (HYS.out (HKA.out.trans (by rfl)))
          clear HKA HYS HNO
          go_wp2_with (at_builtin; refine app1 _ rfl _ _ rfl w2.heap.size _ (kidsTo U (some id) k) rfl (HO1.out.alloc _) ⟨wq.heap.size, 0, none⟩ 1 k rfl (cell_new1 _ _ _) HLN.out (le_alloc hsz _) ?_)
          intro v1 w3 ho1 hg1 hat1
          have hq := HB1.out.trans (((below_alloc wq (.cells #[.int .i64 (k : Int)] 3)).mono hsz).trans ((HO1.out.alloc _).under hg1 (le_alloc hsz _)))
          clear hg1 hat1
          go_wp2
          go_roundg (U.exports.length - (k + 1))
          case measure => omega
          case rel => exact ⟨k + 1, by omega, rfl, by go_num, by rw [HN.out]; exact ho1, hq⟩
    · obtain rfl : U.exports.length = k := by omega
      go_wp2
      go_ret
      exact ⟨_, rfl, by rw [HQ.out]; exact HO.out.mono HB2.out.size, HBr.out⟩

set_option maxRecDepth 100000 in
set_option maxHeartbeats 6400000 in
theorem OpenOf_any (v : Value) (U : BL) (w : World) (h : BufferV w v U) :
    Calls Try.prog 27 #[v] w (RetOwn w (openOfL U)) := by
  have h0 := h
  obtain ⟨cv, ev, rfl, hc, he⟩ := h
  obtain ⟨Ac, cc, rfl⟩ := hc.form
  have hcm : U.cells.length ≤ 9223372036854775807 := by
    obtain ⟨_, _, _, h1, h2, _⟩ := hc
    unfold maxLen at h2
    omega
  obtain ⟨Ae, ce, rfl, hk1, hm1⟩ := he.form
  have hA := Blk.new w 42 #[.slice Ac U.cells.length cc, .slice Ae U.exports.length ce]
  have hW := below_alloc w (.cells #[.slice Ac U.cells.length cc, .slice Ae U.exports.length ce] 42)
  cases hok : isBufL U
  · have HQ := hid (show openOfL U = [] by simp [openOfL, hok])
    go_enter Try.func27, Try.ntmps27
    go_upto_region 1 with fail
    generalize w.alloc (.cells #[.slice Ac U.cells.length cc, .slice Ae U.exports.length ce] 42) = w1 at *
    have HA := hid hA
    have HB := hid hW
    have HU := hid (BufferV.ext h0 hW)
    obtain ⟨⟨a0, a1⟩, -⟩ := HA.out.all2
    clear hA hW hc
    go_wp2_with fail
    refine (isBuffer_any _ U _ HU.out).mono ?_; rintro e w2 ⟨rfl, hb⟩
    have HA2 := hid (HA.out.ext hb HA.out.lt)
    have HB2 := hid (HB.out.nx hb HB.out.size)
    have HU2 := hid (BufferV.ext HU.out hb)
    clear a0 a1 hb
    obtain ⟨⟨a0, a1⟩, -⟩ := HA2.out.all2
    rw [hok]
    go_wp2
    go_ret
    exact ⟨_, rfl, by rw [HQ.out]; exact Own.nil _ _, HB2.out⟩
  have HQ := hid (show openOfL U = kidsTo U none U.exports.length by simp [openOfL, hok])
  have h8 := (isBufL_and hok).2.1
  go_enter Try.func27, Try.ntmps27
  go_upto_region 1 with fail
  generalize w.alloc (.cells #[.slice Ac U.cells.length cc, .slice Ae U.exports.length ce] 42) = w1 at *
  have HA := hid hA
  have HB := hid hW
  have HU := hid (BufferV.ext h0 hW)
  obtain ⟨⟨a0, a1⟩, -⟩ := HA.out.all2
  clear hA hW hc
  go_wp2_with fail
  refine (isBuffer_any _ U _ HU.out).mono ?_; rintro e w2 ⟨rfl, hb⟩
  have HA2 := hid (HA.out.ext hb HA.out.lt)
  have HB2 := hid (HB.out.nx hb HB.out.size)
  have HU2 := hid (BufferV.ext HU.out hb)
  clear a0 a1 hb
  obtain ⟨⟨a0, a1⟩, -⟩ := HA2.out.all2
  rw [hok]
  clear hok
  have HEV := hid he
  clear a0 a1 he
  have hz2 := HB2.out.size
  have HE := hid (Own.empty w2 (B := w2.heap.size) rfl (Nat.le_refl _))
  have HBE := hid (below_alloc w2 (.cells #[] 3))
  have hAE := HA2.out.ext HBE.out HA2.out.lt
  obtain ⟨⟨a0, a1⟩, -⟩ := hAE.all2
  go_upto_region 5 with fail
  clear a0 a1 hAE
  go_loopg [3, 13] U.exports.length (fun g out i wr => ∃ k : Nat, k ≤ U.exports.length ∧ g = U.exports.length - k ∧ i = .int .i64 k ∧ Own wr w2.heap.size out (kidsTo U none k) ∧ Below w2.heap.size w2 wr)
  case atStart => exact ⟨0, Nat.zero_le _, rfl, rfl, HE.out, HBE.out⟩
  case round =>
    obtain ⟨k, hk, rfl, rfl, hown, hb⟩ := hrel
    clear HE HBE
    have HO := hid hown
    obtain ⟨A1, c1, e1⟩ := hown.form
    subst e1
    clear hown
    have hA := HA2.out.ext hb HA2.out.lt
    have hsz := hb.size
    have HBr := hid (HB2.out.nx hb HB2.out.size)
    obtain ⟨⟨a0, a1⟩, -⟩ := hA.all2
    by_cases hlt : k < U.exports.length
    · have hki : (k : Int) < (U.exports.length : Int) := by omega
      obtain ⟨b, off, u1, u2, rfl, x0, x1, x2, x3, x4, hE⟩ := (HEV.out.ext HBr.out).at_ k hlt
      have HYS := hid (fun h => kidsTo_yes (U := U) (id := none) (k := k) h)
      have HNO := hid (fun h => kidsTo_no (U := U) (id := none) (k := k) h)
      have HLN := hid (show (kidsTo U none k).length ≤ 1000000000000 by have := kidsTo_len U none k; omega)
      have HKA := hid (show kidAt U none k = (U.exports[k].opn) by unfold kidAt; rw [expAt_get hlt]; simp)
      obtain ⟨s1, t1, ev1, hs, ht⟩ := hE.view
      have ev2 : u1 = s1 ∧ u2 = t1 := by simpa using ev1
      obtain ⟨rfl, rfl⟩ := ev2
      obtain ⟨As, cs, rfl⟩ := hs.form
      obtain ⟨At, ct, rfl⟩ := ht.form
      clear hE hs ht ev1
      obtain ⟨E, eE⟩ : ∃ E, U.exports[k] = E := ⟨_, rfl⟩
      rw [eE] at x0 x1 x2 x3 x4 HKA
      clear eE
      have hZ := Blk.new wr 70 #[.int .i64 E.parent, .int .i64 E.view.base, .slice As E.view.shape.length cs, .slice At E.view.strides.length ct, .bool E.opn]
      have hbz := below_alloc wr (.cells #[.int .i64 E.parent, .int .i64 E.view.base, .slice As E.view.shape.length cs, .slice At E.view.strides.length ct, .bool E.opn] 70)
      have HO1 := hid (HO.out.ext hbz)
      have HB1 := hid (hb.nx hbz hsz)
      go_upto_region 7 with fail
      clear a0 a1 x0 x1 x2 x3 x4 hA hbz hb HO HBr
      generalize wr.alloc (.cells #[.int .i64 E.parent, .int .i64 E.view.base, .slice As E.view.shape.length cs, .slice At E.view.strides.length ct, .bool E.opn] 70) = wq at *
      obtain ⟨⟨z0, z1, z2, z3, z4⟩, -⟩ := hZ.all5E
      clear hZ
      have hsz := HB1.out.size
      cases c2 : E.opn
      · rw [c2] at HKA z4
        clear c2
        have HN := hid (HNO.out (HKA.out.trans (by rfl)))
        clear HKA HYS HNO
        go_wp2
        go_roundg (U.exports.length - (k + 1))
        case measure => omega
        case rel => exact ⟨k + 1, by omega, rfl, by go_num, by rw [HN.out]; exact HO1.out, HB1.out⟩
      · rw [c2] at HKA z4
        clear c2
        have HN := hid (HYS.out (HKA.out.trans (by rfl)))
        clear HKA HYS HNO
        go_wp2_with (at_builtin; refine app1 _ rfl _ _ rfl w2.heap.size _ (kidsTo U none k) rfl (HO1.out.alloc _) ⟨wq.heap.size, 0, none⟩ 1 k rfl (cell_new1 _ _ _) HLN.out (le_alloc hsz _) ?_)
        intro v1 w3 ho1 hg1 hat1
        have hq := HB1.out.trans (((below_alloc wq (.cells #[.int .i64 (k : Int)] 3)).mono hsz).trans ((HO1.out.alloc _).under hg1 (le_alloc hsz _)))
        clear hg1 hat1
        go_wp2
        go_roundg (U.exports.length - (k + 1))
        case measure => omega
        case rel => exact ⟨k + 1, by omega, rfl, by go_num, by rw [HN.out]; exact ho1, hq⟩
    · obtain rfl : U.exports.length = k := by omega
      go_wp2
      go_ret
      exact ⟨_, rfl, by rw [HQ.out]; exact HO.out.mono HB2.out.size, HBr.out⟩

set_option maxRecDepth 100000 in
set_option maxHeartbeats 6400000 in
theorem LoadExport_any (v : Value) (U : BL) (id : Int) (w : World) (h : BufferV w v U) :
    Calls Try.prog 18 #[v, .int .i64 id] w (RetOwn w (loadExpL U id)) := by
  have h0 := h
  obtain ⟨cv, ev, rfl, hc, he⟩ := h
  obtain ⟨Ac, cc, rfl⟩ := hc.form
  have hcm : U.cells.length ≤ 9223372036854775807 := by
    obtain ⟨_, _, _, h1, h2, _⟩ := hc
    unfold maxLen at h2
    omega
  obtain ⟨Ae, ce, rfl, hk1, hm1⟩ := he.form
  have hA := Blk.new w 42 #[.slice Ac U.cells.length cc, .slice Ae U.exports.length ce]
  have hW := below_alloc w (.cells #[.slice Ac U.cells.length cc, .slice Ae U.exports.length ce] 42)
  cases hok : (isBufL U && openL U id)
  · have HQ := hid (show loadExpL U id = [] by simp [loadExpL, hok])
    go_enter Try.func18, Try.ntmps18
    go_upto_region 1 with fail
    generalize w.alloc (.cells #[.slice Ac U.cells.length cc, .slice Ae U.exports.length ce] 42) = w1 at *
    have HA := hid hA
    have HB := hid hW
    have HU := hid (BufferV.ext h0 hW)
    obtain ⟨⟨a0, a1⟩, -⟩ := HA.out.all2
    clear hA hW hc
    go_wp2_with fail
    refine (isOpen_any _ U id _ HU.out).mono ?_; rintro e w2 ⟨rfl, hb⟩
    have HA2 := hid (HA.out.ext hb HA.out.lt)
    have HB2 := hid (HB.out.nx hb HB.out.size)
    have HU2 := hid (BufferV.ext HU.out hb)
    clear a0 a1 hb
    obtain ⟨⟨a0, a1⟩, -⟩ := HA2.out.all2
    rw [hok]
    go_wp2
    go_ret
    exact ⟨_, rfl, by rw [HQ.out]; exact Own.nil _ _, HB2.out⟩
  have HQ := hid (show loadExpL U id = takenL U.cells (offs (expAt U id.toNat).view) by simp [loadExpL, hok])
  have hok2 : isBufL U = true ∧ openL U id = true := by simpa using hok
  go_enter Try.func18, Try.ntmps18
  go_upto_region 1 with fail
  generalize w.alloc (.cells #[.slice Ac U.cells.length cc, .slice Ae U.exports.length ce] 42) = w1 at *
  have HA := hid hA
  have HB := hid hW
  have HU := hid (BufferV.ext h0 hW)
  obtain ⟨⟨a0, a1⟩, -⟩ := HA.out.all2
  clear hA hW hc
  go_wp2_with fail
  refine (isOpen_any _ U id _ HU.out).mono ?_; rintro e w2 ⟨rfl, hb⟩
  have HA2 := hid (HA.out.ext hb HA.out.lt)
  have HB2 := hid (HB.out.nx hb HB.out.size)
  have HU2 := hid (BufferV.ext HU.out hb)
  clear a0 a1 hb
  obtain ⟨⟨a0, a1⟩, -⟩ := HA2.out.all2
  rw [hok]
  have HH := hid (load_holds hok2.1 hok2.2)
  obtain ⟨hi0, hi1, -⟩ := openL_get hok2.2
  obtain ⟨p, hp⟩ : ∃ p : Nat, id = (p : Int) := ⟨id.toNat, by omega⟩
  have hpl : p < U.exports.length := by omega
  rw [hp, Int.toNat_natCast, expAt_get hpl] at HQ HH
  subst hp
  obtain ⟨b, off, u1, u2, rfl, x0, x1, x2, x3, x4, hE⟩ := he.at_ p hpl
  obtain ⟨V, eV⟩ : ∃ V, U.exports[p].view = V := ⟨_, rfl⟩
  have hV := hE.view
  rw [eV] at x1 hV HQ HH
  have HV := hid hV
  clear hE hV x0 x4 eV hok hok2
  have hpi : (p : Int) < (U.exports.length : Int) := by omega
  have x1 := (HB2.out.cell (p := ⟨b, off + p * 5 + 1, none⟩) (World.block_lt_of_cell? _ _ x1)).trans x1
  have x2 := (HB2.out.cell (p := ⟨b, off + p * 5 + 2, none⟩) (World.block_lt_of_cell? _ _ x2)).trans x2
  have x3 := (HB2.out.cell (p := ⟨b, off + p * 5 + 3, none⟩) (World.block_lt_of_cell? _ _ x3)).trans x3
  go_upto_region 3 with fail
  clear a0 a1
  have qA := fun x : ExtW w2 => (Blk.ext HA2.out x.h HA2.out.lt).all2.1
  have q1 := fun x : ExtW w2 => (x.h.cell (p := ⟨b, off + p * 5 + 1, none⟩) (World.block_lt_of_cell? _ _ x1)).trans x1
  have q2 := fun x : ExtW w2 => (x.h.cell (p := ⟨b, off + p * 5 + 2, none⟩) (World.block_lt_of_cell? _ _ x2)).trans x2
  have q3 := fun x : ExtW w2 => (x.h.cell (p := ⟨b, off + p * 5 + 3, none⟩) (World.block_lt_of_cell? _ _ x3)).trans x3
  have HVx := hid (fun x : ExtW w2 => HV.out.ext (HB2.out.nx x.h HB2.out.size))
  have HCx := hid (fun x : ExtW w2 => by
    obtain ⟨cv1, ev1, e1, hc1, -⟩ := BufferV.ext HU2.out x.h
    have e2 : .slice Ac U.cells.length cc = cv1 ∧ .slice (some ⟨b, off, none⟩) U.exports.length ce = ev1 := by simpa using e1
    exact e2.1 ▸ hc1)
  clear x1 x2 x3
  refine region_mk 9 (by kernel_rfl) (by kernel_rfl) ?_
  apply Exists.intro
  simp only [List.take_succ_cons, List.take_zero, List.drop_succ_cons, List.drop_zero]
  repeat (first
    | (apply grow_val (by rfl); (focus (intro x; (go_simp; try with_reducible rfl); done)); simp only [Act.put, List.setIfInBounds_toArray, List.set_cons_zero, List.set_cons_succ])
    | (apply grow_skip (by rfl); simp only [Act.put, List.setIfInBounds_toArray, List.set_cons_zero, List.set_cons_succ]))
  apply grow_ints (takenL U.cells (offs V)) (by rfl)
  · intro x hF K Q hK
    go_simp
    (go_at_call 53; refine (loadView_any _ _ U.cells V _ (HCx.out x) (HVx.out x) HH.out).mono ?_; rintro e w' ⟨v', rfl, ho, hb⟩; exact hK _ _ hb ho)
  intro A8 c8 F8 O8 hF8 hO8
  simp only [Act.put, List.setIfInBounds_toArray, List.set_cons_zero, List.set_cons_succ]
  repeat (first
    | (apply grow_val (by rfl); (focus (intro x; (go_simp; try with_reducible rfl); done)); simp only [Act.put, List.setIfInBounds_toArray, List.set_cons_zero, List.set_cons_succ])
    | (apply grow_skip (by rfl); simp only [Act.put, List.setIfInBounds_toArray, List.set_cons_zero, List.set_cons_succ]))
  refine grow_nil ?_
  rintro ⟨w5, hb5⟩ hF hS
  have ho := hF8 _ (hF 8 (by omega))
  have hb5 : Below w2.heap.size w2 w5 := hb5
  have HO := hid (ho.mono HB2.out.size)
  have HB5 := hid (HB2.out.nx hb5 HB2.out.size)
  clear hF hS hF8 hO8 qA q1 q2 q3 HVx HCx ho hb5
  go_wp2
  go_ret
  exact ⟨_, rfl, by rw [HQ.out]; exact HO.out, HB5.out⟩

theorem KidsOf_law (v : Value) (U : BL) (d : Int) (w : World) (h : BufferV w v U) (_ : -9223372036854775808 ≤ d ∧ d ≤ 9223372036854775807) :
    Calls Try.prog 29 #[v, .int .i64 d] w (RetOwn w (kidsOfL U d)) := KidsOf_any v U d w h

theorem LoadExport_law (v : Value) (U : BL) (d : Int) (w : World) (h : BufferV w v U) (_ : -9223372036854775808 ≤ d ∧ d ≤ 9223372036854775807) :
    Calls Try.prog 18 #[v, .int .i64 d] w (RetOwn w (loadExpL U d)) := LoadExport_any v U d w h

end Go.Proofs.Ytfiphjifnjnmbaa
