/- The contracts of the reference's buffers. No conditions. -/
import Derived.Test.YtfiphjifnjnmbaaBUp
import Derived.Test.YtfiphjifnjnmbaaLX1
import Derived.Test.YtfiphjifnjnmbaaK1b
import Derived.Test.YtfiphjifnjnmbaaKL
import Derived.Test.YtfiphjifnjnmbaaSR
import Derived.Test.YtfiphjifnjnmbaaT0
import Derived.Test.YtfiphjifnjnmbaaGw
import Derived.Deep.Cut
import Derived.Deep.LoopGhost
namespace Go.Proofs.Ytfiphjifnjnmbaa
open Go.RowKit

set_option maxRecDepth 100000 in
set_option maxHeartbeats 6400000 in
theorem validExport_any (v : Value) (U : BL) (k : Nat) (w : World) (h : BufferV w v U) (hk : k < U.exports.length) :
    Calls Try.prog 69 #[v, .int .i64 k] w fun e w' => e = .returned (.bool (okExp U k)) ∧ Below w.heap.size w w' := by
  have h0 := h
  obtain ⟨cv, ev, rfl, hc, he⟩ := h
  obtain ⟨Ac, cc, rfl⟩ := hc.form
  have hcm : U.cells.length ≤ 9223372036854775807 := by
    obtain ⟨_, _, _, h1, h2, _⟩ := hc
    unfold maxLen at h2
    omega
  obtain ⟨Ae, ce, rfl, hk1, hm1⟩ := he.form
  obtain ⟨b, off, u1, u2, rfl, x0, x1, x2, x3, x4, hE⟩ := he.at_ k hk
  have hV := hE.view
  obtain ⟨s1, t1, ev1, hs, ht⟩ := hV
  have ev2 : u1 = s1 ∧ u2 = t1 := by simpa using ev1
  obtain ⟨rfl, rfl⟩ := ev2
  obtain ⟨As, cs, rfl⟩ := hs.form
  obtain ⟨At, ct, rfl⟩ := ht.form
  have hki : (k : Int) < (U.exports.length : Int) := by omega
  have hEX := expAt_get hk
  have HOK := hid (show okExp U k = (inR U.exports[k].parent (-1) ((k : Int) - 1) && isViewL U.exports[k].view && (!U.exports[k].opn || (fitsL U.exports[k].view (U.cells.length : Nat) && (decide (U.exports[k].parent < 0) || (expAt U U.exports[k].parent.toNat).opn)))) by unfold okExp; rw [hEX])
  obtain ⟨E, eE⟩ : ∃ E, U.exports[k] = E := ⟨_, rfl⟩
  rw [eE] at x0 x1 x2 x3 x4 hs ht HOK hE
  have HV := hid (show ViewV w (.agg #[.int .i64 E.view.base, .slice As E.view.shape.length cs, .slice At E.view.strides.length ct]) E.view from ⟨_, _, rfl, hs, ht⟩)
  have HPAR := hid (fun (p : Nat) (hp : p < U.exports.length) => he.at_ p hp)
  clear hE hs ht ev1 hEX eE hc
  have hA0 := Blk.new w 42 #[.slice Ac U.cells.length cc, .slice (some ⟨b, off, none⟩) U.exports.length ce]
  have hbA := below_alloc w (.cells #[.slice Ac U.cells.length cc, .slice (some ⟨b, off, none⟩) U.exports.length ce] 42)
  have hA := hA0.alloc (.cells #[.int .i64 E.parent, .int .i64 E.view.base, .slice As E.view.shape.length cs, .slice At E.view.strides.length ct, .bool E.opn] 70)
  have hZ := Blk.new (w.alloc (.cells #[.slice Ac U.cells.length cc, .slice (some ⟨b, off, none⟩) U.exports.length ce] 42)) 70 #[.int .i64 E.parent, .int .i64 E.view.base, .slice As E.view.shape.length cs, .slice At E.view.strides.length ct, .bool E.opn]
  have hW : Below w.heap.size w ((w.alloc (.cells #[.slice Ac U.cells.length cc, .slice (some ⟨b, off, none⟩) U.exports.length ce] 42)).alloc (.cells #[.int .i64 E.parent, .int .i64 E.view.base, .slice As E.view.shape.length cs, .slice At E.view.strides.length ct, .bool E.opn] 70)) := hbA.alloc (by simp) _
  have y0 := (hbA.cell (p := ⟨b, off + k * 5, none⟩) (World.block_lt_of_cell? _ _ x0)).trans x0
  have y1 := (hbA.cell (p := ⟨b, off + k * 5 + 1, none⟩) (World.block_lt_of_cell? _ _ x1)).trans x1
  have y2 := (hbA.cell (p := ⟨b, off + k * 5 + 2, none⟩) (World.block_lt_of_cell? _ _ x2)).trans x2
  have y3 := (hbA.cell (p := ⟨b, off + k * 5 + 3, none⟩) (World.block_lt_of_cell? _ _ x3)).trans x3
  have y4 := (hbA.cell (p := ⟨b, off + k * 5 + 4, none⟩) (World.block_lt_of_cell? _ _ x4)).trans x4
  obtain ⟨⟨a0, a1⟩, -⟩ := id hA0.all2
  simp only [World.size_alloc] at hZ
  go_enter Try.func69, Try.ntmps69
  go_upto_region 2 with fail
  clear y0 y1 y2 y3 y4 a0 a1 x0 x1 x2 x3 x4 hA0 hbA
  generalize ((w.alloc (.cells #[.slice Ac U.cells.length cc, .slice (some ⟨b, off, none⟩) U.exports.length ce] 42)).alloc (.cells #[.int .i64 E.parent, .int .i64 E.view.base, .slice As E.view.shape.length cs, .slice At E.view.strides.length ct, .bool E.opn] 70)) = w1 at *
  have HA := hid hA
  have HZ := hid hZ
  have HB := hid hW
  clear hA hZ hW
  obtain ⟨⟨a0, a1⟩, -⟩ := id HA.out.all2
  obtain ⟨⟨z0, z1, z2, z3, z4⟩, -⟩ := id HZ.out.all5E
  go_wp2_with fail
  refine (inRange_any _ _ _ _).mono ?_; rintro e w' ⟨rfl, rfl⟩
  cases c1 : inR E.parent (-1) ((k : Int) - 1)
  · have HQ := hid (show okExp U k = false by rw [HOK.out, c1]; rfl)
    clear c1
    go_wp2
    go_ret
    exact ⟨ret_bool HQ.out.symm, HB.out⟩
  have HP := hid (inR_iff.1 c1)
  rw [c1] at HOK
  clear c1
  go_wp2_with fail
  refine (validView_any _ E.view _ (HV.out.ext HB.out)).mono ?_; rintro e w2 ⟨rfl, hb2⟩
  have HA2 := hid (HA.out.ext hb2 HA.out.lt)
  have HZ2 := hid (HZ.out.ext hb2 HZ.out.lt)
  have HB2 := hid (HB.out.nx hb2 HB.out.size)
  clear a0 a1 z0 z1 z2 z3 z4 hb2 HA HZ HB
  obtain ⟨⟨a0, a1⟩, -⟩ := id HA2.out.all2
  obtain ⟨⟨z0, z1, z2, z3, z4⟩, -⟩ := id HZ2.out.all5E
  cases c2 : isViewL E.view
  · have HQ := hid (show okExp U k = false by rw [HOK.out, c2]; rfl)
    clear c2
    go_wp2
    go_ret
    exact ⟨ret_bool HQ.out.symm, HB2.out⟩
  have HVL := hid c2
  rw [c2] at HOK
  clear c2
  cases c3 : E.opn
  · have HQ := hid (show okExp U k = true by rw [HOK.out, c3]; rfl)
    rw [c3] at z4
    clear c3
    go_wp2
    go_ret
    exact ⟨ret_bool HQ.out.symm, HB2.out⟩
  rw [c3] at HOK z4
  clear c3
  go_wp2_with fail
  refine (fits_any _ E.view _ _ (HV.out.ext HB2.out) HVL.out hcm).mono ?_; rintro e w3 ⟨rfl, hb3⟩
  have HA3 := hid (HA2.out.ext hb3 HA2.out.lt)
  have HZ3 := hid (HZ2.out.ext hb3 HZ2.out.lt)
  have HB3 := hid (HB2.out.nx hb3 HB2.out.size)
  clear a0 a1 z0 z1 z2 z3 z4 hb3 HA2 HZ2 HB2
  obtain ⟨⟨a0, a1⟩, -⟩ := id HA3.out.all2
  obtain ⟨⟨z0, z1, z2, z3, z4⟩, -⟩ := id HZ3.out.all5E
  cases c4 : fitsL E.view (U.cells.length : Nat)
  · have HQ := hid (show okExp U k = false by rw [HOK.out, c4]; rfl)
    clear c4
    go_wp2
    go_ret
    exact ⟨ret_bool HQ.out.symm, HB3.out⟩
  rw [c4] at HOK
  clear c4
  by_cases c5 : E.parent < 0
  · have HQ := hid (show okExp U k = true by rw [HOK.out]; simp [c5])
    go_wp2
    go_ret
    exact ⟨ret_bool HQ.out.symm, HB3.out⟩
  obtain ⟨p, hp⟩ : ∃ p : Nat, E.parent = (p : Int) := ⟨E.parent.toNat, by omega⟩
  have hpk : p < U.exports.length := by have := HP.out; omega
  have HQ := hid (show okExp U k = U.exports[p].opn by
    have hp0 : ¬ (p : Int) < 0 := by omega
    rw [HOK.out, hp, Int.toNat_natCast, expAt_get hpk]
    simp [hp0])
  obtain ⟨b', off', v1, v2, eb, -, -, -, -, x4, -⟩ := HPAR.out p hpk
  simp only [Option.some.injEq, Addr.mk.injEq, and_true] at eb
  obtain ⟨rfl, rfl⟩ := eb
  have x4 := (HB3.out.cell (p := ⟨b, off + p * 5 + 4, none⟩) (World.block_lt_of_cell? _ _ x4)).trans x4
  have hpi : (p : Int) < (U.exports.length : Int) := by omega
  have hp0 : ¬ (p : Int) < 0 := by omega
  rw [hp] at z0
  clear c5 HOK HPAR HP
  go_wp2
  go_ret
  exact ⟨ret_bool HQ.out.symm, HB3.out⟩

end Go.Proofs.Ytfiphjifnjnmbaa
