/- The contracts of the reference's buffers: valid ones, their exports. No conditions. -/
import Derived.Test.YtfiphjifnjnmbaaBU1
import Derived.Test.YtfiphjifnjnmbaaGr
import Derived.Deep.Cut
import Derived.Deep.LoopGhost
namespace Go.Proofs.Ytfiphjifnjnmbaa
open Go.RowKit

set_option maxRecDepth 100000 in
set_option maxHeartbeats 6400000 in
theorem validBuffer_any (v : Value) (U : BL) (w : World) (h : BufferV w v U) :
    Calls Try.prog 47 #[v] w fun e w' => e = .returned (.bool (isBufL U)) ∧ Below w.heap.size w w' := by
  have h0 := h
  obtain ⟨cv, ev, rfl, hc, he⟩ := h
  obtain ⟨Ac, cc, rfl⟩ := hc.form
  have hcm : U.cells.length ≤ 9223372036854775807 := by
    obtain ⟨_, _, _, h1, h2, _⟩ := hc
    unfold maxLen at h2
    omega
  obtain ⟨Ae, ce, rfl, hk1, hm1⟩ := he.form
  have hA := Blk.new w 42 #[.slice Ac U.cells.length cc, .slice Ae U.exports.length ce]
  have hW := below_alloc w (.cells #[.slice Ac U.cells.length cc, .slice Ae U.exports.length ce] 42)
  go_enter Try.func47, Try.ntmps47
  go_upto_region 2 with fail
  generalize w.alloc (.cells #[.slice Ac U.cells.length cc, .slice Ae U.exports.length ce] 42) = w1 at *
  have HA := hid hA
  have HB := hid hW
  have HU := hid (BufferV.ext h0 hW)
  obtain ⟨⟨a0, a1⟩, -⟩ := HA.out.all2
  clear hA hW hc
  have HEV := hid he
  clear a0 a1 he
  go_loopg [3] U.exports.length (fun g i wr => ∃ k : Nat, k ≤ U.exports.length ∧ g = U.exports.length - k ∧ i = .int .i64 k ∧ Hid (okTo U k = true) ∧ Below w1.heap.size w1 wr)
  case atStart => exact ⟨0, Nat.zero_le _, rfl, rfl, hid rfl, Below.refl _ _⟩
  case round =>
    obtain ⟨k, hk, rfl, rfl, HK, hb⟩ := hrel
    have hA := HA.out.ext hb HA.out.lt
    have HBr := hid (HB.out.nx hb HB.out.size)
    obtain ⟨⟨a0, a1⟩, -⟩ := hA.all2
    by_cases hlt : k < U.exports.length
    · have hki : (k : Int) < (U.exports.length : Int) := by omega
      have HS := hid (okTo_succ U k)
      have HF := hid (isBufL_bad hlt)
      have HBB := hid hb
      go_wp2_with fail
      refine (validExport_any _ U k _ (BufferV.ext HU.out hb) hlt).mono ?_; rintro e w2 ⟨rfl, hb2⟩
      have hq := HBB.out.nx hb2 HBB.out.size
      have hz := HBr.out.nx hb2 HBr.out.size
      clear a0 a1 hA hb hb2 HBB
      cases hp : okExp U k
      · have HQ := hid (HF.out hp)
        clear hp
        go_wp2
        go_ret
        exact ⟨ret_bool HQ.out.symm, hz⟩
      · have HT := hid (show okTo U (k + 1) = true by rw [HS.out, HK.out, hp]; rfl)
        clear hp
        go_wp2
        go_roundg (U.exports.length - (k + 1))
        case measure => omega
        case rel => exact ⟨k + 1, by omega, rfl, by go_num, HT, hq⟩
    · obtain rfl : U.exports.length = k := by omega
      obtain ⟨cv1, ev1, e1, hc1, -⟩ := BufferV.ext HU.out hb
      have e2 : .slice Ac U.cells.length cc = cv1 ∧ .slice Ae U.exports.length ce = ev1 := by simpa using e1
      obtain ⟨rfl, rfl⟩ := e2
      clear e1
      cases hm : isMemL U.cells
      · have HQ := hid (isBufL_mem hm)
        go_wp2_with fail
        refine (validMemory_any _ U.cells _ hc1).mono ?_; rintro e w' ⟨rfl, rfl⟩
        rw [hm]
        go_wp2
        go_ret
        exact ⟨ret_bool HQ.out.symm, HBr.out⟩
      · by_cases h8 : U.exports.length ≤ 8
        · have h8i : (U.exports.length : Int) ≤ 8 := by omega
          have HQ := hid (isBufL_yes hm h8 HK.out)
          go_wp2_with fail
          refine (validMemory_any _ U.cells _ hc1).mono ?_; rintro e w' ⟨rfl, rfl⟩
          rw [hm]
          go_wp2
          go_ret
          exact ⟨ret_bool HQ.out.symm, HBr.out⟩
        · have h8i : ¬ (U.exports.length : Int) ≤ 8 := by omega
          have HQ := hid (isBufL_len (U := U) (by omega))
          go_wp2_with fail
          refine (validMemory_any _ U.cells _ hc1).mono ?_; rintro e w' ⟨rfl, rfl⟩
          rw [hm]
          go_wp2
          go_ret
          exact ⟨ret_bool (by rw [HQ.out]; exact decide_eq_false (by omega)), HBr.out⟩

set_option maxRecDepth 100000 in
set_option maxHeartbeats 6400000 in
theorem sValidBuffer_any (v : Value) (U : BL) (w : World) (h : BufferV w v U) :
    Calls Try.prog 24 #[v] w fun e w' => e = .returned (.bool (isBufL U)) ∧ Below w.heap.size w w' := by
  have h0 := h
  obtain ⟨cv, ev, rfl, hc, he⟩ := h
  obtain ⟨Ac, cc, rfl⟩ := hc.form
  have hcm : U.cells.length ≤ 9223372036854775807 := by
    obtain ⟨_, _, _, h1, h2, _⟩ := hc
    unfold maxLen at h2
    omega
  obtain ⟨Ae, ce, rfl, hk1, hm1⟩ := he.form
  have hA := Blk.new w 42 #[.slice Ac U.cells.length cc, .slice Ae U.exports.length ce]
  have hW := below_alloc w (.cells #[.slice Ac U.cells.length cc, .slice Ae U.exports.length ce] 42)
  go_enter Try.func24, Try.ntmps24
  go_upto_region 1 with fail
  generalize w.alloc (.cells #[.slice Ac U.cells.length cc, .slice Ae U.exports.length ce] 42) = w1 at *
  have HA := hid hA
  have HB := hid hW
  have HU := hid (BufferV.ext h0 hW)
  obtain ⟨⟨a0, a1⟩, -⟩ := HA.out.all2
  clear hA hW hc
  go_wp2_with fail
  refine (validBuffer_any _ U _ HU.out).mono ?_; rintro e w2 ⟨rfl, hb⟩
  have HA2 := hid (HA.out.ext hb HA.out.lt)
  have HB2 := hid (HB.out.nx hb HB.out.size)
  have HU2 := hid (BufferV.ext HU.out hb)
  clear a0 a1 hb
  obtain ⟨⟨a0, a1⟩, -⟩ := HA2.out.all2
  go_wp2
  go_ret
  exact ⟨rfl, HB2.out⟩

set_option maxRecDepth 100000 in
set_option maxHeartbeats 6400000 in
theorem sIsOpen_any (v : Value) (U : BL) (id : Int) (w : World) (h : BufferV w v U) :
    Calls Try.prog 48 #[v, .int .i64 id] w fun e w' => e = .returned (.bool (openL U id)) ∧ Below w.heap.size w w' := by
  have h0 := h
  obtain ⟨cv, ev, rfl, hc, he⟩ := h
  obtain ⟨Ac, cc, rfl⟩ := hc.form
  have hcm : U.cells.length ≤ 9223372036854775807 := by
    obtain ⟨_, _, _, h1, h2, _⟩ := hc
    unfold maxLen at h2
    omega
  obtain ⟨Ae, ce, rfl, hk1, hm1⟩ := he.form
  have hA := Blk.new w 42 #[.slice Ac U.cells.length cc, .slice Ae U.exports.length ce]
  have hW := below_alloc w (.cells #[.slice Ac U.cells.length cc, .slice Ae U.exports.length ce] 42)
  cases c1 : inR id 0 ((U.exports.length : Int) - 1)
  · have HQ := hid (show openL U id = false by simp [openL, c1])
    go_enter Try.func48, Try.ntmps48
    go_upto_region 1 with fail
    generalize w.alloc (.cells #[.slice Ac U.cells.length cc, .slice Ae U.exports.length ce] 42) = w1 at *
    have HA := hid hA
    have HB := hid hW
    have HU := hid (BufferV.ext h0 hW)
    obtain ⟨⟨a0, a1⟩, -⟩ := HA.out.all2
    clear hA hW hc
    go_wp2_with fail
    refine (inRange_any _ _ _ _).mono ?_; rintro e w' ⟨rfl, rfl⟩
    rw [c1]
    go_wp2
    go_ret
    exact ⟨ret_bool HQ.out.symm, HB.out⟩
  obtain ⟨p, rfl⟩ : ∃ p : Nat, id = (p : Int) := ⟨id.toNat, by have := inR_iff.1 c1; omega⟩
  have hp : p < U.exports.length := by have := inR_iff.1 c1; omega
  have HQ := hid (show openL U (p : Int) = U.exports[p].opn by rw [openL, c1, Int.toNat_natCast, expAt_get hp]; rfl)
  obtain ⟨b, off, u1, u2, rfl, -, -, -, -, x4, -⟩ := he.at_ p hp
  have hpi : (p : Int) < (U.exports.length : Int) := by omega
  have x4 := (hW.cell (p := ⟨b, off + p * 5 + 4, none⟩) (World.block_lt_of_cell? _ _ x4)).trans x4
  go_enter Try.func48, Try.ntmps48
  go_upto_region 1 with fail
  generalize w.alloc (.cells #[.slice Ac U.cells.length cc, .slice (some ⟨b, off, none⟩) U.exports.length ce] 42) = w1 at *
  have HA := hid hA
  have HB := hid hW
  have HU := hid (BufferV.ext h0 hW)
  obtain ⟨⟨a0, a1⟩, -⟩ := HA.out.all2
  clear hA hW hc
  go_wp2_with fail
  refine (inRange_any _ _ _ _).mono ?_; rintro e w' ⟨rfl, rfl⟩
  rw [c1]
  clear c1
  go_wp2
  go_ret
  exact ⟨ret_bool HQ.out.symm, HB.out⟩

set_option maxRecDepth 100000 in
set_option maxHeartbeats 6400000 in
theorem sKids_any (v : Value) (U : BL) (id : Int) (w : World) (h : BufferV w v U) (h8 : U.exports.length ≤ 8) :
    Calls Try.prog 57 #[v, .int .i64 id] w (RetOwn w (kidsTo U (some id) U.exports.length)) := by
  have h0 := h
  obtain ⟨cv, ev, rfl, hc, he⟩ := h
  obtain ⟨Ac, cc, rfl⟩ := hc.form
  have hcm : U.cells.length ≤ 9223372036854775807 := by
    obtain ⟨_, _, _, h1, h2, _⟩ := hc
    unfold maxLen at h2
    omega
  obtain ⟨Ae, ce, rfl, hk1, hm1⟩ := he.form
  have hA := Blk.new w 42 #[.slice Ac U.cells.length cc, .slice Ae U.exports.length ce]
  have hW := below_alloc w (.cells #[.slice Ac U.cells.length cc, .slice Ae U.exports.length ce] 42)
  go_enter Try.func57, Try.ntmps57
  go_upto_region 1 with fail
  generalize w.alloc (.cells #[.slice Ac U.cells.length cc, .slice Ae U.exports.length ce] 42) = w1 at *
  have HA := hid hA
  have HB := hid hW
  have HU := hid (BufferV.ext h0 hW)
  obtain ⟨⟨a0, a1⟩, -⟩ := HA.out.all2
  clear hA hW hc
  have HEV := hid he
  clear a0 a1 he
  have hz := HB.out.size
  have HE := hid (Own.empty w1 (B := w1.heap.size) rfl (Nat.le_refl _))
  have HBE := hid (below_alloc w1 (.cells #[] 3))
  have hAE := HA.out.ext HBE.out HA.out.lt
  obtain ⟨⟨a0, a1⟩, -⟩ := hAE.all2
  go_upto_region 3 with fail
  clear a0 a1 hAE
  go_loopg [5, 6] U.exports.length (fun g out i wr => ∃ k : Nat, k ≤ U.exports.length ∧ g = U.exports.length - k ∧ i = .int .i64 k ∧ Own wr w1.heap.size out (kidsTo U (some id) k) ∧ Below w1.heap.size w1 wr)
  case atStart => exact ⟨0, Nat.zero_le _, rfl, rfl, HE.out, HBE.out⟩
  case round =>
    obtain ⟨k, hk, rfl, rfl, hown, hb⟩ := hrel
    clear HE HBE
    have HO := hid hown
    obtain ⟨A1, c1, e1⟩ := hown.form
    subst e1
    clear hown
    have hA := HA.out.ext hb HA.out.lt
    have hsz := hb.size
    have HBr := hid (HB.out.nx hb HB.out.size)
    obtain ⟨⟨a0, a1⟩, -⟩ := hA.all2
    by_cases hlt : k < U.exports.length
    · have hki : (k : Int) < (U.exports.length : Int) := by omega
      obtain ⟨b, off, u1, u2, rfl, x0, x1, x2, x3, x4, hE⟩ := (HEV.out.ext HBr.out).at_ k hlt
      have HYS := hid (fun h => kidsTo_yes (U := U) (id := (some id)) (k := k) h)
      have HNO := hid (fun h => kidsTo_no (U := U) (id := (some id)) (k := k) h)
      have HLN := hid (show (kidsTo U (some id) k).length ≤ 1000000000000 by have := kidsTo_len U (some id) k; omega)
      have HKA := hid (show kidAt U (some id) k = (U.exports[k].opn && (U.exports[k].parent == id)) by unfold kidAt; rw [expAt_get hlt])
      obtain ⟨E, eE⟩ : ∃ E, U.exports[k] = E := ⟨_, rfl⟩
      rw [eE] at x0 x4 HKA
      clear eE x1 x2 x3 hE
      have HO1 := HO
      have HB1 := hid hb
      clear hb
      cases c2 : E.opn
      · rw [c2] at HKA x4
        clear c2
        have HN := hid (HNO.out (HKA.out.trans (by rfl)))
        clear HKA HYS HNO
        go_wp2
        go_roundg (U.exports.length - (k + 1))
        case measure => omega
        case rel => exact ⟨k + 1, by omega, rfl, by go_num, by rw [HN.out]; exact HO1.out, HB1.out⟩
      · rw [c2] at HKA x4
        clear c2
        cases c3 : E.parent == id
        · rw [c3] at HKA
          have HN := hid (HNO.out (HKA.out.trans (by rfl)))
          clear HKA HYS HNO
          go_wp2
          go_roundg (U.exports.length - (k + 1))
          case measure => omega
          case rel => exact ⟨k + 1, by omega, rfl, by go_num, by rw [HN.out]; exact HO1.out, HB1.out⟩
        · rw [c3] at HKA
          have HN := hid (HYS.out (HKA.out.trans (by rfl)))
          clear HKA HYS HNO
          go_wp2_with (at_builtin; refine app1 _ rfl _ _ rfl w1.heap.size _ (kidsTo U (some id) k) rfl (HO1.out.alloc _) ⟨wr.heap.size, 0, none⟩ 1 k rfl (cell_new1 _ _ _) HLN.out (le_alloc hsz _) ?_)
          intro v1 w3 ho1 hg1 hat1
          have hq := HB1.out.trans (((below_alloc wr (.cells #[.int .i64 (k : Int)] 3)).mono hsz).trans ((HO1.out.alloc _).under hg1 (le_alloc hsz _)))
          clear hg1 hat1
          go_wp2
          go_roundg (U.exports.length - (k + 1))
          case measure => omega
          case rel => exact ⟨k + 1, by omega, rfl, by go_num, by rw [HN.out]; exact ho1, hq⟩
    · obtain rfl : U.exports.length = k := by omega
      go_wp2
      go_ret
      exact ⟨_, rfl, by exact HO.out.mono HB.out.size, HBr.out⟩

set_option maxRecDepth 100000 in
set_option maxHeartbeats 6400000 in
theorem sKidsOf_any (v : Value) (U : BL) (id : Int) (w : World) (h : BufferV w v U) :
    Calls Try.prog 28 #[v, .int .i64 id] w (RetOwn w (kidsOfL U id)) := by
  have h0 := h
  obtain ⟨cv, ev, rfl, hc, he⟩ := h
  obtain ⟨Ac, cc, rfl⟩ := hc.form
  have hcm : U.cells.length ≤ 9223372036854775807 := by
    obtain ⟨_, _, _, h1, h2, _⟩ := hc
    unfold maxLen at h2
    omega
  obtain ⟨Ae, ce, rfl, hk1, hm1⟩ := he.form
  have hA := Blk.new w 42 #[.slice Ac U.cells.length cc, .slice Ae U.exports.length ce]
  have hW := below_alloc w (.cells #[.slice Ac U.cells.length cc, .slice Ae U.exports.length ce] 42)
  cases hok : isBufL U
  · have HQ := hid (show kidsOfL U id = [] by simp [kidsOfL, hok])
    go_enter Try.func28, Try.ntmps28
    go_upto_region 1 with fail
    generalize w.alloc (.cells #[.slice Ac U.cells.length cc, .slice Ae U.exports.length ce] 42) = w1 at *
    have HA := hid hA
    have HB := hid hW
    have HU := hid (BufferV.ext h0 hW)
    obtain ⟨⟨a0, a1⟩, -⟩ := HA.out.all2
    clear hA hW hc
    go_wp2_with fail
    refine (validBuffer_any _ U _ HU.out).mono ?_; rintro e w2 ⟨rfl, hb⟩
    have HA2 := hid (HA.out.ext hb HA.out.lt)
    have HB2 := hid (HB.out.nx hb HB.out.size)
    have HU2 := hid (BufferV.ext HU.out hb)
    clear a0 a1 hb
    obtain ⟨⟨a0, a1⟩, -⟩ := HA2.out.all2
    rw [hok]
    go_wp2
    go_ret
    exact ⟨_, rfl, by rw [HQ.out]; exact Own.nil _ _, HB2.out⟩
  cases hin : inR id (-1) ((U.exports.length : Int) - 1)
  · have HQ := hid (show kidsOfL U id = [] by simp [kidsOfL, hin])
    go_enter Try.func28, Try.ntmps28
    go_upto_region 1 with fail
    generalize w.alloc (.cells #[.slice Ac U.cells.length cc, .slice Ae U.exports.length ce] 42) = w1 at *
    have HA := hid hA
    have HB := hid hW
    have HU := hid (BufferV.ext h0 hW)
    obtain ⟨⟨a0, a1⟩, -⟩ := HA.out.all2
    clear hA hW hc
    go_wp2_with fail
    refine (validBuffer_any _ U _ HU.out).mono ?_; rintro e w2 ⟨rfl, hb⟩
    have HA2 := hid (HA.out.ext hb HA.out.lt)
    have HB2 := hid (HB.out.nx hb HB.out.size)
    have HU2 := hid (BufferV.ext HU.out hb)
    clear a0 a1 hb
    obtain ⟨⟨a0, a1⟩, -⟩ := HA2.out.all2
    rw [hok]
    go_wp2_with fail
    refine (inRange_any _ _ _ _).mono ?_; rintro e w' ⟨rfl, rfl⟩
    rw [hin]
    go_wp2
    go_ret
    exact ⟨_, rfl, by rw [HQ.out]; exact Own.nil _ _, HB2.out⟩
  have HQ := hid (show kidsOfL U id = kidsTo U (some id) U.exports.length by simp [kidsOfL, hok, hin])
  have H8 := hid (isBufL_and hok).2.1
  go_enter Try.func28, Try.ntmps28
  go_upto_region 1 with fail
  generalize w.alloc (.cells #[.slice Ac U.cells.length cc, .slice Ae U.exports.length ce] 42) = w1 at *
  have HA := hid hA
  have HB := hid hW
  have HU := hid (BufferV.ext h0 hW)
  obtain ⟨⟨a0, a1⟩, -⟩ := HA.out.all2
  clear hA hW hc
  go_wp2_with fail
  refine (validBuffer_any _ U _ HU.out).mono ?_; rintro e w2 ⟨rfl, hb⟩
  have HA2 := hid (HA.out.ext hb HA.out.lt)
  have HB2 := hid (HB.out.nx hb HB.out.size)
  have HU2 := hid (BufferV.ext HU.out hb)
  clear a0 a1 hb
  obtain ⟨⟨a0, a1⟩, -⟩ := HA2.out.all2
  rw [hok]
  go_wp2_with fail
  refine (inRange_any _ _ _ _).mono ?_; rintro e w' ⟨rfl, rfl⟩
  rw [hin]
  clear hok hin
  go_wp2_with fail
  refine (sKids_any _ U id _ HU2.out H8.out).mono ?_; rintro e w3 ⟨r, rfl, ho, hb⟩
  have HO := hid (ho.mono HB2.out.size)
  have HB3 := hid (HB2.out.nx hb HB2.out.size)
  obtain ⟨A3, c3, rfl⟩ := ho.form
  clear ho hb a0 a1
  go_wp2
  go_ret
  exact ⟨_, rfl, by rw [HQ.out]; exact HO.out, HB3.out⟩

set_option maxRecDepth 100000 in
set_option maxHeartbeats 6400000 in
theorem sOpenOf_any (v : Value) (U : BL) (w : World) (h : BufferV w v U) :
    Calls Try.prog 26 #[v] w (RetOwn w (openOfL U)) := by
  have h0 := h
  obtain ⟨cv, ev, rfl, hc, he⟩ := h
  obtain ⟨Ac, cc, rfl⟩ := hc.form
  have hcm : U.cells.length ≤ 9223372036854775807 := by
    obtain ⟨_, _, _, h1, h2, _⟩ := hc
    unfold maxLen at h2
    omega
  obtain ⟨Ae, ce, rfl, hk1, hm1⟩ := he.form
  have hA := Blk.new w 42 #[.slice Ac U.cells.length cc, .slice Ae U.exports.length ce]
  have hW := below_alloc w (.cells #[.slice Ac U.cells.length cc, .slice Ae U.exports.length ce] 42)
  cases hok : isBufL U
  · have HQ := hid (show openOfL U = [] by simp [openOfL, hok])
    go_enter Try.func26, Try.ntmps26
    go_upto_region 1 with fail
    generalize w.alloc (.cells #[.slice Ac U.cells.length cc, .slice Ae U.exports.length ce] 42) = w1 at *
    have HA := hid hA
    have HB := hid hW
    have HU := hid (BufferV.ext h0 hW)
    obtain ⟨⟨a0, a1⟩, -⟩ := HA.out.all2
    clear hA hW hc
    go_wp2_with fail
    refine (validBuffer_any _ U _ HU.out).mono ?_; rintro e w2 ⟨rfl, hb⟩
    have HA2 := hid (HA.out.ext hb HA.out.lt)
    have HB2 := hid (HB.out.nx hb HB.out.size)
    have HU2 := hid (BufferV.ext HU.out hb)
    clear a0 a1 hb
    obtain ⟨⟨a0, a1⟩, -⟩ := HA2.out.all2
    rw [hok]
    go_wp2
    go_ret
    exact ⟨_, rfl, by rw [HQ.out]; exact Own.nil _ _, HB2.out⟩
  have HQ := hid (show openOfL U = kidsTo U none U.exports.length by simp [openOfL, hok])
  have h8 := (isBufL_and hok).2.1
  go_enter Try.func26, Try.ntmps26
  go_upto_region 1 with fail
  generalize w.alloc (.cells #[.slice Ac U.cells.length cc, .slice Ae U.exports.length ce] 42) = w1 at *
  have HA := hid hA
  have HB := hid hW
  have HU := hid (BufferV.ext h0 hW)
  obtain ⟨⟨a0, a1⟩, -⟩ := HA.out.all2
  clear hA hW hc
  go_wp2_with fail
  refine (validBuffer_any _ U _ HU.out).mono ?_; rintro e w2 ⟨rfl, hb⟩
  have HA2 := hid (HA.out.ext hb HA.out.lt)
  have HB2 := hid (HB.out.nx hb HB.out.size)
  have HU2 := hid (BufferV.ext HU.out hb)
  clear a0 a1 hb
  obtain ⟨⟨a0, a1⟩, -⟩ := HA2.out.all2
  rw [hok]
  clear hok
  have HEV := hid he
  clear a0 a1 he
  have hz2 := HB2.out.size
  have HE := hid (Own.empty w2 (B := w2.heap.size) rfl (Nat.le_refl _))
  have HBE := hid (below_alloc w2 (.cells #[] 3))
  have hAE := HA2.out.ext HBE.out HA2.out.lt
  obtain ⟨⟨a0, a1⟩, -⟩ := hAE.all2
  go_upto_region 5 with fail
  clear a0 a1 hAE
  go_loopg [3, 4] U.exports.length (fun g out i wr => ∃ k : Nat, k ≤ U.exports.length ∧ g = U.exports.length - k ∧ i = .int .i64 k ∧ Own wr w2.heap.size out (kidsTo U none k) ∧ Below w2.heap.size w2 wr)
  case atStart => exact ⟨0, Nat.zero_le _, rfl, rfl, HE.out, HBE.out⟩
  case round =>
    obtain ⟨k, hk, rfl, rfl, hown, hb⟩ := hrel
    clear HE HBE
    have HO := hid hown
    obtain ⟨A1, c1, e1⟩ := hown.form
    subst e1
    clear hown
    have hA := HA2.out.ext hb HA2.out.lt
    have hsz := hb.size
    have HBr := hid (HB2.out.nx hb HB2.out.size)
    obtain ⟨⟨a0, a1⟩, -⟩ := hA.all2
    by_cases hlt : k < U.exports.length
    · have hki : (k : Int) < (U.exports.length : Int) := by omega
      obtain ⟨b, off, u1, u2, rfl, x0, x1, x2, x3, x4, hE⟩ := (HEV.out.ext HBr.out).at_ k hlt
      have HYS := hid (fun h => kidsTo_yes (U := U) (id := none) (k := k) h)
      have HNO := hid (fun h => kidsTo_no (U := U) (id := none) (k := k) h)
      have HLN := hid (show (kidsTo U none k).length ≤ 1000000000000 by have := kidsTo_len U none k; omega)
      have HKA := hid (show kidAt U none k = (U.exports[k].opn) by unfold kidAt; rw [expAt_get hlt]; simp)
      obtain ⟨E, eE⟩ : ∃ E, U.exports[k] = E := ⟨_, rfl⟩
      rw [eE] at x0 x4 HKA
      clear eE x1 x2 x3 hE
      have HO1 := HO
      have HB1 := hid hb
      clear hb
      cases c2 : E.opn
      · rw [c2] at HKA x4
        clear c2
        have HN := hid (HNO.out (HKA.out.trans (by rfl)))
        clear HKA HYS HNO
        go_wp2
        go_roundg (U.exports.length - (k + 1))
        case measure => omega
        case rel => exact ⟨k + 1, by omega, rfl, by go_num, by rw [HN.out]; exact HO1.out, HB1.out⟩
      · rw [c2] at HKA x4
        clear c2
        have HN := hid (HYS.out (HKA.out.trans (by rfl)))
        clear HKA HYS HNO
        go_wp2_with (at_builtin; refine app1 _ rfl _ _ rfl w2.heap.size _ (kidsTo U none k) rfl (HO1.out.alloc _) ⟨wr.heap.size, 0, none⟩ 1 k rfl (cell_new1 _ _ _) HLN.out (le_alloc hsz _) ?_)
        intro v1 w3 ho1 hg1 hat1
        have hq := HB1.out.trans (((below_alloc wr (.cells #[.int .i64 (k : Int)] 3)).mono hsz).trans ((HO1.out.alloc _).under hg1 (le_alloc hsz _)))
        clear hg1 hat1
        go_wp2
        go_roundg (U.exports.length - (k + 1))
        case measure => omega
        case rel => exact ⟨k + 1, by omega, rfl, by go_num, by rw [HN.out]; exact ho1, hq⟩
    · obtain rfl : U.exports.length = k := by omega
      go_wp2
      go_ret
      exact ⟨_, rfl, by rw [HQ.out]; exact HO.out.mono HB2.out.size, HBr.out⟩

set_option maxRecDepth 100000 in
set_option maxHeartbeats 6400000 in
theorem sLoadExport_any (v : Value) (U : BL) (id : Int) (w : World) (h : BufferV w v U) :
    Calls Try.prog 16 #[v, .int .i64 id] w (RetOwn w (loadExpL U id)) := by
  have h0 := h
  obtain ⟨cv, ev, rfl, hc, he⟩ := h
  obtain ⟨Ac, cc, rfl⟩ := hc.form
  have hcm : U.cells.length ≤ 9223372036854775807 := by
    obtain ⟨_, _, _, h1, h2, _⟩ := hc
    unfold maxLen at h2
    omega
  obtain ⟨Ae, ce, rfl, hk1, hm1⟩ := he.form
  have hA := Blk.new w 42 #[.slice Ac U.cells.length cc, .slice Ae U.exports.length ce]
  have hW := below_alloc w (.cells #[.slice Ac U.cells.length cc, .slice Ae U.exports.length ce] 42)
  cases hok : isBufL U
  · have HQ := hid (show loadExpL U id = [] by simp [loadExpL, hok])
    go_enter Try.func16, Try.ntmps16
    go_upto_region 1 with fail
    generalize w.alloc (.cells #[.slice Ac U.cells.length cc, .slice Ae U.exports.length ce] 42) = w1 at *
    have HA := hid hA
    have HB := hid hW
    have HU := hid (BufferV.ext h0 hW)
    obtain ⟨⟨a0, a1⟩, -⟩ := HA.out.all2
    clear hA hW hc
    go_wp2_with fail
    refine (validBuffer_any _ U _ HU.out).mono ?_; rintro e w2 ⟨rfl, hb⟩
    have HA2 := hid (HA.out.ext hb HA.out.lt)
    have HB2 := hid (HB.out.nx hb HB.out.size)
    have HU2 := hid (BufferV.ext HU.out hb)
    clear a0 a1 hb
    obtain ⟨⟨a0, a1⟩, -⟩ := HA2.out.all2
    rw [hok]
    go_wp2
    go_ret
    exact ⟨_, rfl, by rw [HQ.out]; exact Own.nil _ _, HB2.out⟩
  cases hop : openL U id
  · have HQ := hid (show loadExpL U id = [] by simp [loadExpL, hop])
    go_enter Try.func16, Try.ntmps16
    go_upto_region 1 with fail
    generalize w.alloc (.cells #[.slice Ac U.cells.length cc, .slice Ae U.exports.length ce] 42) = w1 at *
    have HA := hid hA
    have HB := hid hW
    have HU := hid (BufferV.ext h0 hW)
    obtain ⟨⟨a0, a1⟩, -⟩ := HA.out.all2
    clear hA hW hc
    go_wp2_with fail
    refine (validBuffer_any _ U _ HU.out).mono ?_; rintro e w2 ⟨rfl, hb⟩
    have HA2 := hid (HA.out.ext hb HA.out.lt)
    have HB2 := hid (HB.out.nx hb HB.out.size)
    have HU2 := hid (BufferV.ext HU.out hb)
    clear a0 a1 hb
    obtain ⟨⟨a0, a1⟩, -⟩ := HA2.out.all2
    rw [hok]
    go_wp2_with fail
    refine (sIsOpen_any _ U id _ HU2.out).mono ?_; rintro e w3 ⟨rfl, hb⟩
    have HA3 := hid (HA2.out.ext hb HA2.out.lt)
    have HB3 := hid (HB2.out.nx hb HB2.out.size)
    have HU3 := hid (BufferV.ext HU2.out hb)
    clear a0 a1 hb
    obtain ⟨⟨a0, a1⟩, -⟩ := HA3.out.all2
    rw [hop]
    go_wp2
    go_ret
    exact ⟨_, rfl, by rw [HQ.out]; exact Own.nil _ _, HB3.out⟩
  have HQ := hid (show loadExpL U id = takenL U.cells (offs (expAt U id.toNat).view) by simp [loadExpL, hok, hop])
  have hok2 : isBufL U = true ∧ openL U id = true := ⟨hok, hop⟩
  go_enter Try.func16, Try.ntmps16
  go_upto_region 1 with fail
  generalize w.alloc (.cells #[.slice Ac U.cells.length cc, .slice Ae U.exports.length ce] 42) = w1 at *
  have HA := hid hA
  have HB := hid hW
  have HU := hid (BufferV.ext h0 hW)
  obtain ⟨⟨a0, a1⟩, -⟩ := HA.out.all2
  clear hA hW hc
  go_wp2_with fail
  refine (validBuffer_any _ U _ HU.out).mono ?_; rintro e w2 ⟨rfl, hb⟩
  have HA2 := hid (HA.out.ext hb HA.out.lt)
  have HB2 := hid (HB.out.nx hb HB.out.size)
  have HU2 := hid (BufferV.ext HU.out hb)
  clear a0 a1 hb
  obtain ⟨⟨a0, a1⟩, -⟩ := HA2.out.all2
  rw [hok]
  go_wp2_with fail
  refine (sIsOpen_any _ U id _ HU2.out).mono ?_; rintro e w3 ⟨rfl, hb⟩
  have HA3 := hid (HA2.out.ext hb HA2.out.lt)
  have HB3 := hid (HB2.out.nx hb HB2.out.size)
  have HU3 := hid (BufferV.ext HU2.out hb)
  clear a0 a1 hb
  obtain ⟨⟨a0, a1⟩, -⟩ := HA3.out.all2
  rw [hop]
  have HH := hid (load_holds hok2.1 hok2.2)
  obtain ⟨hi0, hi1, -⟩ := openL_get hok2.2
  obtain ⟨p, hp⟩ : ∃ p : Nat, id = (p : Int) := ⟨id.toNat, by omega⟩
  have hpl : p < U.exports.length := by omega
  rw [hp, Int.toNat_natCast, expAt_get hpl] at HQ HH
  subst hp
  obtain ⟨b, off, u1, u2, rfl, x0, x1, x2, x3, x4, hE⟩ := he.at_ p hpl
  obtain ⟨V, eV⟩ : ∃ V, U.exports[p].view = V := ⟨_, rfl⟩
  have hV := hE.view
  rw [eV] at x1 hV HQ HH
  have HV := hid hV
  clear hE hV x0 x4 eV hok hop hok2
  have hpi : (p : Int) < (U.exports.length : Int) := by omega
  have x1 := (HB3.out.cell (p := ⟨b, off + p * 5 + 1, none⟩) (World.block_lt_of_cell? _ _ x1)).trans x1
  have x2 := (HB3.out.cell (p := ⟨b, off + p * 5 + 2, none⟩) (World.block_lt_of_cell? _ _ x2)).trans x2
  have x3 := (HB3.out.cell (p := ⟨b, off + p * 5 + 3, none⟩) (World.block_lt_of_cell? _ _ x3)).trans x3
  go_upto_region 3 with fail
  clear a0 a1
  have qA := fun x : ExtW w3 => (Blk.ext HA3.out x.h HA3.out.lt).all2.1
  have q1 := fun x : ExtW w3 => (x.h.cell (p := ⟨b, off + p * 5 + 1, none⟩) (World.block_lt_of_cell? _ _ x1)).trans x1
  have q2 := fun x : ExtW w3 => (x.h.cell (p := ⟨b, off + p * 5 + 2, none⟩) (World.block_lt_of_cell? _ _ x2)).trans x2
  have q3 := fun x : ExtW w3 => (x.h.cell (p := ⟨b, off + p * 5 + 3, none⟩) (World.block_lt_of_cell? _ _ x3)).trans x3
  have HVx := hid (fun x : ExtW w3 => HV.out.ext (HB3.out.nx x.h HB3.out.size))
  have HCx := hid (fun x : ExtW w3 => by
    obtain ⟨cv1, ev1, e1, hc1, -⟩ := BufferV.ext HU3.out x.h
    have e2 : .slice Ac U.cells.length cc = cv1 ∧ .slice (some ⟨b, off, none⟩) U.exports.length ce = ev1 := by simpa using e1
    exact e2.1 ▸ hc1)
  clear x1 x2 x3
  refine region_mk 9 (by kernel_rfl) (by kernel_rfl) ?_
  apply Exists.intro
  simp only [List.take_succ_cons, List.take_zero, List.drop_succ_cons, List.drop_zero]
  repeat (first
    | (apply grow_val (by rfl); (focus (intro x; (go_simp; try with_reducible rfl); done)); simp only [Act.put, List.setIfInBounds_toArray, List.set_cons_zero, List.set_cons_succ])
    | (apply grow_skip (by rfl); simp only [Act.put, List.setIfInBounds_toArray, List.set_cons_zero, List.set_cons_succ]))
  apply grow_ints (takenL U.cells (offs V)) (by rfl)
  · intro x hF K Q hK
    go_simp
    (go_at_call 49; refine (load_any _ _ U.cells V _ (HCx.out x) (HVx.out x) HH.out).mono ?_; rintro e w' ⟨v', rfl, ho, hb⟩; exact hK _ _ hb ho)
  intro A8 c8 F8 O8 hF8 hO8
  simp only [Act.put, List.setIfInBounds_toArray, List.set_cons_zero, List.set_cons_succ]
  repeat (first
    | (apply grow_val (by rfl); (focus (intro x; (go_simp; try with_reducible rfl); done)); simp only [Act.put, List.setIfInBounds_toArray, List.set_cons_zero, List.set_cons_succ])
    | (apply grow_skip (by rfl); simp only [Act.put, List.setIfInBounds_toArray, List.set_cons_zero, List.set_cons_succ]))
  refine grow_nil ?_
  rintro ⟨w5, hb5⟩ hF hS
  have ho := hF8 _ (hF 8 (by omega))
  have hb5 : Below w3.heap.size w3 w5 := hb5
  have HO := hid (ho.mono HB3.out.size)
  have HB5 := hid (HB3.out.nx hb5 HB3.out.size)
  clear hF hS hF8 hO8 qA q1 q2 q3 HVx HCx ho hb5
  go_wp2
  go_ret
  exact ⟨_, rfl, by rw [HQ.out]; exact HO.out, HB5.out⟩

theorem sKidsOf_law (v : Value) (U : BL) (d : Int) (w : World) (h : BufferV w v U) (_ : -9223372036854775808 ≤ d ∧ d ≤ 9223372036854775807) :
    Calls Try.prog 28 #[v, .int .i64 d] w (RetOwn w (kidsOfL U d)) := sKidsOf_any v U d w h

theorem sLoadExport_law (v : Value) (U : BL) (d : Int) (w : World) (h : BufferV w v U) (_ : -9223372036854775808 ≤ d ∧ d ≤ 9223372036854775807) :
    Calls Try.prog 16 #[v, .int .i64 d] w (RetOwn w (loadExpL U d)) := sLoadExport_any v U d w h

end Go.Proofs.Ytfiphjifnjnmbaa
