/- Contracts: valid items, both. No conditions. -/
import Derived.Test.YtmiamnaholnnoaaQB
import Derived.Test.YtmiamnaholnnoaaQ3
import Derived.Deep.Cut
import Derived.Deep.LoopGhost
namespace Go.Proofs.Ytmiamnaholnnoaa
open Go.RowKit

theorem pow_bd {s : Nat} (hs : s ≤ 4) : (1 : Int) ≤ 256 ^ s ∧ (256 : Int) ^ s ≤ 4294967296 := by
  have : s = 0 ∨ s = 1 ∨ s = 2 ∨ s = 3 ∨ s = 4 := by omega
  rcases this with rfl | rfl | rfl | rfl | rfl <;> decide
theorem pow_wrap {s : Nat} (hs : s ≤ 4) : wrap64 (2 ^ (8 * s)) = 256 ^ s := by
  have : s = 0 ∨ s = 1 ∨ s = 2 ∨ s = 3 ∨ s = 4 := by omega
  rcases this with rfl | rfl | rfl | rfl | rfl <;> exact (IntWalk.wrap64_in _ ⟨by decide, by decide⟩).trans (by decide)
set_option maxRecDepth 100000 in
set_option maxHeartbeats 800000 in
theorem power_any (s : Nat) (w : World) (hs : s ≤ 4) :
    Calls Try.prog 69 #[.int .i64 s] w fun e w' => e = .returned (.int .i64 (256 ^ s)) ∧ w = w' := by
  go_enter Try.func69, Try.ntmps69
  go_wp2
  go_loop [3, 4] (fun n i => ∃ k : Nat, k ≤ s ∧ i = .int .i64 k ∧ n = .int .i64 (256 ^ k)) (fun _ i => s - (intOf i).toNat)
  case atStart => exact ⟨0, Nat.zero_le _, rfl, rfl⟩
  case round =>
    obtain ⟨k, hk, rfl, rfl⟩ := hrel
    by_cases hlt : k < s
    · have HS := hid (Int.pow_succ (256 : Int) k)
      have hb := pow_bd (s := k) (by omega)
      generalize (256 : Int) ^ k = N at *
      go_wp2
      go_round
      case rel => exact ⟨k + 1, by omega, by go_num, by rw [HS.out]⟩
      case measure => simp [intOf]; omega
    · obtain rfl : k = s := by omega
      go_wp2
      go_ret
      exact ⟨rfl, rfl⟩
theorem power_quiet (s : Nat) (w : World) (hs : s ≤ 4) : Calls Try.prog 69 #[.int .i64 s] w fun e w' => e = .returned (.int .i64 (256 ^ s)) ∧ w' = w := (power_any s w hs).mono fun _ _ h => ⟨h.1, h.2.symm⟩
theorem inRange_quietV (n lo hi : Int) (w : World) :
    Calls Try.prog 44 #[.int .i64 n, .int .i64 lo, .int .i64 hi] w fun e w' => e = .returned (.bool (inR n lo hi)) ∧ w' = w := (inRange_any n lo hi w).mono fun _ _ h => ⟨h.1, h.2.symm⟩

/-- The value of field k is in range. -/
def okVal (F : FL) (vs : List Int) (k : Nat) : Bool := inR (vs.getD k 0) 0 (256 ^ (F.sizes.getD k 0).toNat - 1)
theorem okItem_eq (F : FL) (vs : List Int) : okItem F vs = (decide (vs.length = F.sizes.length) && (List.range F.sizes.length).all (okVal F vs)) := rfl
theorem okTo_succ (F : FL) (vs : List Int) (k : Nat) : (List.range (k + 1)).all (okVal F vs) = ((List.range k).all (okVal F vs) && okVal F vs k) := by simp [List.range_succ]
theorem okItem_bad {F : FL} {vs : List Int} {k : Nat} (hk : k < F.sizes.length) (h : okVal F vs k = false) : okItem F vs = false := by
  rw [okItem_eq]
  have : (List.range F.sizes.length).all (okVal F vs) = false := by
    rw [List.all_eq_false]
    exact ⟨k, List.mem_range.2 hk, by simp [h]⟩
  rw [this, Bool.and_false]
theorem okVal_at {F : FL} {vs : List Int} {k s : Nat} {x : Int} (hv : vs[k]? = some x) (hs : F.sizes[k]? = some (s : Int)) : okVal F vs k = inR x 0 (256 ^ s - 1) := by
  simp [okVal, List.getD_eq_getElem?_getD, hv, hs]

set_option maxRecDepth 100000 in
set_option maxHeartbeats 6400000 in
theorem validItem_any (v vb : Value) (F : FL) (vs : List Int) (w : World) (hv : FormatV w v F) (hbs : Ints w vb vs) (hok : isFormatL F = true) :
    Calls Try.prog 48 #[v, vb] w fun e w' => e = .returned (.bool (okItem F vs)) ∧ Below w.heap.size w w' := by
  obtain ⟨A, c, rfl, hk, hm, h0⟩ := hv.form
  have hbs0 := hbs
  obtain ⟨Ab, cb, rfl, hkb, hmb, -⟩ := hbs
  unfold maxLen at hmb
  have hsz := hid (isFormat_iff.1 hok).2.2
  have hl5 := (isFormat_iff.1 hok).2.1
  have HB := FBox.new h0
  by_cases hl : vs.length = F.sizes.length
  case neg =>
    have HQ := hid (show okItem F vs = false by simp [okItem, hl])
    have hne : ((vs.length : Int) != (F.sizes.length : Int)) = true := by simp; omega
    go_enter Try.func48, Try.ntmps48
    go_wp2_with fail
    generalize w.alloc (.cells #[.slice A F.sizes.length c, .bool F.big, .bool F.aligned] 25) = W1 at *
    go_wp2
    go_ret
    exact ⟨ret_bool HQ.out.symm, HB.below⟩
  have HQ := hid (show okItem F vs = (List.range F.sizes.length).all (okVal F vs) by rw [okItem_eq]; simp [hl])
  have hne : ((vs.length : Int) != (F.sizes.length : Int)) = false := by simp [hl]
  have HL := hid hl
  have hv5 : vs.length ≤ 5 := by omega
  clear hl
  go_enter Try.func48, Try.ntmps48
  go_upto_region 4 with fail
  generalize w.alloc (.cells #[.slice A F.sizes.length c, .bool F.big, .bool F.aligned] 25) = W1 at *
  go_loopg [5] vs.length (fun g i wr => ∃ k : Nat, k ≤ vs.length ∧ g = vs.length - k ∧ i = .int .i64 k ∧ (List.range k).all (okVal F vs) = true ∧ Below W1.heap.size W1 wr)
  case atStart => exact ⟨0, Nat.zero_le _, rfl, rfl, rfl, Below.refl _ _⟩
  case round =>
    obtain ⟨k, hk1, rfl, rfl, ha, hbw⟩ := hrel
    have HBr := HB.nx hbw
    by_cases hlt : k < vs.length
    · have hlt2 : k < F.sizes.length := by rw [← HL.out]; exact hlt
      obtain ⟨b, off, rfl, hx⟩ := HBr.elem k hlt2
      obtain ⟨b1, off1, rfl, hy⟩ := Ints.elem (hbs0.ext HBr.below) k hlt
      have hs1 := hsz.out F.sizes[k] (List.getElem_mem hlt2)
      obtain ⟨s, hs⟩ : ∃ s : Nat, F.sizes[k] = s := ⟨F.sizes[k].toNat, by omega⟩
      have HV := okVal_at (F := F) (vs := vs) (k := k) (s := s) (x := vs[k]) (by simp [hlt]) (by simp [hlt2, hs])
      rw [hs] at hx hs1
      have hs4 : s ≤ 4 := by omega
      have hpb := pow_bd hs4
      have HS := hid (okTo_succ F vs k)
      have HA := hid ha
      have HF := hid (okItem_bad (vs := vs) hlt2)
      generalize vs[k] = x at *
      obtain ⟨⟨q1, q2, q3⟩, r1, r2, r3⟩ := HBr.blk.all3
      have hki : (k : Int) < (F.sizes.length : Int) := by omega
      have hkv : (k : Int) < (vs.length : Int) := by omega
      have hw1 : IntKind.i64.wrap ((256 : Int) ^ s - 1) = (256 : Int) ^ s - 1 := IntWalk.i64_in _ (by omega)
      clear ha hs
      cases hp : inR x 0 (256 ^ s - 1)
      · have HX := hid (HF.out (HV.trans hp))
        have HP := hid hp
        clear hp HV
        go_upto_region 6 with fail
        go_quiet (first | (go_at_call 69; exact Calls.quiet_of_same (power_quiet s _ hs4)) | (go_at_call 44; exact Calls.quiet_of_same (inRange_quietV _ _ _ _)))
        rw [HP.out]
        go_wp2
        go_ret
        exact ⟨ret_bool HX.out.symm, HBr.below.trans ((below_drewN wr _).mono HBr.below.size)⟩
      · have HP := hid hp
        have HV := hid HV
        clear hp
        go_upto_region 6 with fail
        go_quiet (first | (go_at_call 69; exact Calls.quiet_of_same (power_quiet s _ hs4)) | (go_at_call 44; exact Calls.quiet_of_same (inRange_quietV _ _ _ _)))
        rw [HP.out]
        go_wp2
        go_roundg (vs.length - (k + 1))
        case rel => exact ⟨k + 1, by omega, rfl, by go_num, by rw [HS.out, HA.out, HV.out, HP.out]; rfl, hbw.trans ((below_drewN wr _).mono hbw.size)⟩
        case measure => omega
    · obtain rfl : vs.length = k := by omega
      have HA := hid (show okItem F vs = true by rw [HQ.out, ← HL.out]; exact ha)
      have hb := HBr.below
      clear ha
      go_wp2
      go_ret
      exact ⟨ret_bool HA.out.symm, hb⟩

set_option maxRecDepth 100000 in
set_option maxHeartbeats 6400000 in
theorem areFields_any (v vb : Value) (F : FL) (vs : List Int) (w : World) (hv : FormatV w v F) (hbs : Ints w vb vs) (hok : isFormatL F = true) :
    Calls Try.prog 46 #[v, vb] w fun e w' => e = .returned (.bool (okItem F vs)) ∧ Below w.heap.size w w' := by
  obtain ⟨A, c, rfl, hk, hm, h0⟩ := hv.form
  have hbs0 := hbs
  obtain ⟨Ab, cb, rfl, hkb, hmb, -⟩ := hbs
  unfold maxLen at hmb
  have hsz := hid (isFormat_iff.1 hok).2.2
  have hl5 := (isFormat_iff.1 hok).2.1
  have HB := FBox.new h0
  by_cases hl : vs.length = F.sizes.length
  case neg =>
    have HQ := hid (show okItem F vs = false by simp [okItem, hl])
    have hne : ((vs.length : Int) != (F.sizes.length : Int)) = true := by simp; omega
    go_enter Try.func46, Try.ntmps46
    go_wp2_with fail
    generalize w.alloc (.cells #[.slice A F.sizes.length c, .bool F.big, .bool F.aligned] 25) = W1 at *
    go_wp2
    go_ret
    exact ⟨ret_bool HQ.out.symm, HB.below⟩
  have HQ := hid (show okItem F vs = (List.range F.sizes.length).all (okVal F vs) by rw [okItem_eq]; simp [hl])
  have hne : ((vs.length : Int) != (F.sizes.length : Int)) = false := by simp [hl]
  have HL := hid hl
  have hv5 : vs.length ≤ 5 := by omega
  clear hl
  go_enter Try.func46, Try.ntmps46
  go_upto_region 4 with fail
  generalize w.alloc (.cells #[.slice A F.sizes.length c, .bool F.big, .bool F.aligned] 25) = W1 at *
  obtain ⟨⟨q1, q2, q3⟩, r1, r2, r3⟩ := HB.blk.all3
  go_loop [15] (fun i => ∃ k : Nat, k ≤ vs.length ∧ i = .int .i64 k ∧ (List.range k).all (okVal F vs) = true) (fun i => vs.length - (intOf i).toNat)
  case atStart => exact ⟨0, Nat.zero_le _, rfl, rfl⟩
  case round =>
    obtain ⟨k, hk1, rfl, ha⟩ := hrel
    by_cases hlt : k < vs.length
    · have hlt2 : k < F.sizes.length := by rw [← HL.out]; exact hlt
      obtain ⟨b, off, rfl, hx⟩ := HB.elem k hlt2
      obtain ⟨b1, off1, rfl, hy⟩ := Ints.elem (hbs0.ext HB.below) k hlt
      have hs1 := hsz.out F.sizes[k] (List.getElem_mem hlt2)
      obtain ⟨s, hs⟩ : ∃ s : Nat, F.sizes[k] = s := ⟨F.sizes[k].toNat, by omega⟩
      have HV := okVal_at (F := F) (vs := vs) (k := k) (s := s) (x := vs[k]) (by simp [hlt]) (by simp [hlt2, hs])
      rw [hs] at hx hs1
      have hs4 : s ≤ 4 := by omega
      have HS := hid (okTo_succ F vs k)
      have HA := hid ha
      have HF := hid (okItem_bad (vs := vs) hlt2)
      generalize vs[k] = x at *
      clear ha hs
      by_cases hneg : x < 0
      · have HX := hid (HF.out (HV.trans (inR_no (.inl hneg))))
        clear HV
        go_wp2
        go_ret
        exact ⟨ret_bool HX.out.symm, HB.below⟩
      have hs0 : ¬ 8 * (s : Int) < 0 := by omega
      have hpw := pow_wrap hs4
      by_cases hge : wrap64 (2 ^ (8 * s)) ≤ x
      · have HX := hid (HF.out (HV.trans (inR_no (.inr (by omega)))))
        clear HV hpw
        go_wp2
        go_ret
        exact ⟨ret_bool HX.out.symm, HB.below⟩
      · have HP := hid (HV.trans (inR_yes (by omega) (by omega)))
        clear HV hpw
        go_wp2
        go_round
        case rel => exact ⟨k + 1, by omega, by go_num, by rw [HS.out, HA.out, HP.out]; rfl⟩
        case measure => simp [intOf]; omega
    · obtain rfl : vs.length = k := by omega
      have HA := hid (show okItem F vs = true by rw [HQ.out, ← HL.out]; exact ha)
      have hb := HB.below
      clear ha
      go_wp2
      go_ret
      exact ⟨ret_bool HA.out.symm, hb⟩

end Go.Proofs.Ytmiamnaholnnoaa
