/- Contract: padding, the reference's. No conditions. -/
import Derived.Test.YtmiamnaholnnoaaQ4
import Derived.Deep.Cut
import Derived.Deep.LoopGhost
namespace Go.Proofs.Ytmiamnaholnnoaa
open Go.RowKit

theorem inRange_quietF (n lo hi : Int) (w : World) :
    Calls Try.prog 44 #[.int .i64 n, .int .i64 lo, .int .i64 hi] w fun e w' => e = .returned (.bool (inR n lo hi)) ∧ w' = w := (inRange_any n lo hi w).mono fun _ _ h => ⟨h.1, h.2.symm⟩

set_option maxRecDepth 100000 in
set_option maxHeartbeats 6400000 in
theorem sPaddingOf_any (v : Value) (F : FL) (w : World) (hv : FormatV w v F) :
    Calls Try.prog 12 #[v] w (RetOwn w (padL F)) := by
  obtain ⟨A, c, rfl, hk, hm, h0⟩ := hv.form
  have HB := FBox.new h0
  cases hok : isFormatL F
  · have HQ := hid (show padL F = [] by simp [padL, hok])
    go_enter Try.func12, Try.ntmps12
    go_wp2_with fail
    generalize w.alloc (.cells #[.slice A F.sizes.length c, .bool F.big, .bool F.aligned] 25) = W1 at *
    refine (validFormat_any _ F _ HB.format).mono ?_; rintro e w1 ⟨rfl, hb1⟩
    have HB1 := HB.nx hb1
    rw [hok]
    go_wp2
    go_ret
    rw [HQ.out]
    exact ⟨_, rfl, Own.nil _ _, HB1.below⟩
  have HQ := hid (show padL F = padTo (psF F) F.sizes (sizeF F).toNat by simp [padL, hok])
  have hsb := size_bd hok
  have hpl := psF_length hok
  have hin := hid (psF_in hok)
  have hl5 := (isFormat_iff.1 hok).2.1
  obtain ⟨n, hn⟩ : ∃ n : Nat, sizeF F = n := ⟨(sizeF F).toNat, by omega⟩
  have HN := hid hn
  have hnb : n ≤ 38 := by omega
  go_enter Try.func12, Try.ntmps12
  go_wp2_with fail
  generalize w.alloc (.cells #[.slice A F.sizes.length c, .bool F.big, .bool F.aligned] 25) = W1 at *
  refine (validFormat_any _ F _ HB.format).mono ?_; rintro e w1 ⟨rfl, hb1⟩
  have HB1 := HB.nx hb1
  have HOK := hid hok
  rw [hok]
  obtain ⟨⟨q1, q2, q3⟩, r1, r2, r3⟩ := HB1.blk.all3
  go_wp2_with fail
  refine (places_any _ F _ HB1.format HOK.out).mono ?_; rintro e w2 ⟨v1, rfl, hP, hb2⟩
  clear q1 q2 q3 r1 r2 r3
  have HB2 := HB1.nx hb2
  obtain ⟨A1, c1, e1⟩ := hP.form
  subst e1
  rw [hn]
  have hPI := hid hP.ints
  have hz1 := HB1.size
  have hz2 := hb2.size
  have hPL := hid hpl
  clear hok hP HB HB1 h0 hv hb1 hb2 hn
  go_upto_region 6 with fail
  go_loopg [5, 6] n (fun g out x wr => ∃ k : Nat, k ≤ n ∧ g = n - k ∧ x = .int .i64 k ∧ Own wr w2.heap.size out (padTo (psF F) F.sizes k) ∧ Below w2.heap.size w2 wr)
  case atStart => exact ⟨0, Nat.zero_le _, rfl, rfl, Own.empty w2 rfl (Nat.le_refl _), below_alloc w2 _⟩
  case round =>
    obtain ⟨k, hk1, rfl, rfl, hown, hbw⟩ := hrel
    have HBr := HB2.nx hbw
    have hPr := hPI.out.ext hbw
    by_cases hlt : k < n
    · have HIN := hid (padTo_in (P := psF F) (xs := F.sizes) (n := k))
      have HOUT := hid (padTo_out (P := psF F) (xs := F.sizes) (n := k))
      have HL1 := hid (show (padTo (psF F) F.sizes k).length ≤ 1000000000000 by have := padTo_length (psF F) F.sizes k; omega)
      have HO := hid hown
      have hzr := hbw.size
      clear hown hpl
      obtain ⟨wo, rfl⟩ : ∃ wo : World, wo = wr := ⟨_, rfl⟩
      go_wp2_with fail
      go_loopg [7, 8] F.sizes.length (fun g met i wr => ∃ j : Nat, j ≤ F.sizes.length ∧ g = F.sizes.length - j ∧ i = .int .i64 j ∧ met = .bool (inFieldB (psF F) F.sizes k j) ∧ Below wo.heap.size wo wr)
      case atStart => exact ⟨0, Nat.zero_le _, rfl, rfl, rfl, Below.refl _ _⟩
      case round =>
        obtain ⟨j, hj1, rfl, rfl, rfl, hbi⟩ := hrel
        have HBi := HBr.nx hbi
        obtain ⟨⟨q1, q2, q3⟩, r1, r2, r3⟩ := HBi.blk.all3
        by_cases hlt2 : j < F.sizes.length
        · have hlp : j < (psF F).length := by rw [hPL.out]; exact hlt2
          obtain ⟨b, off, rfl, hx⟩ := HBi.elem j hlt2
          obtain ⟨b1, off1, rfl, hy⟩ := (hPr.ext hbi).elem j hlp
          have HS := hid (inFieldB_succ (psF F) F.sizes k j)
          have hbd := hin.out j hlt2
          have e1 : (psF F).getD j 0 = (psF F)[j] := by simp [hlp]
          have e2 : F.sizes.getD j 0 = F.sizes[j] := by simp [hlt2]
          rw [e1, e2] at HS
          rw [e1] at hbd
          generalize (psF F)[j] = p at *
          generalize F.sizes[j] = s at *
          clear e1 e2
          have hw1 : IntKind.i64.wrap (p + s) = p + s := IntWalk.i64_in _ (by omega)
          have hw2 : IntKind.i64.wrap (p + s - 1) = p + s - 1 := IntWalk.i64_in _ (by omega)
          have hji : (j : Int) < (F.sizes.length : Int) := by omega
          have hjp : (j : Int) < ((psF F).length : Int) := by omega
          have hj0 : (0 : Int) ≤ (j : Int) := by omega
          cases hmt : inFieldB (psF F) F.sizes k j
          · rw [hmt] at HS
            clear hmt
            go_wp2_with fail
            go_quiet ((go_at_call 44; exact Calls.quiet_of_same (inRange_quietF _ _ _ _)))
            go_wp2
            go_roundg (F.sizes.length - (j + 1))
            case rel => exact ⟨j + 1, by omega, rfl, by go_num, by rw [HS.out]; rfl, hbi.trans ((below_drewN wr _).mono hbi.size)⟩
            case measure => omega
          · rw [hmt] at HS
            clear hmt
            go_wp2_with fail
            go_quiet (fail)
            go_wp2
            go_roundg (F.sizes.length - (j + 1))
            case rel => exact ⟨j + 1, by omega, rfl, by go_num, by rw [HS.out]; rfl, hbi.trans ((below_drewN wr _).mono hbi.size)⟩
            case measure => omega
        · obtain rfl : j = F.sizes.length := by omega
          cases hmt : inFieldB (psF F) F.sizes k F.sizes.length
          · have HE := hid (HOUT.out hmt)
            clear hmt
            have hon := HO.out.ext hbi
            have hsz1 : w2.heap.size ≤ wr.heap.size := by have := hbi.size; omega
            have HP := hid hon
            clear hon
            go_wp2_with (at_builtin; refine app1 _ rfl _ _ rfl w2.heap.size _ (padTo (psF F) F.sizes k) rfl (HP.out.alloc _) ⟨wr.heap.size, 0, none⟩ 1 k rfl (cell_new1 _ _ _) HL1.out (le_alloc hsz1 _) ?_)
            intro v1 w1 ho1 hg1 hat1
            have hq := (hbw.trans (hbi.mono hzr)).trans (((below_alloc wr (.cells #[.int .i64 k] 3)).mono hsz1).trans ((HP.out.alloc _).under hg1 (le_alloc hsz1 _)))
            clear q1 q2 q3 r1 r2 r3
            have HAT := hid hat1
            clear hat1 hg1
            go_wp2
            go_roundg (n - (k + 1))
            case rel => exact ⟨k + 1, by omega, rfl, by go_num, by rw [HE.out]; exact ho1, hq⟩
            case measure => omega
          · have HE := hid (HIN.out hmt)
            clear hmt
            have hon := HO.out.ext hbi
            have hq := hbw.trans (hbi.mono hzr)
            have HP := hid hon
            clear hon
            go_wp2
            go_roundg (n - (k + 1))
            case rel => exact ⟨k + 1, by omega, rfl, by go_num, by rw [HE.out]; exact HP.out, hq⟩
            case measure => omega
    · obtain rfl : k = n := by omega
      have HR := hid (show padTo (psF F) F.sizes k = padL F by rw [HQ.out, HN.out]; rfl)
      rw [HR.out] at hown
      have hb := HBr.below
      have HO := hid hown
      clear hown
      go_wp2
      go_ret
      exact ⟨_, rfl, HO.out.mono (by omega), hb⟩

end Go.Proofs.Ytmiamnaholnnoaa
