/- The law on unpacked items: the walk. No conditions. -/
import Derived.Test.YtmiamnaholnnoaaQ6
import Derived.Test.YtmiamnaholnnoaaQ7
import Derived.Test.YtmiamnaholnnoaaS6
import Derived.Test.YtmiamnaholnnoaaR4
import Derived.Test.YtmiamnaholnnoaaFJ2
import Derived.Test.YtmiamnaholnnoaaFPi
import Derived.Test.YtmiamnaholnnoaaLE
namespace Go.Proofs.Ytmiamnaholnnoaa
open Go.RowKit

theorem unpackedL_ok {F : FL} {bs : List Int} (h : okBytes F bs = true) : packedL F (unpackedL F bs) = packL F (unpackL F bs) ∧ (packedL F (unpackedL F bs)).length = bs.length ∧ (unpackedL F bs).length = F.sizes.length := by
  have hF := (okBytes_and h).1
  have e : unpackedL F bs = unpackL F bs := by simp [unpackedL, h]
  have e2 : packedL F (unpackedL F bs) = packL F (unpackL F bs) := by rw [e]; simp [packedL, hF, okItem_unpack h]
  refine ⟨e2, ?_, by rw [e]; simp [unpackL, unpackTo]⟩
  have := (okBytes_and h).2.1
  have := size_bd hF
  rw [e2, packL_len' hF]
  omega

set_option maxRecDepth 100000 in
set_option maxHeartbeats 6400000 in
theorem FnUnpackItem_walk (v : Value) (n : Nat) (w : World) (h : BytesV w v n) :
    Calls Try.prog 5 #[v] w fun e w' => e = .returned (.bool true) ∧ Below w.heap.size w w' := by
  have hv := h
  obtain ⟨A, c, rfl, h1, h2, -⟩ := h
  by_cases hn : 1048576 < n
  · have hni : (1048576 : Int) < (n : Int) := by omega
    go_enter Try.func5, Try.ntmps5
    go_wp2
    go_ret
    exact ⟨rfl, Below.refl _ _⟩
  have hni : ¬ (1048576 : Int) < (n : Int) := by omega
  go_enter Try.func5, Try.ntmps5
  go_wp2_with fail
  refine (DrawUnpackItem_any _ n _ hv).mono ?_; rintro e w1 ⟨F, sv, vv, bs, rfl, hl, hS, hV, hvl, hb1⟩
  obtain ⟨A1, c1, rfl⟩ := hS.form
  obtain ⟨A2, c2, rfl⟩ := hV.form
  have hBx := FBox.new hS
  have hb2 := below_alloc w1 (.cells #[.slice A1 F.sizes.length c1, .bool F.big, .bool F.aligned] 25)
  have hz := hb1.nx hb2 hb1.size
  have hV := hV.nx hb2
  clear hb1 hb2 hS
  have HL := hid (And.intro hl hvl)
  clear hl hvl
  go_wp2_with fail
  generalize w1.alloc (.cells #[.slice A1 F.sizes.length c1, .bool F.big, .bool F.aligned] 25) = w2 at *
  refine (UnpackItem_any _ _ F bs _ hBx.format hV).mono ?_; rintro e w3 ⟨u, rfl, hu, hb⟩
  obtain ⟨Au, cu, rfl⟩ := hu.form
  have hBx := hBx.nx hb
  have hz := hz.nx hb hz.size
  have hV := hV.nx hb
  clear hb
  obtain ⟨⟨q0, q1, q2⟩, -⟩ := id hBx.blk.all3
  go_wp2_with fail
  refine (sUnpackItem_any _ _ F bs _ hBx.format hV).mono ?_; rintro e w4 ⟨u2, rfl, hu2, hb⟩
  obtain ⟨Ax, cx, rfl⟩ := hu2.form
  have hBx := hBx.nx hb
  have hz := hz.nx hb hz.size
  have hV := hV.nx hb
  have hu := hu.nx hb
  clear hb q0 q1 q2
  go_wp2_with fail
  refine (equalInts_same _ _ _ _ hu.ints hu2.ints).mono ?_; rintro e w5 ⟨rfl, hb⟩
  have hBx := hBx.nx hb
  have hz := hz.nx hb hz.size
  have hV := hV.nx hb
  have hu := hu.nx hb
  have hu2 := hu2.nx hb
  clear hb
  cases hok : okBytes F bs
  · clear hok
    go_wp2_with fail
    refine (equalInts_same _ _ _ _ hu.ints hu2.ints).mono ?_; rintro e w6 ⟨rfl, hb⟩
    go_wp2
    go_ret
    exact ⟨rfl, hz.nx hb hz.size⟩
  · have HOK := hid hok
    have HU := hid (unpackedL_ok hok)
    have HPU := hid (pack_unpack hok)
    clear hok
    obtain ⟨⟨q0, q1, q2⟩, -⟩ := id hBx.blk.all3
    go_wp2_with fail
    refine (PackItem_any _ _ F (unpackedL F bs) _ hBx.format hu.ints).mono ?_; rintro e w6 ⟨p1, rfl, hp, hb⟩
    have hBx := hBx.nx hb
    have hz := hz.nx hb hz.size
    have hV := hV.nx hb
    clear hb q0 q1 q2
    obtain ⟨⟨q0, q1, q2⟩, -⟩ := id hBx.blk.all3
    obtain ⟨Ap, cp, rfl⟩ := hp.form
    go_wp2_with fail
    refine (PaddingOf_any _ F _ hBx.format).mono ?_; rintro e w7 ⟨pd, rfl, hpd, hb⟩
    have hp := hp.nx hb
    have hBx := hBx.nx hb
    have hz := hz.nx hb hz.size
    have hV := hV.nx hb
    clear q0 q1 q2 hb
    obtain ⟨Aq, cq, rfl⟩ := hpd.form
    have hbl := HL.out.2
    go_wp2_with fail
    go_loopg [11] bs.length (fun m i wr => ∃ k : Nat, k ≤ bs.length ∧ m = bs.length - k ∧ i = .int .i64 k ∧ Below w7.heap.size w7 wr)
    case atStart => exact ⟨0, Nat.zero_le _, rfl, rfl, Below.refl _ _⟩
    case round =>
      obtain ⟨k, hk, hm, rfl, hB⟩ := hrel
      have HMm := hid hm
      clear hm
      have hp := hp.nx hB
      have hpd := hpd.nx hB
      have hV := hV.nx hB
      have hBx := hBx.nx hB
      have HB := hid hB
      clear hB
      by_cases hlt : k < bs.length
      · have hki : (k : Int) < (bs.length : Int) := by omega
        cases hin : decide ((k : Int) ∈ padL F)
        · have HQ : ∀ N, Calls Try.prog 15 #[.slice Aq (padL F).length cq, .int .i64 k] (wr.drewN N) fun e w' => e = .returned (.bool false) ∧ w' = wr.drewN N := fun N => by
            have := (isIn_any _ (padL F) k _ (hpd.ints.nx (below_drewN wr N)))
            rw [hin] at this
            exact this.mono fun _ _ h => ⟨h.1, h.2.symm⟩
          have hpu := HPU.out k hlt (by simpa using hin)
          rw [← HU.out.1] at hpu
          have hkp : k < (packedL F (unpackedL F bs)).length := by rw [HU.out.2.1]; exact hlt
          obtain ⟨b1, off1, rfl, hx⟩ := hV.elem k hlt
          obtain ⟨b2, off2, rfl, hy⟩ := hp.ints.elem k hkp
          rw [List.getElem?_eq_getElem hkp, List.getElem?_eq_getElem hlt] at hpu
          injection hpu with hpu
          rw [hpu] at hy
          generalize bs[k] = x at *
          have hkpi : (k : Int) < ((packedL F (unpackedL F bs)).length : Int) := by omega
          have HQQ := hid HQ
          clear hpu hin HQ
          go_wp2_with fail
          go_quiet ((go_at_call 15; exact Calls.quiet_of_same (HQQ.out _)))
          go_wp2
          go_roundg (bs.length - (k + 1))
          case measure => have := HMm.out; omega
          case rel => exact ⟨k + 1, by omega, rfl, by go_num, HB.out.trans ((below_drewN _ _).mono HB.out.size)⟩
        · have HQ : ∀ N, Calls Try.prog 15 #[.slice Aq (padL F).length cq, .int .i64 k] (wr.drewN N) fun e w' => e = .returned (.bool true) ∧ w' = wr.drewN N := fun N => by
            have := (isIn_any _ (padL F) k _ (hpd.ints.nx (below_drewN wr N)))
            rw [hin] at this
            exact this.mono fun _ _ h => ⟨h.1, h.2.symm⟩
          have HQQ := hid HQ
          clear hin HQ
          go_wp2_with fail
          go_quiet ((go_at_call 15; exact Calls.quiet_of_same (HQQ.out _)))
          go_wp2
          go_roundg (bs.length - (k + 1))
          case measure => have := HMm.out; omega
          case rel => exact ⟨k + 1, by omega, rfl, by go_num, HB.out.trans ((below_drewN _ _).mono HB.out.size)⟩
      · have hki : ¬ (k : Int) < (bs.length : Int) := by omega
        have hz := hz.nx HB.out hz.size
        obtain ⟨⟨q0, q1, q2⟩, -⟩ := id hBx.blk.all3
        have h1 : (((packedL F (unpackedL F bs)).length : Int) == (bs.length : Int)) = true := by rw [HU.out.2.1]; simp
        have h2 : (((unpackedL F bs).length : Int) == (F.sizes.length : Int)) = true := by rw [HU.out.2.2]; simp
        go_wp2
        go_ret
        exact ⟨rfl, hz⟩

end Go.Proofs.Ytmiamnaholnnoaa
