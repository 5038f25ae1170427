/- The law on padding: the walk. No conditions. -/
import Derived.Test.YtmiamnaholnnoaaQ6
import Derived.Test.YtmiamnaholnnoaaQ7
import Derived.Test.YtmiamnaholnnoaaFP1
import Derived.Test.YtmiamnaholnnoaaFPp
import Derived.Test.YtmiamnaholnnoaaLE
namespace Go.Proofs.Ytmiamnaholnnoaa
open Go.RowKit

set_option maxRecDepth 100000 in
set_option maxHeartbeats 6400000 in
theorem FnPaddingOf_walk (v : Value) (n : Nat) (w : World) (h : BytesV w v n) :
    Calls Try.prog 3 #[v] w fun e w' => e = .returned (.bool true) ∧ Below w.heap.size w w' := by
  have hv := h
  obtain ⟨A, c, rfl, h1, h2, -⟩ := h
  by_cases hn : 1048576 < n
  · have hni : (1048576 : Int) < (n : Int) := by omega
    go_enter Try.func3, Try.ntmps3
    go_wp2
    go_ret
    exact ⟨rfl, Below.refl _ _⟩
  have hni : ¬ (1048576 : Int) < (n : Int) := by omega
  go_enter Try.func3, Try.ntmps3
  go_wp2_with fail
  refine (DrawPaddingOf_any _ n _ hv).mono ?_; rintro e w1 ⟨F, sv, rfl, hl, hO, hb1⟩
  obtain ⟨A1, c1, rfl⟩ := hO.form
  have hBx := FBox.new hO.ints
  have hz2 := hb1.nx (below_alloc w1 (.cells #[.slice A1 F.sizes.length c1, .bool F.big, .bool F.aligned] 25)) hb1.size
  clear hO hb1
  have HL := hid hl
  clear hl
  go_wp2_with fail
  generalize w1.alloc (.cells #[.slice A1 F.sizes.length c1, .bool F.big, .bool F.aligned] 25) = w2 at *
  refine (PaddingOf_any _ F _ hBx.format).mono ?_; rintro e w3 ⟨p1, rfl, hp1, hb3⟩
  have hBx3 := hBx.nx hb3
  have hz3 := hz2.nx hb3 hz2.size
  obtain ⟨⟨q0, q1, q2⟩, -⟩ := id hBx3.blk.all3
  clear hBx hb3 hz2
  obtain ⟨Ap, cp, rfl⟩ := hp1.form
  go_wp2_with fail
  refine (sPaddingOf_any _ F _ hBx3.format).mono ?_; rintro e w4 ⟨p2, rfl, hp2, hb4⟩
  have hp14 := hp1.nx hb4
  have hBx4 := hBx3.nx hb4
  have hz4 := hz3.nx hb4 hz3.size
  clear q0 q1 q2 hBx3 hb4 hz3 hp1
  obtain ⟨⟨q0, q1, q2⟩, -⟩ := id hBx4.blk.all3
  go_wp2_with fail
  refine (equalInts_same _ _ _ _ hp14.ints hp2.ints).mono ?_; rintro e w5 ⟨rfl, hb5⟩
  have hp15 := hp14.nx hb5
  have hBx5 := hBx4.nx hb5
  have hz5 := hz4.nx hb5 hz4.size
  clear q0 q1 q2 hBx4 hb5 hz4 hp14 hp2
  obtain ⟨⟨q0, q1, q2⟩, -⟩ := id hBx5.blk.all3
  go_wp2_with fail
  refine (ValidFormat_any _ F _ hBx5.format).mono ?_; rintro e w6 ⟨rfl, hb6⟩
  have hp16 := hp15.nx hb6
  have hBx6 := hBx5.nx hb6
  have hz6 := hz5.nx hb6 hz5.size
  clear q0 q1 q2 hBx5 hb6 hz5 hp15
  obtain ⟨⟨q0, q1, q2⟩, -⟩ := id hBx6.blk.all3
  cases hok : isFormatL F
  · clear hok
    go_wp2_with fail
    refine (sPaddingOf_any _ F _ hBx6.format).mono ?_; rintro e w7 ⟨p2, rfl, hp2, hb7⟩
    have hz7 := hz6.nx hb7 hz6.size
    have hp17 := hp16.nx hb7
    go_wp2_with fail
    refine (equalInts_same _ _ _ _ hp17.ints hp2.ints).mono ?_; rintro e w8 ⟨rfl, hb8⟩
    go_wp2
    go_ret
    exact ⟨rfl, hz7.nx hb8 hz7.size⟩
  · have HOK := hid hok
    clear hok
    go_wp2_with fail
    refine (PlacesOf_any _ F _ hBx6.format HOK.out).mono ?_; rintro e w7 ⟨ps, rfl, hps, hb7⟩
    have hz7 := hz6.nx hb7 hz6.size
    have hp17 := hp16.nx hb7
    have hBx7 := hBx6.nx hb7
    clear q0 q1 q2 hBx6 hb7 hz6 hp16
    obtain ⟨Aq, cq, rfl⟩ := hps.form
    have HPL := hid (psF_length HOK.out)
    rw [HPL.out] at hps ⊢
    have HPF := hid (padL_field HOK.out)
    have HN := hid (isFormat_iff.1 HOK.out).1
    have HN5 := hid (isFormat_iff.1 HOK.out).2.1
    have hn5 := HN5.out
    go_wp2_with fail
    go_loopg [6, 7] F.sizes.length (fun m i z wr => ∃ k : Nat, k ≤ F.sizes.length ∧ m = F.sizes.length - k ∧ i = .int .i64 k ∧ Below w7.heap.size w7 wr)
    case atStart => exact ⟨0, Nat.zero_le _, rfl, rfl, Below.refl _ _⟩
    case round =>
      obtain ⟨k, hk, hm, rfl, hB⟩ := hrel
      have HM := hid hm
      clear hm
      have HBr := hBx7.nx hB
      have hPr := hps.ints.ext hB
      have hOr := hp17.nx hB
      have hzr := hz7.nx hB hz7.size
      obtain ⟨⟨q0, q1, q2⟩, r0, r1, r2⟩ := id HBr.blk.all3
      by_cases hlt : k < F.sizes.length
      · have hlp : k < (psF F).length := by rw [HPL.out]; exact hlt
        obtain ⟨b, off, rfl, hx⟩ := HBr.elem k hlt
        obtain ⟨b1, off1, rfl, hy⟩ := hPr.elem k hlp
        have HFK := hid (HPF.out k hlt)
        have HIN := hid (psF_in HOK.out k hlt)
        have e1 : (psF F).getD k 0 = (psF F)[k] := by simp [hlp]
        rw [e1] at HFK HIN
        generalize (psF F)[k] = p at *
        generalize F.sizes[k] = s at *
        clear e1 q0 q1 q2 r0 r1 r2
        have hbd := HIN.out
        have hsz := (size_bd HOK.out).2
        have HPR := hid hPr
        have HB := hid hB
        have HZR := hid hzr
        clear hPr hB hzr
        have hji : (k : Int) < (F.sizes.length : Int) := by omega
        obtain ⟨wo, rfl⟩ : ∃ wo : World, wo = wr := ⟨_, rfl⟩
        go_wp2_with fail
        go_loopg [7] s.toNat (fun m i wr => ∃ j : Nat, (j : Int) ≤ s ∧ m = s.toNat - j ∧ i = .int .i64 j ∧ Below wo.heap.size wo wr)
        case atStart => exact ⟨0, by omega, rfl, rfl, Below.refl _ _⟩
        case round =>
          obtain ⟨j, hj, hm2, rfl, hBi⟩ := hrel
          have HM2 := hid hm2
          clear hm2
          have HBi := HBr.nx hBi
          have hOi := hOr.nx hBi
          obtain ⟨⟨q0, q1, q2⟩, r0, r1, r2⟩ := id HBi.blk.all3
          have hx2 := (hBi.cell (p := ⟨b, off + k, none⟩) (World.block_lt_of_cell? _ _ hx)).trans hx
          have hy2 := (hBi.cell (p := ⟨b1, off1 + k, none⟩) (World.block_lt_of_cell? _ _ hy)).trans hy
          by_cases hjs : (j : Int) < s
          · have hno := HFK.out j (by omega) hjs
            have hw1 : IntKind.i64.wrap (p + j) = p + j := IntWalk.i64_in _ (by omega)
            have HNO := hid hno
            clear hno
            go_wp2_with fail

            refine (isIn_any _ (padL F) (p + j) _ hOi.ints).mono ?_; rintro e w8 ⟨rfl, rfl⟩
            rw [HNO.out]
            go_wp2
            go_roundg (s.toNat - (j + 1))
            case measure => have := HM2.out; omega
            case rel => exact ⟨j + 1, by omega, rfl, by go_num, hBi⟩
          · go_wp2
            go_roundg (F.sizes.length - (k + 1))
            case measure => have := HM.out; omega
            case rel => exact ⟨k + 1, by omega, rfl, by go_num, HB.out.nx hBi HB.out.size⟩
      · have hji : ¬ (k : Int) < (F.sizes.length : Int) := by omega
        have HUP := hid (padL_up F)
        have HDN := hid (padL_dense F)
        cases hal : F.aligned
        · have hL0 : (padL F).length = 0 := by rw [HDN.out hal]; rfl
          clear q0 q1 r0 r1 r2
          have hq2 : wr.cell? { block := w1.heap.size, off := 2 } = some (Value.bool false) := by rw [q2, hal]
          clear q2 hal
          have HAS := hid (ascends_yes _ (padL F) _ hOr.ints HUP.out)
          rw [hL0] at HAS
          go_wp2_with fail
          refine HAS.out.mono ?_; rintro e w8 ⟨rfl, hb8⟩
          go_wp2
          go_ret
          exact ⟨rfl, hzr.nx hb8 hzr.size⟩
        · have hq2 : wr.cell? { block := w1.heap.size, off := 2 } = some (Value.bool true) := by rw [q2, hal]
          clear q2 hal
          go_wp2_with fail
          refine (ascends_yes _ (padL F) _ hOr.ints HUP.out).mono ?_; rintro e w8 ⟨rfl, hb8⟩
          go_wp2
          go_ret
          exact ⟨rfl, hzr.nx hb8 hzr.size⟩

end Go.Proofs.Ytmiamnaholnnoaa
