/- The law on packed items: the walk. No conditions. -/
import Derived.Test.YtmiamnaholnnoaaQ6
import Derived.Test.YtmiamnaholnnoaaQ7
import Derived.Test.YtmiamnaholnnoaaS6
import Derived.Test.YtmiamnaholnnoaaR4
import Derived.Test.YtmiamnaholnnoaaKM
import Derived.Test.YtmiamnaholnnoaaFI2
import Derived.Test.YtmiamnaholnnoaaFPi
import Derived.Test.YtmiamnaholnnoaaLE
namespace Go.Proofs.Ytmiamnaholnnoaa
open Go.RowKit

set_option maxRecDepth 100000 in
set_option maxHeartbeats 6400000 in
theorem FnPackItem_walk (v : Value) (n : Nat) (w : World) (h : BytesV w v n) :
    Calls Try.prog 4 #[v] w fun e w' => e = .returned (.bool true) ∧ Below w.heap.size w w' := by
  have hv := h
  obtain ⟨A, c, rfl, h1, h2, -⟩ := h
  by_cases hn : 1048576 < n
  · have hni : (1048576 : Int) < (n : Int) := by omega
    go_enter Try.func4, Try.ntmps4
    go_wp2
    go_ret
    exact ⟨rfl, Below.refl _ _⟩
  have hni : ¬ (1048576 : Int) < (n : Int) := by omega
  go_enter Try.func4, Try.ntmps4
  go_wp2_with fail
  refine (DrawPackItem_any _ n _ hv).mono ?_; rintro e w1 ⟨F, sv, vv, vs, rfl, hl, hS, hV, hvl, hb1⟩
  obtain ⟨A1, c1, rfl⟩ := hS.form
  obtain ⟨A2, c2, rfl⟩ := hV.form
  have hBx := FBox.new hS
  have hb2 := below_alloc w1 (.cells #[.slice A1 F.sizes.length c1, .bool F.big, .bool F.aligned] 25)
  have hz := hb1.nx hb2 hb1.size
  have hV := hV.nx hb2
  clear hb1 hb2 hS
  have HL := hid (And.intro hl hvl)
  clear hl hvl
  go_wp2_with fail
  generalize w1.alloc (.cells #[.slice A1 F.sizes.length c1, .bool F.big, .bool F.aligned] 25) = w2 at *
  refine (PackItem_any _ _ F vs _ hBx.format hV).mono ?_; rintro e w3 ⟨p1, rfl, hp, hb⟩
  have hBx := hBx.nx hb
  have hz := hz.nx hb hz.size
  have hV := hV.nx hb
  clear hb
  obtain ⟨⟨q0, q1, q2⟩, -⟩ := id hBx.blk.all3
  obtain ⟨Ap, cp, rfl⟩ := hp.form
  go_wp2_with fail
  refine (sPackItem_any _ _ F vs _ hBx.format hV).mono ?_; rintro e w4 ⟨p2, rfl, hp2, hb⟩
  have hp := hp.nx hb
  have hBx := hBx.nx hb
  have hz := hz.nx hb hz.size
  have hV := hV.nx hb
  clear q0 q1 q2 hb
  obtain ⟨⟨q0, q1, q2⟩, -⟩ := id hBx.blk.all3
  go_wp2_with fail
  refine (equalInts_same _ _ _ _ hp.ints hp2.ints).mono ?_; rintro e w5 ⟨rfl, hb⟩
  have hp := hp.nx hb
  have hBx := hBx.nx hb
  have hz := hz.nx hb hz.size
  have hV := hV.nx hb
  clear q0 q1 q2 hb hp2
  obtain ⟨⟨q0, q1, q2⟩, -⟩ := id hBx.blk.all3
  by_cases h0 : (packedL F vs).length = 0
  · have h0i : (((packedL F vs).length : Int) == 0) = true := by simp [h0]
    have H0 := hid h0
    clear h0
    go_wp2_with fail
    refine (sPackItem_any _ _ F vs _ hBx.format hV).mono ?_; rintro e w6 ⟨p2, rfl, hp2, hb⟩
    have hp := hp.nx hb
    have hz := hz.nx hb hz.size
    clear q0 q1 q2 hb
    go_wp2_with fail
    refine (equalInts_same _ _ _ _ hp.ints hp2.ints).mono ?_; rintro e w7 ⟨rfl, hb⟩
    go_wp2
    go_ret
    exact ⟨rfl, hz.nx hb hz.size⟩
  · have h0i : (((packedL F vs).length : Int) == 0) = false := by simpa using h0
    obtain ⟨hF, hI, hE⟩ := packedL_some h0
    have HF := hid hF
    have HU := hid (unpackedL_packedL hF hI)
    have HPD := hid (pack_pad hF vs)
    have HE := hid hE
    have HLN := hid (show ((packedL F vs).length : Int) = sizeF F by rw [hE, packL_len' hF]; have := size_bd hF; omega)
    have HM := hid (show isMemL (packedL F vs) = true by rw [hE]; exact packL_mem hF vs)
    clear hF hI hE h0
    go_wp2_with fail
    refine (UnpackItem_any _ _ F (packedL F vs) _ hBx.format hp.ints).mono ?_; rintro e w6 ⟨u, rfl, hu, hb⟩
    rw [HU.out.1] at hu
    rw [HU.out.2]
    have hp := hp.nx hb
    have hBx := hBx.nx hb
    have hz := hz.nx hb hz.size
    have hV := hV.nx hb
    clear q0 q1 q2 hb
    obtain ⟨⟨q0, q1, q2⟩, -⟩ := id hBx.blk.all3
    go_wp2_with fail
    refine (PaddingOf_any _ F _ hBx.format).mono ?_; rintro e w7 ⟨pd, rfl, hpd, hb⟩
    have hp := hp.nx hb
    have hBx := hBx.nx hb
    have hz := hz.nx hb hz.size
    have hV := hV.nx hb
    have hu := hu.nx hb
    clear q0 q1 q2 hb
    obtain ⟨Aq, cq, rfl⟩ := hpd.form
    have hpl := padL_len F
    go_wp2_with fail
    go_loopg [9] (padL F).length (fun m i wr => ∃ k : Nat, k ≤ (padL F).length ∧ m = (padL F).length - k ∧ i = .int .i64 k ∧ Below w7.heap.size w7 wr)
    case atStart => exact ⟨0, Nat.zero_le _, rfl, rfl, Below.refl _ _⟩
    case round =>
      obtain ⟨k, hk, hm, rfl, hB⟩ := hrel
      have HMm := hid hm
      clear hm
      have hp := hp.nx hB
      have hpd := hpd.nx hB
      have hV := hV.nx hB
      have hu := hu.nx hB
      have hBx := hBx.nx hB
      by_cases hlt : k < (padL F).length
      · obtain ⟨b1, off1, rfl, hx⟩ := hpd.ints.elem k hlt
        obtain ⟨hx0, hx1⟩ := HPD.out (padL F)[k] (List.getElem_mem hlt)
        rw [← HE.out] at hx1
        generalize (padL F)[k] = x at *
        obtain ⟨y, rfl⟩ := Int.eq_ofNat_of_zero_le hx0
        rw [Int.toNat_natCast] at hx1
        obtain ⟨hy, hy2⟩ := List.getElem?_eq_some_iff.1 hx1
        obtain ⟨b2, off2, rfl, hy3⟩ := hp.ints.elem y hy
        rw [hy2] at hy3
        have hki : (k : Int) < ((padL F).length : Int) := by omega
        have hyi : (y : Int) < ((packedL F vs).length : Int) := by omega
        have HB := hid hB
        clear hx1 hy2 hx0 hB
        go_wp2
        go_roundg ((padL F).length - (k + 1))
        case measure => have := HMm.out; omega
        case rel => exact ⟨k + 1, by omega, rfl, by go_num, HB.out⟩
      · have hki : ¬ (k : Int) < ((padL F).length : Int) := by omega
        have hz := hz.nx hB hz.size
        clear hB
        go_wp2_with fail
        refine (equalInts_same _ _ _ _ hu.ints hV).mono ?_; rintro e w8 ⟨rfl, hb⟩
        have hp := hp.nx hb
        have hBx := hBx.nx hb
        have hz := hz.nx hb hz.size
        clear hb
        obtain ⟨⟨q0, q1, q2⟩, -⟩ := id hBx.blk.all3
        go_wp2_with fail
        refine (ItemSize_any _ F _ hBx.format HF.out).mono ?_; rintro e w9 ⟨rfl, hb⟩
        have hp := hp.nx hb
        have hz := hz.nx hb hz.size
        have hle : (((packedL F vs).length : Int) == sizeF F) = true := by simpa using HLN.out
        clear q0 q1 q2 hb
        go_wp2_with fail
        refine (ValidMemory_any _ _ _ hp.ints).mono ?_; rintro e w' ⟨rfl, rfl⟩
        rw [HM.out]
        go_wp2
        go_ret
        exact ⟨rfl, hz⟩

end Go.Proofs.Ytmiamnaholnnoaa
