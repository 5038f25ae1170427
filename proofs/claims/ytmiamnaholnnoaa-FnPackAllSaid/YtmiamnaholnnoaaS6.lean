/- Contracts: PackItem, both. No conditions. (printed by mks6.py) -/
import Derived.Test.YtmiamnaholnnoaaS4
import Derived.Test.YtmiamnaholnnoaaS5
namespace Go.Proofs.Ytmiamnaholnnoaa
open Go.RowKit

set_option maxRecDepth 100000 in
set_option maxHeartbeats 6400000 in
theorem sPackItem_any (v vb : Value) (F : FL) (vs : List Int) (w : World) (hv : FormatV w v F) (hbs : Ints w vb vs) :
    Calls Try.prog 19 #[v, vb] w (RetOwn w (packedL F vs)) := by
  obtain ⟨A, c, rfl, hk, hm, h0⟩ := hv.form
  have hbs0 := hbs
  obtain ⟨Ab, cb, rfl, hkb, hmb, -⟩ := hbs
  unfold maxLen at hmb
  have HB := FBox.new h0
  cases hok : isFormatL F
  · have HOK := hid hok
    have HQ := hid (show packedL F vs = [] by simp [packedL, hok])
    clear hok
    go_enter Try.func19, Try.ntmps19
    go_wp2_with fail
    generalize w.alloc (.cells #[.slice A F.sizes.length c, .bool F.big, .bool F.aligned] 25) = W1 at *
    refine (validFormat_any _ F _ HB.format).mono ?_; rintro e w1 ⟨rfl, hb1⟩
    have HB1 := HB.nx hb1
    rw [HOK.out]
    obtain ⟨⟨q1, q2, q3⟩, r1, r2, r3⟩ := HB1.blk.all3
    have hb := HB1.below
    go_wp2
    go_ret
    rw [HQ.out]
    exact ⟨_, rfl, Own.nil _ _, hb⟩
  have HOK := hid hok
  cases hit : okItem F vs
  · have HIT := hid hit
    have HQ := hid (show packedL F vs = [] by simp [packedL, hit])
    clear hok hit
    go_enter Try.func19, Try.ntmps19
    go_wp2_with fail
    generalize w.alloc (.cells #[.slice A F.sizes.length c, .bool F.big, .bool F.aligned] 25) = W1 at *
    refine (validFormat_any _ F _ HB.format).mono ?_; rintro e w1 ⟨rfl, hb1⟩
    have HB1 := HB.nx hb1
    rw [HOK.out]
    obtain ⟨⟨q1, q2, q3⟩, r1, r2, r3⟩ := HB1.blk.all3
    go_wp2_with fail
    refine (validItem_any _ _ F vs _ HB1.format (hbs0.ext HB1.below) HOK.out).mono ?_; rintro e w2 ⟨rfl, hb2⟩
    have HB2 := HB1.nx hb2
    rw [HIT.out]
    clear q1 q2 q3 r1 r2 r3
    obtain ⟨⟨q1, q2, q3⟩, r1, r2, r3⟩ := HB2.blk.all3
    have hb := HB2.below
    go_wp2
    go_ret
    rw [HQ.out]
    exact ⟨_, rfl, Own.nil _ _, hb⟩
  have HIT := hid hit
  have HQ := hid (show packedL F vs = packL F vs by simp [packedL, hok, hit])
  clear hok hit
  go_enter Try.func19, Try.ntmps19
  go_wp2_with fail
  generalize w.alloc (.cells #[.slice A F.sizes.length c, .bool F.big, .bool F.aligned] 25) = W1 at *
  refine (validFormat_any _ F _ HB.format).mono ?_; rintro e w1 ⟨rfl, hb1⟩
  have HB1 := HB.nx hb1
  rw [HOK.out]
  obtain ⟨⟨q1, q2, q3⟩, r1, r2, r3⟩ := HB1.blk.all3
  go_wp2_with fail
  refine (validItem_any _ _ F vs _ HB1.format (hbs0.ext HB1.below) HOK.out).mono ?_; rintro e w2 ⟨rfl, hb2⟩
  have HB2 := HB1.nx hb2
  rw [HIT.out]
  clear q1 q2 q3 r1 r2 r3
  obtain ⟨⟨q1, q2, q3⟩, r1, r2, r3⟩ := HB2.blk.all3
  go_wp2_with fail
  refine (packed_any _ _ F vs _ HB2.format (hbs0.ext HB2.below) HOK.out HIT.out).mono ?_; rintro e w3 ⟨v1, rfl, ho, hb3⟩
  have HB3 := HB2.nx hb3
  have hz := HB2.size
  go_wp2
  go_ret
  rw [HQ.out]
  exact ⟨_, rfl, ho.mono (by omega), HB3.below⟩

set_option maxRecDepth 100000 in
set_option maxHeartbeats 6400000 in
theorem PackItem_any (v vb : Value) (F : FL) (vs : List Int) (w : World) (hv : FormatV w v F) (hbs : Ints w vb vs) :
    Calls Try.prog 18 #[v, vb] w (RetOwn w (packedL F vs)) := by
  obtain ⟨A, c, rfl, hk, hm, h0⟩ := hv.form
  have hbs0 := hbs
  obtain ⟨Ab, cb, rfl, hkb, hmb, -⟩ := hbs
  unfold maxLen at hmb
  have HB := FBox.new h0
  cases hok : isFormatL F
  · have HOK := hid hok
    have HQ := hid (show packedL F vs = [] by simp [packedL, hok])
    clear hok
    go_enter Try.func18, Try.ntmps18
    go_wp2_with fail
    generalize w.alloc (.cells #[.slice A F.sizes.length c, .bool F.big, .bool F.aligned] 25) = W1 at *
    refine (isFormat_any _ F _ HB.format).mono ?_; rintro e w1 ⟨rfl, hb1⟩
    have HB1 := HB.nx hb1
    rw [HOK.out]
    obtain ⟨⟨q1, q2, q3⟩, r1, r2, r3⟩ := HB1.blk.all3
    have hb := HB1.below
    go_wp2
    go_ret
    rw [HQ.out]
    exact ⟨_, rfl, Own.nil _ _, hb⟩
  have HOK := hid hok
  cases hit : okItem F vs
  · have HIT := hid hit
    have HQ := hid (show packedL F vs = [] by simp [packedL, hit])
    clear hok hit
    go_enter Try.func18, Try.ntmps18
    go_wp2_with fail
    generalize w.alloc (.cells #[.slice A F.sizes.length c, .bool F.big, .bool F.aligned] 25) = W1 at *
    refine (isFormat_any _ F _ HB.format).mono ?_; rintro e w1 ⟨rfl, hb1⟩
    have HB1 := HB.nx hb1
    rw [HOK.out]
    obtain ⟨⟨q1, q2, q3⟩, r1, r2, r3⟩ := HB1.blk.all3
    go_wp2_with fail
    refine (areFields_any _ _ F vs _ HB1.format (hbs0.ext HB1.below) HOK.out).mono ?_; rintro e w2 ⟨rfl, hb2⟩
    have HB2 := HB1.nx hb2
    rw [HIT.out]
    clear q1 q2 q3 r1 r2 r3
    obtain ⟨⟨q1, q2, q3⟩, r1, r2, r3⟩ := HB2.blk.all3
    have hb := HB2.below
    go_wp2
    go_ret
    rw [HQ.out]
    exact ⟨_, rfl, Own.nil _ _, hb⟩
  have HIT := hid hit
  have HQ := hid (show packedL F vs = packL F vs by simp [packedL, hok, hit])
  clear hok hit
  go_enter Try.func18, Try.ntmps18
  go_wp2_with fail
  generalize w.alloc (.cells #[.slice A F.sizes.length c, .bool F.big, .bool F.aligned] 25) = W1 at *
  refine (isFormat_any _ F _ HB.format).mono ?_; rintro e w1 ⟨rfl, hb1⟩
  have HB1 := HB.nx hb1
  rw [HOK.out]
  obtain ⟨⟨q1, q2, q3⟩, r1, r2, r3⟩ := HB1.blk.all3
  go_wp2_with fail
  refine (areFields_any _ _ F vs _ HB1.format (hbs0.ext HB1.below) HOK.out).mono ?_; rintro e w2 ⟨rfl, hb2⟩
  have HB2 := HB1.nx hb2
  rw [HIT.out]
  clear q1 q2 q3 r1 r2 r3
  obtain ⟨⟨q1, q2, q3⟩, r1, r2, r3⟩ := HB2.blk.all3
  go_wp2_with fail
  refine (packItem_any _ _ F vs _ HB2.format (hbs0.ext HB2.below) HOK.out HIT.out).mono ?_; rintro e w3 ⟨v1, rfl, ho, hb3⟩
  have HB3 := HB2.nx hb3
  have hz := HB2.size
  go_wp2
  go_ret
  rw [HQ.out]
  exact ⟨_, rfl, ho.mono (by omega), HB3.below⟩

end Go.Proofs.Ytmiamnaholnnoaa
