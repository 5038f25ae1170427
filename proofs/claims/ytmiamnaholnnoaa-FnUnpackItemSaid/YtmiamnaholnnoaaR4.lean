/- Contracts: UnpackItem, both. No conditions. (printed by mkr4.py) -/
import Derived.Test.YtmiamnaholnnoaaR2
import Derived.Test.YtmiamnaholnnoaaR3
namespace Go.Proofs.Ytmiamnaholnnoaa
open Go.RowKit

/-- What a function that returns a new list and a bool leaves. -/
def RetListB (w : World) (xs : List Int) (b : Bool) (e : Ending) (w' : World) : Prop := ∃ r, e = .returned (.tuple #[r, .bool b]) ∧ Own w' w.heap.size r xs ∧ Below w.heap.size w w'
set_option maxRecDepth 100000 in
set_option maxHeartbeats 6400000 in
theorem sUnpackItem_any (v vb : Value) (F : FL) (bs : List Int) (w : World) (hv : FormatV w v F) (hbs : Ints w vb bs) :
    Calls Try.prog 24 #[v, vb] w (RetListB w (unpackedL F bs) (okBytes F bs)) := by
  obtain ⟨A, c, rfl, hk, hm, h0⟩ := hv.form
  have hbs0 := hbs
  obtain ⟨Ab, cb, rfl, hkb, hmb, -⟩ := hbs
  unfold maxLen at hmb
  have HB := FBox.new h0
  cases hok : isFormatL F
  · have HOK := hid hok
    have HQ := hid (show unpackedL F bs = [] ∧ okBytes F bs = false by
      have h : okBytes F bs = false := by simp [okBytes, hok]
      exact ⟨by simp [unpackedL, h], h⟩)
    clear hok
    go_enter Try.func24, Try.ntmps24
    go_wp2_with fail
    generalize w.alloc (.cells #[.slice A F.sizes.length c, .bool F.big, .bool F.aligned] 25) = W1 at *
    refine (validFormat_any _ F _ HB.format).mono ?_; rintro e w1 ⟨rfl, hb1⟩
    have HB1 := HB.nx hb1
    rw [HOK.out]
    obtain ⟨⟨q1, q2, q3⟩, r1, r2, r3⟩ := HB1.blk.all3
    have hb := HB1.below
    go_wp2
    refine bodyPost_ret (v := .tuple #[.slice none 0 0, .bool false]) (by simp [results, Try.results24, go_sem]) rfl ?_
    rw [HQ.out.1, HQ.out.2]
    exact ⟨_, rfl, Own.nil _ _, hb⟩
  have HOK := hid hok
  by_cases hlen : (bs.length : Int) = sizeF F
  case neg =>
    have HQ := hid (show unpackedL F bs = [] ∧ okBytes F bs = false by
      have h : okBytes F bs = false := by simp [okBytes, hlen]
      exact ⟨by simp [unpackedL, h], h⟩)
    have hne : ((bs.length : Int) != sizeF F) = true := by simpa using hlen
    clear hok hlen
    go_enter Try.func24, Try.ntmps24
    go_wp2_with fail
    generalize w.alloc (.cells #[.slice A F.sizes.length c, .bool F.big, .bool F.aligned] 25) = W1 at *
    refine (validFormat_any _ F _ HB.format).mono ?_; rintro e w1 ⟨rfl, hb1⟩
    have HB1 := HB.nx hb1
    rw [HOK.out]
    obtain ⟨⟨q1, q2, q3⟩, r1, r2, r3⟩ := HB1.blk.all3
    go_wp2_with fail
    refine (sItemSize_any _ F _ HB1.format HOK.out).mono ?_; rintro e w2 ⟨rfl, hb2⟩
    have HB2 := HB1.nx hb2
    clear q1 q2 q3 r1 r2 r3
    obtain ⟨⟨q1, q2, q3⟩, r1, r2, r3⟩ := HB2.blk.all3
    have hb := HB2.below
    go_wp2
    refine bodyPost_ret (v := .tuple #[.slice none 0 0, .bool false]) (by simp [results, Try.results24, go_sem]) rfl ?_
    rw [HQ.out.1, HQ.out.2]
    exact ⟨_, rfl, Own.nil _ _, hb⟩
  have hne : ((bs.length : Int) != sizeF F) = false := by simpa using hlen
  have HLEN := hid hlen
  cases hby : bs.all isByte
  · have HBY := hid hby
    have HQ := hid (show unpackedL F bs = [] ∧ okBytes F bs = false by
      have h : okBytes F bs = false := by simp [okBytes, hby]
      exact ⟨by simp [unpackedL, h], h⟩)
    clear hok hlen hby
    go_enter Try.func24, Try.ntmps24
    go_wp2_with fail
    generalize w.alloc (.cells #[.slice A F.sizes.length c, .bool F.big, .bool F.aligned] 25) = W1 at *
    refine (validFormat_any _ F _ HB.format).mono ?_; rintro e w1 ⟨rfl, hb1⟩
    have HB1 := HB.nx hb1
    rw [HOK.out]
    obtain ⟨⟨q1, q2, q3⟩, r1, r2, r3⟩ := HB1.blk.all3
    go_wp2_with fail
    refine (sItemSize_any _ F _ HB1.format HOK.out).mono ?_; rintro e w2 ⟨rfl, hb2⟩
    have HB2 := HB1.nx hb2
    clear q1 q2 q3 r1 r2 r3
    obtain ⟨⟨q1, q2, q3⟩, r1, r2, r3⟩ := HB2.blk.all3
    go_wp2_with fail
    refine (allIn_any _ bs 0 255 _ (hbs0.ext HB2.below)).mono ?_; rintro e w' ⟨rfl, rfl⟩
    rw [show (bs.all fun x => inR x 0 255) = bs.all isByte from rfl, HBY.out]
    have hb := HB2.below
    go_wp2
    refine bodyPost_ret (v := .tuple #[.slice none 0 0, .bool false]) (by simp [results, Try.results24, go_sem]) rfl ?_
    rw [HQ.out.1, HQ.out.2]
    exact ⟨_, rfl, Own.nil _ _, hb⟩
  have HBY := hid hby
  have hok3 : okBytes F bs = true := by simp [okBytes, hok, hlen, hby]
  have HQ := hid (show unpackedL F bs = unpackL F bs ∧ okBytes F bs = true from ⟨by simp [unpackedL, hok3], hok3⟩)
  have HB255 := hid (show ∀ b ∈ bs, 0 ≤ b ∧ b ≤ 255 from fun b hb => inR_iff.1 (List.all_eq_true.1 hby b hb))
  clear hok hlen hby hok3
  go_enter Try.func24, Try.ntmps24
  go_wp2_with fail
  generalize w.alloc (.cells #[.slice A F.sizes.length c, .bool F.big, .bool F.aligned] 25) = W1 at *
  refine (validFormat_any _ F _ HB.format).mono ?_; rintro e w1 ⟨rfl, hb1⟩
  have HB1 := HB.nx hb1
  rw [HOK.out]
  obtain ⟨⟨q1, q2, q3⟩, r1, r2, r3⟩ := HB1.blk.all3
  go_wp2_with fail
  refine (sItemSize_any _ F _ HB1.format HOK.out).mono ?_; rintro e w2 ⟨rfl, hb2⟩
  have HB2 := HB1.nx hb2
  clear q1 q2 q3 r1 r2 r3
  obtain ⟨⟨q1, q2, q3⟩, r1, r2, r3⟩ := HB2.blk.all3
  go_wp2_with fail
  refine (allIn_any _ bs 0 255 _ (hbs0.ext HB2.below)).mono ?_; rintro e w' ⟨rfl, rfl⟩
  rw [show (bs.all fun x => inR x 0 255) = bs.all isByte from rfl, HBY.out]
  go_wp2_with fail
  refine (unpacked_any _ _ F bs _ HB2.format (hbs0.ext HB2.below) HOK.out HLEN.out HB255.out).mono ?_; rintro e w3 ⟨v1, rfl, ho, hb3⟩
  have HB3 := HB2.nx hb3
  have hz := HB2.size
  go_wp2
  refine bodyPost_ret (v := .tuple #[v1, .bool true]) (by simp [results, Try.results24, go_sem]) rfl ?_
  rw [HQ.out.1, HQ.out.2]
  exact ⟨_, rfl, ho.mono (by omega), HB3.below⟩

set_option maxRecDepth 100000 in
set_option maxHeartbeats 6400000 in
theorem UnpackItem_any (v vb : Value) (F : FL) (bs : List Int) (w : World) (hv : FormatV w v F) (hbs : Ints w vb bs) :
    Calls Try.prog 20 #[v, vb] w (RetListB w (unpackedL F bs) (okBytes F bs)) := by
  obtain ⟨A, c, rfl, hk, hm, h0⟩ := hv.form
  have hbs0 := hbs
  obtain ⟨Ab, cb, rfl, hkb, hmb, -⟩ := hbs
  unfold maxLen at hmb
  have HB := FBox.new h0
  cases hok : isFormatL F
  · have HOK := hid hok
    have HQ := hid (show unpackedL F bs = [] ∧ okBytes F bs = false by
      have h : okBytes F bs = false := by simp [okBytes, hok]
      exact ⟨by simp [unpackedL, h], h⟩)
    clear hok
    go_enter Try.func20, Try.ntmps20
    go_wp2_with fail
    generalize w.alloc (.cells #[.slice A F.sizes.length c, .bool F.big, .bool F.aligned] 25) = W1 at *
    refine (isFormat_any _ F _ HB.format).mono ?_; rintro e w1 ⟨rfl, hb1⟩
    have HB1 := HB.nx hb1
    rw [HOK.out]
    obtain ⟨⟨q1, q2, q3⟩, r1, r2, r3⟩ := HB1.blk.all3
    have hb := HB1.below
    go_wp2
    refine bodyPost_ret (v := .tuple #[.slice none 0 0, .bool false]) (by simp [results, Try.results20, go_sem]) rfl ?_
    rw [HQ.out.1, HQ.out.2]
    exact ⟨_, rfl, Own.nil _ _, hb⟩
  have HOK := hid hok
  by_cases hlen : (bs.length : Int) = sizeF F
  case neg =>
    have HQ := hid (show unpackedL F bs = [] ∧ okBytes F bs = false by
      have h : okBytes F bs = false := by simp [okBytes, hlen]
      exact ⟨by simp [unpackedL, h], h⟩)
    have hne : ((bs.length : Int) != sizeF F) = true := by simpa using hlen
    clear hok hlen
    go_enter Try.func20, Try.ntmps20
    go_wp2_with fail
    generalize w.alloc (.cells #[.slice A F.sizes.length c, .bool F.big, .bool F.aligned] 25) = W1 at *
    refine (isFormat_any _ F _ HB.format).mono ?_; rintro e w1 ⟨rfl, hb1⟩
    have HB1 := HB.nx hb1
    rw [HOK.out]
    obtain ⟨⟨q1, q2, q3⟩, r1, r2, r3⟩ := HB1.blk.all3
    go_wp2_with fail
    refine (itemSize_any _ F _ HB1.format HOK.out).mono ?_; rintro e w2 ⟨rfl, hb2⟩
    have HB2 := HB1.nx hb2
    clear q1 q2 q3 r1 r2 r3
    obtain ⟨⟨q1, q2, q3⟩, r1, r2, r3⟩ := HB2.blk.all3
    have hb := HB2.below
    go_wp2
    refine bodyPost_ret (v := .tuple #[.slice none 0 0, .bool false]) (by simp [results, Try.results20, go_sem]) rfl ?_
    rw [HQ.out.1, HQ.out.2]
    exact ⟨_, rfl, Own.nil _ _, hb⟩
  have hne : ((bs.length : Int) != sizeF F) = false := by simpa using hlen
  have HLEN := hid hlen
  cases hby : bs.all isByte
  · have HBY := hid hby
    have HQ := hid (show unpackedL F bs = [] ∧ okBytes F bs = false by
      have h : okBytes F bs = false := by simp [okBytes, hby]
      exact ⟨by simp [unpackedL, h], h⟩)
    clear hok hlen hby
    go_enter Try.func20, Try.ntmps20
    go_wp2_with fail
    generalize w.alloc (.cells #[.slice A F.sizes.length c, .bool F.big, .bool F.aligned] 25) = W1 at *
    refine (isFormat_any _ F _ HB.format).mono ?_; rintro e w1 ⟨rfl, hb1⟩
    have HB1 := HB.nx hb1
    rw [HOK.out]
    obtain ⟨⟨q1, q2, q3⟩, r1, r2, r3⟩ := HB1.blk.all3
    go_wp2_with fail
    refine (itemSize_any _ F _ HB1.format HOK.out).mono ?_; rintro e w2 ⟨rfl, hb2⟩
    have HB2 := HB1.nx hb2
    clear q1 q2 q3 r1 r2 r3
    obtain ⟨⟨q1, q2, q3⟩, r1, r2, r3⟩ := HB2.blk.all3
    go_wp2_with fail
    refine (areBytes_any _ bs _ (hbs0.ext HB2.below)).mono ?_; rintro e w' ⟨rfl, rfl⟩
    rw [HBY.out]
    have hb := HB2.below
    go_wp2
    refine bodyPost_ret (v := .tuple #[.slice none 0 0, .bool false]) (by simp [results, Try.results20, go_sem]) rfl ?_
    rw [HQ.out.1, HQ.out.2]
    exact ⟨_, rfl, Own.nil _ _, hb⟩
  have HBY := hid hby
  have hok3 : okBytes F bs = true := by simp [okBytes, hok, hlen, hby]
  have HQ := hid (show unpackedL F bs = unpackL F bs ∧ okBytes F bs = true from ⟨by simp [unpackedL, hok3], hok3⟩)
  have HB255 := hid (show ∀ b ∈ bs, 0 ≤ b ∧ b ≤ 255 from fun b hb => inR_iff.1 (List.all_eq_true.1 hby b hb))
  clear hok hlen hby hok3
  go_enter Try.func20, Try.ntmps20
  go_wp2_with fail
  generalize w.alloc (.cells #[.slice A F.sizes.length c, .bool F.big, .bool F.aligned] 25) = W1 at *
  refine (isFormat_any _ F _ HB.format).mono ?_; rintro e w1 ⟨rfl, hb1⟩
  have HB1 := HB.nx hb1
  rw [HOK.out]
  obtain ⟨⟨q1, q2, q3⟩, r1, r2, r3⟩ := HB1.blk.all3
  go_wp2_with fail
  refine (itemSize_any _ F _ HB1.format HOK.out).mono ?_; rintro e w2 ⟨rfl, hb2⟩
  have HB2 := HB1.nx hb2
  clear q1 q2 q3 r1 r2 r3
  obtain ⟨⟨q1, q2, q3⟩, r1, r2, r3⟩ := HB2.blk.all3
  go_wp2_with fail
  refine (areBytes_any _ bs _ (hbs0.ext HB2.below)).mono ?_; rintro e w' ⟨rfl, rfl⟩
  rw [HBY.out]
  go_wp2_with fail
  refine (unpackItem_any _ _ F bs _ HB2.format (hbs0.ext HB2.below) HOK.out HLEN.out HB255.out).mono ?_; rintro e w3 ⟨v1, rfl, ho, hb3⟩
  have HB3 := HB2.nx hb3
  have hz := HB2.size
  go_wp2
  refine bodyPost_ret (v := .tuple #[v1, .bool true]) (by simp [results, Try.results20, go_sem]) rfl ?_
  rw [HQ.out.1, HQ.out.2]
  exact ⟨_, rfl, ho.mono (by omega), HB3.below⟩

end Go.Proofs.Ytmiamnaholnnoaa
