/- Contracts: SwapBytes, both. No conditions. (printed by mkub.py) -/
import Derived.Test.YtmiamnaholnnoaaUA2
import Derived.Test.YtmiamnaholnnoaaUA3
import Derived.Test.YtmiamnaholnnoaaPA2
import Derived.Test.YtmiamnaholnnoaaPA3
namespace Go.Proofs.Ytmiamnaholnnoaa
open Go.RowKit

def swapL (F : FL) (bs : List Int) : List Int := if okUA F bs then packAllL ⟨F.sizes, !F.big, F.aligned⟩ (unpackAllL F bs) else []
theorem swapL_len (F : FL) (bs : List Int) : (swapL F bs).length ≤ 60 := by
  unfold swapL
  split
  · exact packAllL_len _ _
  · simp

set_option maxRecDepth 100000 in
set_option maxHeartbeats 6400000 in
theorem SwapBytes_any (v vb : Value) (F : FL) (bs : List Int) (w : World) (hv : FormatV w v F) (hbs : Ints w vb bs) :
    Calls Try.prog 35 #[v, vb] w (RetOwn w (swapL F bs)) := by
  obtain ⟨A, c, rfl, hk, hm, h0⟩ := hv.form
  have hbs0 := hbs
  obtain ⟨Ab, cb, rfl, hkb, hmb, -⟩ := hbs
  unfold maxLen at hmb
  have HB := FBox.new h0
  go_enter Try.func35, Try.ntmps35
  go_wp2_with fail
  generalize w.alloc (.cells #[.slice A F.sizes.length c, .bool F.big, .bool F.aligned] 25) = W1 at *
  refine (UnpackAll_any _ _ F bs _ HB.format (hbs0.ext HB.below)).mono ?_; rintro e w1 ⟨v1, us, rfl, hown, hb1⟩
  have HB1 := HB.nx hb1
  obtain ⟨A1, c1, e1⟩ := hown.form
  subst e1
  cases hok : okUA F bs
  · have HQ := hid (show swapL F bs = [] by simp [swapL, hok])
    have hb := HB1.below
    clear hok
    go_wp2
    go_ret
    rw [HQ.out]
    exact ⟨_, rfl, Own.nil _ _, hb⟩
  · have HQ := hid (show swapL F bs = packAllL ⟨F.sizes, !F.big, F.aligned⟩ (unpackAllL F bs) by simp [swapL, hok])
    clear hok
    have hz := HB1.size
    obtain ⟨⟨q1, q2, q3⟩, r1, r2, r3⟩ := HB1.blk.all3
    have hb2 := HB1.blk.set_ 1 (.bool (!F.big))
    simp only [List.setIfInBounds_toArray, List.set_cons_zero, List.set_cons_succ] at hb2
    have hB := HB1.below.setCell (p := ⟨w.heap.size, 1, none⟩) (Nat.le_refl _) (.bool (!F.big))
    have hit := (hown.chg (Chg.of_grown (v := .slice (some ⟨w.heap.size, 0, none⟩) 0 0) (grown_set w1 ⟨w.heap.size, 1, none⟩ (.bool (!F.big))) (lo := w.heap.size) (hi := w.heap.size + 1) (fun k hk => by simp [Value.ownBlock] at hk; omega)) hown.seg (.inr (by have := HB.size; omega))).ints
    go_upto_region 5 with fail
    generalize w1.setCell ⟨w.heap.size, 1, none⟩ (.bool (!F.big)) = w2 at *
    clear q1 q2 q3 r1 r2 r3
    obtain ⟨⟨q1, q2, q3⟩, r1, r2, r3⟩ := hb2.all3
    have hF : FormatV w2 (.agg #[.slice A F.sizes.length c, .bool (!F.big), .bool F.aligned]) ⟨F.sizes, !F.big, F.aligned⟩ := ⟨_, rfl, h0.ext hB⟩
    have hsz := hB.size
    go_wp2_with fail
    refine (PackAll_any _ _ ⟨F.sizes, !F.big, F.aligned⟩ (unpackAllL F bs) _ hF hit).mono ?_; rintro e w3 ⟨v3, rfl, ho, hb3⟩
    have hD := hB.trans (hb3.mono hB.size)
    go_wp2
    go_ret
    rw [HQ.out]
    exact ⟨_, rfl, ho.mono hsz, hD⟩

set_option maxRecDepth 100000 in
set_option maxHeartbeats 6400000 in
theorem sSwapBytes_any (v vb : Value) (F : FL) (bs : List Int) (w : World) (hv : FormatV w v F) (hbs : Ints w vb bs) :
    Calls Try.prog 36 #[v, vb] w (RetOwn w (swapL F bs)) := by
  obtain ⟨A, c, rfl, hk, hm, h0⟩ := hv.form
  have hbs0 := hbs
  obtain ⟨Ab, cb, rfl, hkb, hmb, -⟩ := hbs
  unfold maxLen at hmb
  have HB := FBox.new h0
  go_enter Try.func36, Try.ntmps36
  go_wp2_with fail
  generalize w.alloc (.cells #[.slice A F.sizes.length c, .bool F.big, .bool F.aligned] 25) = W1 at *
  refine (sUnpackAll_any _ _ F bs _ HB.format (hbs0.ext HB.below)).mono ?_; rintro e w1 ⟨v1, us, rfl, hown, hb1⟩
  have HB1 := HB.nx hb1
  obtain ⟨A1, c1, e1⟩ := hown.form
  subst e1
  cases hok : okUA F bs
  · have HQ := hid (show swapL F bs = [] by simp [swapL, hok])
    have hb := HB1.below
    clear hok
    go_wp2
    go_ret
    rw [HQ.out]
    exact ⟨_, rfl, Own.nil _ _, hb⟩
  · have HQ := hid (show swapL F bs = packAllL ⟨F.sizes, !F.big, F.aligned⟩ (unpackAllL F bs) by simp [swapL, hok])
    clear hok
    have hz := HB1.size
    obtain ⟨⟨q1, q2, q3⟩, r1, r2, r3⟩ := HB1.blk.all3
    have hF : FormatV w1 (.agg #[.slice A F.sizes.length c, .bool (!F.big), .bool F.aligned]) ⟨F.sizes, !F.big, F.aligned⟩ := ⟨_, rfl, HB1.ints⟩
    have hit := hown.ints
    have hB := HB1.below
    have hsz := hB.size
    go_wp2_with fail
    refine (sPackAll_any _ _ ⟨F.sizes, !F.big, F.aligned⟩ (unpackAllL F bs) _ hF hit).mono ?_; rintro e w3 ⟨v3, rfl, ho, hb3⟩
    have hD := hB.trans (hb3.mono hB.size)
    go_wp2
    go_ret
    rw [HQ.out]
    exact ⟨_, rfl, ho.mono hsz, hD⟩

end Go.Proofs.Ytmiamnaholnnoaa
