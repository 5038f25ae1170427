/- Contracts: bytes of items. No conditions. -/
import Derived.Test.YtmiamnaholnnoaaQB
import Derived.Test.YtmiamnaholnnoaaQ4
import Derived.Test.YtmiamnaholnnoaaQ5
import Derived.Test.YtmiamnaholnnoaaKR
import Derived.Deep.Cut
import Derived.Deep.LoopGhost
namespace Go.Proofs.Ytmiamnaholnnoaa
open Go.RowKit

set_option maxRecDepth 100000 in
set_option maxHeartbeats 800000 in
theorem areBytes1_any (x : Int) (w : World) :
    Calls Try.prog 71 #[.int .i64 x] w fun e w' => e = .returned (.bool (!isByte x)) ∧ w = w' := by
  by_cases h1 : x < 0
  · have H := hid (show isByte x = false from inR_no (by omega))
    go_enter Try.func71, Try.ntmps71
    go_wp2
    go_ret
    exact ⟨ret_bool (by rw [H.out]; rfl), rfl⟩
  by_cases h2 : 255 < x
  · have H := hid (show isByte x = false from inR_no (by omega))
    go_enter Try.func71, Try.ntmps71
    go_wp2
    go_ret
    exact ⟨ret_bool (by rw [H.out]; rfl), rfl⟩
  have H := hid (show isByte x = true from inR_yes (by omega) (by omega))
  go_enter Try.func71, Try.ntmps71
  go_wp2
  go_ret
  exact ⟨ret_bool (by rw [H.out]; rfl), rfl⟩
theorem cf_areBytes1 (ar : Array Value) (w : World) : (callFunc 71 ar).run Try.prog w = .ok (.enter 71 ar) w := by kernel_rfl
set_option maxRecDepth 100000 in
set_option maxHeartbeats 800000 in
theorem areBytes_any (v : Value) (xs : List Int) (w : World) (h : Ints w v xs) :
    Calls Try.prog 50 #[v] w fun e w' => e = .returned (.bool (xs.all isByte)) ∧ w = w' := by
  have h0 := h
  obtain ⟨A, c, rfl, hk, hm, -⟩ := h
  unfold maxLen at hm
  have HN := hid (any_not_all xs isByte)
  go_enter Try.func50, Try.ntmps50
  go_wp2_with fail
  refine (ContainsFunc_any 71 cf_areBytes1 (fun x => !isByte x) areBytes1_any _ xs _ h0).mono ?_; rintro e w' ⟨rfl, rfl⟩
  go_wp2
  go_ret
  exact ⟨ret_bool HN.out, rfl⟩

set_option maxRecDepth 100000 in
set_option maxHeartbeats 6400000 in
theorem sItemSize_any (v : Value) (F : FL) (w : World) (hv : FormatV w v F) (hok : isFormatL F = true) :
    Calls Try.prog 54 #[v] w fun e w' => e = .returned (.int .i64 (sizeF F)) ∧ Below w.heap.size w w' := by
  obtain ⟨A, c, rfl, hk, hm, h0⟩ := hv.form
  have HB := FBox.new h0
  have HOK := hid hok
  go_enter Try.func54, Try.ntmps54
  go_wp2_with fail
  generalize w.alloc (.cells #[.slice A F.sizes.length c, .bool F.big, .bool F.aligned] 25) = W1 at *
  refine (validFormat_any _ F _ HB.format).mono ?_; rintro e w1 ⟨rfl, hb1⟩
  have HB1 := HB.nx hb1
  rw [hok]
  obtain ⟨⟨q1, q2, q3⟩, r1, r2, r3⟩ := HB1.blk.all3
  go_wp2_with fail
  refine (places_any _ F _ HB1.format HOK.out).mono ?_; rintro e w2 ⟨v1, rfl, hP, hb2⟩
  have HB2 := HB1.nx hb2
  obtain ⟨A1, c1, e1⟩ := hP.form
  subst e1
  clear hok q1 q2 q3 r1 r2 r3 hP
  go_wp2
  go_ret
  exact ⟨rfl, HB2.below⟩

/-- Where a byte of a field lies. -/
def byteIx (F : FL) (k : Nat) (p : Int) (i : Int) : Int := if F.big then p + F.sizes.getD k 0 - 1 - i else p + i
set_option maxRecDepth 100000 in
set_option maxHeartbeats 6400000 in
theorem byteAt_any (v : Value) (F : FL) (k : Nat) (p i : Int) (w : World) (hv : FormatV w v F) (hk : k < F.sizes.length) (hs : 0 ≤ F.sizes[k] ∧ F.sizes[k] ≤ 4) (hp : 0 ≤ p ∧ p ≤ 100000) (hi : 0 ≤ i ∧ i ≤ 100) :
    Calls Try.prog 68 #[v, .int .i64 k, .int .i64 p, .int .i64 i] w fun e w' => e = .returned (.int .i64 (byteIx F k p i)) ∧ Below w.heap.size w w' := by
  obtain ⟨A, c, rfl, hk0, hm, h0⟩ := hv.form
  have HB := FBox.new h0
  have e2 : F.sizes.getD k 0 = F.sizes[k] := by simp [hk]
  have HE := hid (show byteIx F k p i = if F.big then p + F.sizes[k] - 1 - i else p + i by rw [← e2]; rfl)
  go_enter Try.func68, Try.ntmps68
  go_upto_region 1 with fail
  generalize w.alloc (.cells #[.slice A F.sizes.length c, .bool F.big, .bool F.aligned] 25) = W1 at *
  obtain ⟨⟨q1, q2, q3⟩, r1, r2, r3⟩ := HB.blk.all3
  obtain ⟨b, off, rfl, hx⟩ := HB.elem k hk
  have hb := HB.below
  generalize F.sizes[k] = s at *
  clear e2
  rcases hbg : F.big with _ | _
  · have HR := hid (show byteIx F k p i = p + i by rw [HE.out, hbg]; rfl)
    rw [hbg] at q2
    clear hbg
    go_wp2
    go_ret
    exact ⟨ret_int HR.out.symm, hb⟩
  · have HR := hid (show byteIx F k p i = p + s - 1 - i by rw [HE.out, hbg]; rfl)
    rw [hbg] at q2
    clear hbg
    go_wp2
    go_ret
    exact ⟨ret_int HR.out.symm, hb⟩

/-- The loop of numberOf, from its list on. -/
def revIf (big : Bool) (bs : List Int) : List Int := if big then bs else bs.reverse
theorem numBE_bd (bs : List Int) (h : ∀ b ∈ bs, 0 ≤ b ∧ b ≤ 255) : 0 ≤ numBE bs ∧ numBE bs < 256 ^ bs.length := by
  have := numLE_bd bs.reverse (fun b hb => h b (List.mem_reverse.1 hb))
  rw [← numBE_rev, List.reverse_reverse, List.length_reverse] at this
  exact this
theorem numBE_step (bs : List Int) (k : Nat) (hk : k < bs.length) (h4 : bs.length ≤ 4) (h : ∀ b ∈ bs, 0 ≤ b ∧ b ≤ 255) :
    numBE (bs.take (k + 1)) = 256 * numBE (bs.take k) + bs[k] ∧ 0 ≤ numBE (bs.take k) ∧ numBE (bs.take k) ≤ 16777216 ∧ 0 ≤ bs[k] ∧ bs[k] ≤ 255 := by
  have h1 := numBE_bd (bs.take k) (fun b hb => h b (List.mem_of_mem_take hb))
  have h2 := h bs[k] (List.getElem_mem hk)
  rw [List.length_take, Nat.min_eq_left (by omega)] at h1
  have h3 : (256 : Int) ^ k ≤ 256 ^ 3 := by
    have : k = 0 ∨ k = 1 ∨ k = 2 ∨ k = 3 := by omega
    rcases this with rfl | rfl | rfl | rfl <;> decide
  have e : (256 : Int) ^ 3 = 16777216 := by decide
  refine ⟨by rw [take_snocI bs k hk, numBE_snoc], h1.1, by omega, h2.1, h2.2⟩
set_option maxRecDepth 100000 in
set_option maxHeartbeats 6400000 in
theorem numberOf_any (v : Value) (bs : List Int) (big : Bool) (w : World) (hv : Ints w v bs) (h4 : bs.length ≤ 4) (hb : ∀ b ∈ bs, 0 ≤ b ∧ b ≤ 255) :
    Calls Try.prog 74 #[v, .bool big] w fun e w' => e = .returned (.int .i64 (numF big bs)) ∧ Below w.heap.size w w' := by
  have HF := hid (show numF big bs = numBE (revIf big bs) from numF_BE big bs)
  have hl : (revIf big bs).length = bs.length := by unfold revIf; split <;> simp
  have hbr : ∀ b ∈ revIf big bs, 0 ≤ b ∧ b ≤ 255 := fun b h => hb b (by unfold revIf at h; split at h; exact h; exact List.mem_reverse.1 h)
  cases big
  · have e0 : revIf false bs = bs.reverse := rfl
    go_enter Try.func74, Try.ntmps74
    go_wp2_with fail
    refine (reversed_any _ bs _ hv (by omega)).mono ?_; rintro e w1 ⟨v1, rfl, ho, hb1⟩
    rw [← e0] at ho
    have hi1 := ho.ints
    generalize revIf false bs = ys at *
    clear ho e0
    obtain ⟨A, c, rfl, hk, hm, h3⟩ := hi1
    unfold maxLen at hm
    go_wp2_with fail
    go_loop [5, 6] (fun x i => ∃ k : Nat, k ≤ ys.length ∧ i = .int .i64 k ∧ x = .int .i64 (numBE (ys.take k))) (fun _ i => ys.length - (intOf i).toNat)
    case atStart => exact ⟨0, Nat.zero_le _, rfl, rfl⟩
    case round =>
      obtain ⟨k, hk1, rfl, rfl⟩ := hrel
      by_cases hlt : k < ys.length
      · obtain ⟨b, off, rfl, hbb, hc⟩ := h3 (by omega)
        have hx := hc k ys[k] (by simp [hlt])
        obtain ⟨HS, n1, n2, n3, n4⟩ := numBE_step ys k hlt (by omega) hbr
        have HS := hid HS
        generalize numBE (ys.take k) = N at *
        clear hc h3 hbr hb
        go_wp2
        go_round
        case rel => exact ⟨k + 1, by omega, by go_num, by rw [HS.out]⟩
        case measure => simp [intOf]; omega
      · obtain rfl : k = ys.length := by omega
        rw [List.take_length]
        go_wp2
        go_ret
        exact ⟨ret_int HF.out.symm, hb1⟩
  · have e0 : revIf true bs = bs := rfl
    rw [← e0] at hv
    generalize revIf true bs = ys at *
    clear e0
    obtain ⟨A, c, rfl, hk, hm, h3⟩ := hv
    unfold maxLen at hm
    go_enter Try.func74, Try.ntmps74
    go_wp2_with fail
    go_loop [5, 6] (fun x i => ∃ k : Nat, k ≤ ys.length ∧ i = .int .i64 k ∧ x = .int .i64 (numBE (ys.take k))) (fun _ i => ys.length - (intOf i).toNat)
    case atStart => exact ⟨0, Nat.zero_le _, rfl, rfl⟩
    case round =>
      obtain ⟨k, hk1, rfl, rfl⟩ := hrel
      by_cases hlt : k < ys.length
      · obtain ⟨b, off, rfl, hbb, hc⟩ := h3 (by omega)
        have hx := hc k ys[k] (by simp [hlt])
        obtain ⟨HS, n1, n2, n3, n4⟩ := numBE_step ys k hlt (by omega) hbr
        have HS := hid HS
        generalize numBE (ys.take k) = N at *
        clear hc h3 hbr hb
        go_wp2
        go_round
        case rel => exact ⟨k + 1, by omega, by go_num, by rw [HS.out]⟩
        case measure => simp [intOf]; omega
      · obtain rfl : k = ys.length := by omega
        rw [List.take_length]
        go_wp2
        go_ret
        exact ⟨ret_int HF.out.symm, Below.refl _ _⟩

end Go.Proofs.Ytmiamnaholnnoaa
