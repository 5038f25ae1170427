/- Contracts: sums of views. No conditions. -/
import Derived.Test.YtmglcapjccbknaaK2
import Derived.Outline
namespace Go.Proofs.Ytmglcapjccbknaa
open Go.RowKit

set_option maxRecDepth 100000 in
set_option maxHeartbeats 800000 in
theorem SumView_any (m v : Value) (mem : List Int) (V : VL) (w : World) (hm : Ints w m mem) (hv : ViewV w v V) :
    Calls Try.prog 26 #[m, v] w fun e w' => e = .returned (.int .i64 (sumL mem V)) ∧ Below w.heap.size w w' := by
  have hv0 := hv
  obtain ⟨sv, tv, rfl, hsv, htv⟩ := hv
  have hB := Blk.new w 28 #[.int .i64 V.base, sv, tv]
  have hW := below_alloc w (.cells #[.int .i64 V.base, sv, tv] 28)
  cases c : holdL mem V
  · have HQ := hid (show sumL mem V = -1 by simp [sumL, c])
    go_enter Try.func26, Try.ntmps26
    go_wp2_with fail
    refine (canHold_any _ _ mem V _ (hm.ext hW) (hv0.ext hW)).mono ?_; rintro e w1 ⟨rfl, hb1⟩
    go_wp2
    go_ret
    exact ⟨ret_int HQ.out.symm, bstep hW hb1 hW.size⟩
  · have HQ := hid (show sumL mem V = sumW (takenL mem (offs V)) by simp [sumL, c])
    have HC := hid c
    go_enter Try.func26, Try.ntmps26
    go_wp2_with fail
    refine (canHold_any _ _ mem V _ (hm.ext hW) (hv0.ext hW)).mono ?_; rintro e w1 ⟨rfl, hb1⟩
    obtain ⟨⟨q0, q1, q2⟩, -⟩ := (hB.ext hb1 (by simp)).all3
    have hb01 := bstep hW hb1 hW.size
    go_wp2_with fail
    refine (loadView_any _ _ mem V _ (hm.ext hb01) (hv0.ext hb01) HC.out).mono ?_; rintro e w2 ⟨r, rfl, ho, hb2⟩
    have hb02 := bstep hb01 hb2 hb01.size
    obtain ⟨A, c', rfl, h1, h2, h3⟩ := ho.ints
    unfold maxLen at h2
    generalize takenL mem (offs V) = L at *
    clear q0 q1 q2 ho
    go_wp2
    go_loop [5, 16] (fun n i => ∃ k : Nat, k ≤ L.length ∧ i = .int .i64 k ∧ n = .int .i64 (sumW (L.take k))) (fun _ i => L.length - (intOf i).toNat)
    case atStart => exact ⟨0, Nat.zero_le _, rfl, rfl⟩
    case round =>
      obtain ⟨k, hk, rfl, rfl⟩ := hrel
      by_cases hlt : k < L.length
      · obtain ⟨b, off, rfl, hb, hc⟩ := h3 (by omega)
        have hx := hc k L[k] (by simp [hlt])
        have HS := hid (sumW_snoc L k hlt)
        clear hc h3
        go_wp2
        go_round
        case rel => exact ⟨k + 1, by omega, by go_num, by rw [HS.out]⟩
        case measure => simp [intOf]; omega
      · have HE := hid (show sumW (L.take k) = sumW L by rw [List.take_of_length_le (by omega)])
        go_wp2
        go_ret
        exact ⟨ret_int (HE.out.trans HQ.out.symm), hb02⟩

set_option maxRecDepth 100000 in
set_option maxHeartbeats 800000 in
theorem sSumView_any (m v : Value) (mem : List Int) (V : VL) (w : World) (hm : Ints w m mem) (hv : ViewV w v V) :
    Calls Try.prog 25 #[m, v] w fun e w' => e = .returned (.int .i64 (sumL mem V)) ∧ Below w.heap.size w w' := by
  have hv0 := hv
  obtain ⟨sv, tv, rfl, hsv, htv⟩ := hv
  have hB := Blk.new w 28 #[.int .i64 V.base, sv, tv]
  have hW := below_alloc w (.cells #[.int .i64 V.base, sv, tv] 28)
  cases c : holdL mem V
  · have HQ := hid (show sumL mem V = -1 by simp [sumL, c])
    go_enter Try.func25, Try.ntmps25
    go_wp2_with fail
    refine (sees_any _ _ mem V _ (hm.ext hW) (hv0.ext hW)).mono ?_; rintro e w1 ⟨rfl, hb1⟩
    go_wp2
    go_ret
    exact ⟨ret_int HQ.out.symm, bstep hW hb1 hW.size⟩
  · have HQ := hid (show sumL mem V = sumW (takenL mem (offs V)) by simp [sumL, c])
    have HC := hid c
    go_enter Try.func25, Try.ntmps25
    go_wp2_with fail
    refine (sees_any _ _ mem V _ (hm.ext hW) (hv0.ext hW)).mono ?_; rintro e w1 ⟨rfl, hb1⟩
    obtain ⟨⟨q0, q1, q2⟩, -⟩ := (hB.ext hb1 (by simp)).all3
    have hb01 := bstep hW hb1 hW.size
    go_wp2_with fail
    refine (load_any _ _ mem V _ (hm.ext hb01) (hv0.ext hb01) HC.out).mono ?_; rintro e w2 ⟨r, rfl, ho, hb2⟩
    have hb02 := bstep hb01 hb2 hb01.size
    obtain ⟨A, c', rfl, h1, h2, h3⟩ := ho.ints
    unfold maxLen at h2
    generalize takenL mem (offs V) = L at *
    clear q0 q1 q2 ho
    go_wp2
    go_loop [5, 7] (fun n i => ∃ k : Nat, k ≤ L.length ∧ i = .int .i64 k ∧ n = .int .i64 (sumW (L.take k))) (fun _ i => L.length - (intOf i).toNat)
    case atStart => exact ⟨0, Nat.zero_le _, rfl, rfl⟩
    case round =>
      obtain ⟨k, hk, rfl, rfl⟩ := hrel
      by_cases hlt : k < L.length
      · obtain ⟨b, off, rfl, hb, hc⟩ := h3 (by omega)
        have hx := hc k L[k] (by simp [hlt])
        have HS := hid (sumW_snoc L k hlt)
        clear hc h3
        go_wp2
        go_round
        case rel => exact ⟨k + 1, by omega, by go_num, by rw [HS.out]⟩
        case measure => simp [intOf]; omega
      · have HE := hid (show sumW (L.take k) = sumW L by rw [List.take_of_length_le (by omega)])
        go_wp2
        go_ret
        exact ⟨ret_int (HE.out.trans HQ.out.symm), hb02⟩

end Go.Proofs.Ytmglcapjccbknaa
