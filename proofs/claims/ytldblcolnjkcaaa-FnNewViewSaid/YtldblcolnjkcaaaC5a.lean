/- Contracts: the exported OffsetsOf, both. No conditions. -/
import Derived.Test.YtldblcolnjkcaaaC4
import Derived.Test.YtldblcolnjkcaaaS2
namespace Go.Proofs.Ytldblcolnjkcaaa
open Go.RowKit
set_option maxHeartbeats 400000 in
theorem OffsetsOf_any (v : Value) (V : VL) (w : World) (hv : ViewV w v V) :
    Calls Try.prog 34 #[v] w (RetOwn w (offsOf V)) := by
  have hv0 := hv
  obtain ⟨sv, tv, rfl, hsv, htv⟩ := hv
  have hB := Blk.new w 43 #[.int .i64 V.base, sv, tv]
  have hv1 := hv0.ext (below_alloc w (.cells #[.int .i64 V.base, sv, tv] 43))
  cases c : isViewL V
  · have HQ := hid (show offsOf V = [] by simp [offsOf, c])
    go_enter Try.func34, Try.ntmps34
    go_wp2_with fail
    refine (isView_any _ V _ hv1).mono ?_; rintro e w1 ⟨rfl, hb1⟩
    go_wp2
    go_ret
    exact ⟨_, rfl, by rw [HQ.out]; exact Own.nil _ _, (below_alloc w _).trans (hb1.mono (by simp))⟩
  · have HQ := hid (show offsOf V = offs V by simp [offsOf, c])
    have HV := hid (isViewL_and c)
    go_enter Try.func34, Try.ntmps34
    go_wp2_with fail
    refine (isView_any _ V _ hv1).mono ?_; rintro e w1 ⟨rfl, hb1⟩
    obtain ⟨⟨q0, q1, q2⟩, -⟩ := (hB.ext hb1 (by simp)).all3
    go_wp2_with fail
    refine (offsetsOf_any _ V _ (hv1.ext hb1) HV.out.1 HV.out.2.1).mono ?_; rintro e w2 ⟨r, rfl, ho, hb2⟩
    go_wp2
    go_ret
    have hb01 : Below w.heap.size w w1 := (below_alloc w _).trans (hb1.mono (by simp))
    exact ⟨_, rfl, by rw [HQ.out]; exact ho.mono hb01.size, bstep hb01 hb2 hb01.size⟩

end Go.Proofs.Ytldblcolnjkcaaa
