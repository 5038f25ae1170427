/- Contracts: views that are made if they are valid. No conditions. -/
import Derived.Test.YtldblcolnjkcaaaG3
import Derived.Test.YtldblcolnjkcaaaD1
import Derived.Test.YtldblcolnjkcaaaC4
import Derived.Test.YtldblcolnjkcaaaS2
import Derived.Outline
import Derived.Deep.RegionHeld3
namespace Go.Proofs.Ytldblcolnjkcaaa
open Go.RowKit

set_option maxRecDepth 100000 in
set_option maxHeartbeats 800000 in
theorem made_any (v : Value) (V : VL) (w : World) (hv : ViewV w v V) :
    Calls Try.prog 182 #[v] w (RetViewB w (madeL V) (isViewL V)) := by
  have hv0 := hv
  obtain ⟨sv, tv, rfl, hsv, htv⟩ := hv
  have hA := (Blk.new w 43 #[.int .i64 V.base, sv, tv]).alloc (.cells #[.int .i64 0, .slice none 0 0, .slice none 0 0] 43)
  have hR := Blk.new (w.alloc (.cells #[.int .i64 V.base, sv, tv] 43)) 43 #[.int .i64 0, .slice none 0 0, .slice none 0 0]
  have hW : Below w.heap.size w ((w.alloc (.cells #[.int .i64 V.base, sv, tv] 43)).alloc (.cells #[.int .i64 0, .slice none 0 0, .slice none 0 0] 43)) := ((Below.refl _ _).alloc (Nat.le_refl _) _).alloc (by simp) _
  have hN : w.heap.size + 2 ≤ ((w.alloc (.cells #[.int .i64 V.base, sv, tv] 43)).alloc (.cells #[.int .i64 0, .slice none 0 0, .slice none 0 0] 43)).heap.size := by simp
  simp only [World.size_alloc] at hR
  cases c : isViewL V
  · have HQ := hid (show madeL V = VL.zero by simp [madeL, c])
    go_enter Try.func182, Try.ntmps182
    go_wp2_with fail
    generalize (w.alloc (.cells #[.int .i64 V.base, sv, tv] 43)).alloc (.cells #[.int .i64 0, .slice none 0 0, .slice none 0 0] 43) = W1 at *
    refine (validView_any _ V _ (hv0.ext hW)).mono ?_; rintro e w1 ⟨rfl, hb1⟩
    obtain ⟨⟨r0, r1, r2⟩, rf0, rf1, rf2⟩ := (hR.ext hb1 hR.lt).all3
    have hD := bstep hW hb1 hW.size
    have hz := hb1.size
    go_wp2
    refine bodyPost_ret (v := .tuple #[.agg #[.int .i64 0, .slice none 0 0, .slice none 0 0], .bool false]) (by simp [results, Try.results182, go_sem, r0, r1, r2]) rfl ?_
    rw [HQ.out]
    refine ⟨_, _, rfl, Own.nil _ _, Own.nil _ _, Sep.none_left _, ?_⟩
    iterate 3 (refine Below.setCell ?_ (by simp <;> omega) _)
    exact hD
  · have HQ := hid (show madeL V = V by simp [madeL, c])
    have HL := hid (isViewL_lens c)
    go_enter Try.func182, Try.ntmps182
    go_wp2_with fail
    generalize (w.alloc (.cells #[.int .i64 V.base, sv, tv] 43)).alloc (.cells #[.int .i64 0, .slice none 0 0, .slice none 0 0] 43) = W1 at *
    refine (validView_any _ V _ (hv0.ext hW)).mono ?_; rintro e w1 ⟨rfl, hb1⟩
    have hA1 := hA.ext hb1 hA.lt
    obtain ⟨⟨q0, q1, q2⟩, -⟩ := id hA1.all3
    have hD := bstep hW hb1 hW.size
    go_wp2_with fail
    refine (scopyView_any _ V _ (hv0.ext hD) (by have := HL.out.1; omega) (by have := HL.out.2; omega)).mono ?_; rintro e w2 ⟨s1, u1, rfl, ho1, ho2, hsep, hb2⟩
    obtain ⟨⟨r0, r1, r2⟩, rf0, rf1, rf2⟩ := ((hR.ext hb1 hR.lt).ext hb2 (hR.ext hb1 hR.lt).lt).all3
    obtain ⟨A1, c1, e1⟩ := ho1.form
    obtain ⟨A2, c2, e2⟩ := ho2.form
    subst e1 e2
    have hz1 := hb1.size
    have hz2 := hb2.size
    have hD2 := bstep hD hb2 hD.size
    have ho1' := ho1.mono (B' := w.heap.size + 2) (by omega)
    have ho2' := ho2.mono (B' := w.heap.size + 2) (by omega)
    clear q0 q1 q2
    go_wp2
    refine bodyPost_ret (v := .tuple #[.agg #[.int .i64 V.base, .slice A1 V.shape.length c1, .slice A2 V.strides.length c2], .bool true]) (by simp [results, Try.results182, go_sem, r0, r1, r2]) rfl ?_
    rw [HQ.out]
    refine ⟨_, _, rfl, ?_, ?_, hsep, ?_⟩
    · refine Own.mono (B := w.heap.size + 2) ?_ (by omega)
      iterate 3 (refine Own.far ?_ (by simp <;> omega) _)
      exact ho1'
    · refine Own.mono (B := w.heap.size + 2) ?_ (by omega)
      iterate 3 (refine Own.far ?_ (by simp <;> omega) _)
      exact ho2'
    · iterate 3 (refine Below.setCell ?_ (by simp <;> omega) _)
      exact hD2


end Go.Proofs.Ytldblcolnjkcaaa
