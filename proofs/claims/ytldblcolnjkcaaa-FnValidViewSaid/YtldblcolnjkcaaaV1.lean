/- Contracts: copies of views, cleared views. No conditions. -/
import Derived.Test.YtldblcolnjkcaaaC1
import Derived.Test.YtldblcolnjkcaaaV3
import Derived.Outline
import Derived.Deep.RegionHeld3
namespace Go.Proofs.Ytldblcolnjkcaaa
open Go.RowKit

/-- A view without indices has the base 0 and no strides. -/
def tidyL (V : VL) : VL := if prodW V.shape = 0 then ⟨0, V.shape, zerosL V.shape.length⟩ else V
/-- What a function leaves that hands on a view of the call's own. -/
def RetViewO (w : World) (B : Nat) (V : VL) (e : Ending) (w' : World) : Prop := ∃ sv tv, e = .returned (.agg #[.int .i64 V.base, sv, tv]) ∧
  Own w' B sv V.shape ∧ Own w' B tv V.strides ∧ Sep sv tv ∧ Below w.heap.size w w'

set_option maxRecDepth 100000 in
set_option maxHeartbeats 800000 in
theorem cleared_any (sv tv : Value) (V : VL) (B : Nat) (w : World) (hs : Own w B sv V.shape) (ht : Own w B tv V.strides) (hsep : Sep sv tv) (hB : B ≤ w.heap.size) (hl : V.shape.length ≤ 1000000) :
    Calls Try.prog 109 #[.agg #[.int .i64 V.base, sv, tv]] w (RetViewO w B (tidyL V)) := by
  have hA := (Blk.new w 43 #[.int .i64 V.base, sv, tv]).alloc (.cells #[.int .i64 0, .slice none 0 0, .slice none 0 0] 43)
  have hR := Blk.new (w.alloc (.cells #[.int .i64 V.base, sv, tv] 43)) 43 #[.int .i64 0, .slice none 0 0, .slice none 0 0]
  have hW : Below w.heap.size w ((w.alloc (.cells #[.int .i64 V.base, sv, tv] 43)).alloc (.cells #[.int .i64 0, .slice none 0 0, .slice none 0 0] 43)) := ((Below.refl _ _).alloc (Nat.le_refl _) _).alloc (by simp) _
  simp only [World.size_alloc] at hR
  obtain ⟨As, cs, es⟩ := hs.form
  subst es
  obtain ⟨At, ct, et⟩ := ht.form
  subst et
  have hs1 := hs.ext hW
  have ht1 := ht.ext hW
  have hsg := hs.seg
  have htg := ht.seg
  by_cases c : prodW V.shape = 0
  · have HQ := hid (show tidyL V = ⟨0, V.shape, zerosL V.shape.length⟩ by simp [tidyL, c])
    have HC := hid c
    clear c
    go_enter Try.func109, Try.ntmps109
    go_wp2_with fail
    generalize (w.alloc (.cells #[.int .i64 V.base, .slice As V.shape.length cs, .slice At V.strides.length ct] 43)).alloc (.cells #[.int .i64 0, .slice none 0 0, .slice none 0 0] 43) = W1 at *
    obtain ⟨⟨q0, q1, q2⟩, qf0, qf1, qf2⟩ := id hA.all3
    obtain ⟨⟨r0, r1, r2⟩, rf0, rf1, rf2⟩ := id hR.all3
    go_wp2_with fail
    refine (countOf_any _ V.shape _ hs1.ints).mono ?_; rintro e w' ⟨rfl, rfl⟩
    rw [HC.out]
    go_wp2_with (at_make; refine mk0 _ rfl _ _ rfl V.shape.length rfl rfl (by omega) ?_)
    intro w2 ho2 hb2
    have hA1 := hA.set_ 0 (.int .i64 0)
    simp only [List.setIfInBounds_toArray, List.set_cons_zero] at hA1
    have hA2 := hA1.ext hb2 hA.lt
    have hR2 := (hR.far (p := ⟨w.heap.size, 0, none⟩) (by simp) (.int .i64 0)).ext hb2 hR.lt
    have hn0 := hA.lt
    have hn1 := hR.lt
    have hn2 := hb2.size
    simp only [World.size_setCell] at hn2
    have hs2 := (hs1.off (p := ⟨w.heap.size, 0, none⟩) (fun k e => by have := hsg k e; simp; omega) (.int .i64 0)).grow hb2 (by simp)
    have hD : Below w.heap.size w w2 := (hW.setCell (p := ⟨w.heap.size, 0, none⟩) (by simp) _).trans (hb2.mono (by omega))
    clear q0 q1 q2 qf0 qf1 qf2 r0 r1 r2 rf0 rf1 rf2
    obtain ⟨⟨q0, q1, q2⟩, qf0, qf1, qf2⟩ := id hA2.all3
    obtain ⟨⟨r0, r1, r2⟩, rf0, rf1, rf2⟩ := id hR2.all3
    go_wp2
    refine bodyPost_ret (v := .agg #[.int .i64 0, .slice As V.shape.length cs, .slice (some ⟨W1.heap.size, 0, none⟩) V.shape.length V.shape.length]) (by simp [results, Try.results109, go_sem, r0, r1, r2]) rfl ?_
    rw [HQ.out]
    have hsg2 := ho2.seg
    have ho3 : Own w2 B (.slice (some ⟨W1.heap.size, 0, none⟩) V.shape.length V.shape.length) (zerosL V.shape.length) := ho2.mono (by omega)
    exact ⟨_, _, rfl, own3 (hs2.off (fun k e => by have := hsg k e; simp; omega) _) hsg (by omega) _ _ _, own3 (ho3.off (fun k e => by have := hsg2 k e; simp; omega) _) hsg2 (by omega) _ _ _,
      hsg.sep hsg2 (by omega), below3 (hD.setCell (by simp) _) (by omega) _ _ _⟩
  · have HQ := hid (show tidyL V = V by simp [tidyL, c])
    have hc0 : (prodW V.shape == 0) = false := by simpa using c
    clear c
    go_enter Try.func109, Try.ntmps109
    go_wp2_with fail
    generalize (w.alloc (.cells #[.int .i64 V.base, .slice As V.shape.length cs, .slice At V.strides.length ct] 43)).alloc (.cells #[.int .i64 0, .slice none 0 0, .slice none 0 0] 43) = W1 at *
    obtain ⟨⟨q0, q1, q2⟩, qf0, qf1, qf2⟩ := id hA.all3
    obtain ⟨⟨r0, r1, r2⟩, rf0, rf1, rf2⟩ := id hR.all3
    go_wp2_with fail
    refine (countOf_any _ V.shape _ hs1.ints).mono ?_; rintro e w' ⟨rfl, rfl⟩
    go_wp2
    refine bodyPost_ret (v := .agg #[.int .i64 V.base, .slice As V.shape.length cs, .slice At V.strides.length ct]) (by simp [results, Try.results109, go_sem, r0, r1, r2]) rfl ?_
    rw [HQ.out]
    exact ⟨_, _, rfl, own3 hs1 hsg (by omega) _ _ _, own3 ht1 htg (by omega) _ _ _, hsep, below3 hW (by omega) _ _ _⟩

end Go.Proofs.Ytldblcolnjkcaaa
