/- Contracts: copies of lists and views. No conditions. -/
import Derived.Test.YtldblcolnjkcaaaBase
import Derived.Outline
import Derived.Deep.RegionHeld3
namespace Go.Proofs.Ytldblcolnjkcaaa
open Go.RowKit

set_option maxHeartbeats 400000 in
theorem copyInts_any (v : Value) (xs : List Int) (w : World) (h : Ints w v xs) (hl : xs.length ≤ 100000000) :
    Calls Try.prog 111 #[v] w (RetOwn w xs) := by
  obtain ⟨A, c, e⟩ := h.form
  subst e
  have hx := h.ext (below_alloc w (.cells #[] 3))
  have ho := Own.empty w (B := w.heap.size) rfl (Nat.le_refl _)
  have hz : ([] : List Int).length + xs.length ≤ 1000000000000 := by simp; omega
  go_enter Try.func111, Try.ntmps111
  go_wp2_with (at_builtin; refine appI _ rfl _ _ rfl w.heap.size _ [] rfl ho _ _ _ xs rfl hx hz (by simp) ?_)
  intro v' w' ho' hg hat
  go_wp2
  go_ret
  exact ⟨_, rfl, by simpa using ho', (below_alloc w _).trans (ho.under hg (by simp))⟩

set_option maxRecDepth 100000 in
set_option maxHeartbeats 800000 in
theorem scopyView_any (v : Value) (V : VL) (w : World) (hv : ViewV w v V) (hl1 : V.shape.length ≤ 100000000) (hl2 : V.strides.length ≤ 100000000) :
    Calls Try.prog 175 #[v] w (RetView w V) := by
  obtain ⟨sv, tv, rfl, hsv, htv⟩ := hv
  have hA := (Blk.new w 43 #[.int .i64 V.base, sv, tv]).alloc (.cells #[.int .i64 0, .slice none 0 0, .slice none 0 0] 43)
  have hR := Blk.new (w.alloc (.cells #[.int .i64 V.base, sv, tv] 43)) 43 #[.int .i64 0, .slice none 0 0, .slice none 0 0]
  have hW : Below w.heap.size w ((w.alloc (.cells #[.int .i64 V.base, sv, tv] 43)).alloc (.cells #[.int .i64 0, .slice none 0 0, .slice none 0 0] 43)) := ((Below.refl _ _).alloc (Nat.le_refl _) _).alloc (by simp) _
  have hN : w.heap.size + 2 ≤ ((w.alloc (.cells #[.int .i64 V.base, sv, tv] 43)).alloc (.cells #[.int .i64 0, .slice none 0 0, .slice none 0 0] 43)).heap.size := by simp
  simp only [World.size_alloc] at hR
  have t1 : True := trivial
  go_enter Try.func175, Try.ntmps175
  go_wp2_with fail
  generalize (w.alloc (.cells #[.int .i64 V.base, sv, tv] 43)).alloc (.cells #[.int .i64 0, .slice none 0 0, .slice none 0 0] 43) = W1 at *
  obtain ⟨⟨q0, q1, q2⟩, -⟩ := id hA.all3
  have hD := hW.drew
  go_region_held3 (fun w' => w'.cell? ⟨w.heap.size, 0, none⟩ = some (.int .i64 V.base) ∧ w'.cell? ⟨w.heap.size, 1, none⟩ = some sv ∧ w'.cell? ⟨w.heap.size, 2, none⟩ = some tv)
    (first | go_keep | exact hK1 | exact hK2)
    (first
      | (go_at_call 111; have _t := t1; refine (copyInts_any _ V.shape _ (hsv.ext hD) hl1).mono ?_; rintro e w1 ⟨s1, rfl, ho1, hb1⟩; clear t1; have hA1 := (Blk.ext hA (below_drew W1) hA.lt).ext hb1 hA.lt; have hR1 := (Blk.ext hR (below_drew W1) hR.lt).ext hb1 hR.lt; have hK1 := hA1.all3.1; have hD1 := bstep hD hb1 hD.size; obtain ⟨A1, c1, e1⟩ := ho1.form; subst e1)
      | (go_at_call 111; refine (copyInts_any _ V.strides _ (htv.ext hD1) hl2).mono ?_; rintro e w2 ⟨u2, rfl, ho2, hb2⟩; have hA2 := hA1.ext hb2 hA1.lt; have hR2 := hR1.ext hb2 hR1.lt; have hK2 := hA2.all3.1; have hD2 := bstep hD1 hb2 hD1.size; obtain ⟨A2, c2, e2⟩ := ho2.form; subst e2; obtain ⟨⟨r0, r1, r2⟩, rf0, rf1, rf2⟩ := id hR2.all3))
  go_wp2
  have hz1 : W1.heap.size ≤ w1.heap.size := hb1.size
  have hz2 := hb2.size
  have ho1' := (ho1.ext hb2).mono (B' := w.heap.size + 2) hN
  have ho2' := ho2.mono (B' := w.heap.size + 2) (by omega)
  have hsep := Seg.sep ho1.seg ho2.seg (Nat.le_refl _)
  refine bodyPost_ret (v := .agg #[.int .i64 V.base, .slice A1 V.shape.length c1, .slice A2 V.strides.length c2]) (by simp [results, Try.results175, go_sem, r0, r1, r2]) rfl ⟨_, _, rfl, ?_, ?_, hsep, ?_⟩
  · refine Own.mono (B := w.heap.size + 2) ?_ (by omega)
    iterate 3 (refine Own.far ?_ (by simp <;> omega) _)
    exact ho1'
  · refine Own.mono (B := w.heap.size + 2) ?_ (by omega)
    iterate 3 (refine Own.far ?_ (by simp <;> omega) _)
    exact ho2'
  · iterate 3 (refine Below.setCell ?_ (by simp <;> omega) _)
    exact hD2

end Go.Proofs.Ytldblcolnjkcaaa
