/- Contracts of the laws' own helpers over views: copies, marks. No conditions. -/
import Derived.Test.YtfiphjifnjnmbaaL2r
import Derived.Test.YtfiphjifnjnmbaaL1
namespace Go.Proofs.Ytfiphjifnjnmbaa
open Go.RowKit
set_option maxHeartbeats 400000 in
theorem toView_any (v : Value) (V : VL) (w : World) (h : ViewV w v V) (hl1 : V.shape.length ≤ 1048576) (hl2 : V.strides.length ≤ 1048576) :
    Calls Try.prog 90 #[v] w (RetView w V) := by
  obtain ⟨sv, tv, rfl, hs, ht⟩ := h
  go_enter Try.func90, Try.ntmps90
  go_wp2_with fail
  have hb0 : Below w.heap.size w (((w.alloc (.cells #[.int .i64 V.base, sv, tv] 84)).alloc (.cells #[.int .i64 0, .slice none 0 0, .slice none 0 0] 68)).alloc (.cells #[.int .i64 V.base, .slice none 0 0, .slice none 0 0] 68)) := (((Below.refl _ _).alloc (Nat.le_refl _) _).alloc (by simp) _).alloc (by simp; omega) _
  refine (toIntS_any _ V.shape _ (hs.ext hb0) hl1).mono ?_; rintro e w1 ⟨s1, rfl, ho1, hb1⟩
  have hA1 := (((Blk.new w 84 #[.int .i64 V.base, sv, tv]).alloc _).alloc _).ext hb1 (by simp; omega)
  have hR1 := ((Blk.new (w.alloc (.cells #[.int .i64 V.base, sv, tv] 84)) 68 #[.int .i64 0, .slice none 0 0, .slice none 0 0]).alloc _).ext hb1 (by simp)
  have hO1 := (Blk.new ((w.alloc (.cells #[.int .i64 V.base, sv, tv] 84)).alloc (.cells #[.int .i64 0, .slice none 0 0, .slice none 0 0] 68)) 68 #[.int .i64 V.base, .slice none 0 0, .slice none 0 0]).ext hb1 (by simp)
  simp only [World.size_alloc] at hR1 hO1
  have hn1 : w.heap.size + 3 ≤ w1.heap.size := by have := hb1.size; simp at this; omega
  have ho1 := ho1.mono (B' := w.heap.size + 3) (by simp)
  have hbw1 : Below w.heap.size w w1 := hb0.trans (hb1.mono (by simp; omega))
  obtain ⟨A1, c1, rfl⟩ := ho1.form
  have hseg := ho1.seg
  clear hb0 hb1
  obtain ⟨⟨qa0, qa1, qa2⟩, -⟩ := hA1.all3
  obtain ⟨⟨qr0, qr1, qr2⟩, qrf0, qrf1, qrf2⟩ := hR1.all3
  obtain ⟨⟨qo0, qo1, qo2⟩, qof0, qof1, qof2⟩ := hO1.all3
  go_wp2_with fail
  have hbW : Below w.heap.size w (w1.setCell ⟨w.heap.size + 1 + 1, 1, none⟩ (.slice A1 V.shape.length c1)) := hbw1.setCell (p := ⟨w.heap.size + 1 + 1, 1, none⟩) (by simp; omega) _
  have ho2 := ho1.far (p := ⟨w.heap.size + 1 + 1, 1, none⟩) (by simp) (.slice A1 V.shape.length c1)
  have hR2 := hR1.far (p := ⟨w.heap.size + 1 + 1, 1, none⟩) (by simp) (.slice A1 V.shape.length c1)
  have hO2 := hO1.set_ 1 (.slice A1 V.shape.length c1)
  refine (toIntS_any _ V.strides _ (ht.ext hbW) hl2).mono ?_; rintro e w2 ⟨t1, rfl, ho3, hb3⟩
  clear qa0 qa1 qa2 qr0 qr1 qr2 qo0 qo1 qo2 qrf0 qrf1 qrf2 qof0 qof1 qof2
  have hn2 : w1.heap.size ≤ w2.heap.size := by have := hb3.size; simp at this; omega
  have hR3 := hR2.ext hb3 (by simp; omega)
  have hO3 := hO2.ext hb3 (by simp; omega)
  simp only [List.setIfInBounds_toArray, List.set_cons_succ, List.set_cons_zero] at hO3
  have ho3 := ho3.mono (B' := w1.heap.size) (by simp)
  have ho2 := ho2.ext hb3
  have hbw2 : Below w.heap.size w w2 := hbW.trans (hb3.mono hbW.size)
  obtain ⟨A2, c2, rfl⟩ := ho3.form
  have hsep := hseg.sep ho3.seg (Nat.le_refl _)
  clear hb3 hbW hR1 hR2 hO1 hO2
  obtain ⟨⟨qr0, qr1, qr2⟩, qrf0, qrf1, qrf2⟩ := hR3.all3
  obtain ⟨⟨qo0, qo1, qo2⟩, qof0, qof1, qof2⟩ := hO3.all3
  go_wp2
  refine bodyPost_ret (v := .agg #[.int .i64 V.base, .slice A1 V.shape.length c1, .slice A2 V.strides.length c2]) (by simp [results, Try.results90, go_sem, qr0, qr1, qr2]) rfl ⟨_, _, rfl, ?_, ?_, hsep, ?_⟩
  · refine Own.mono (B := w.heap.size + 3) ?_ (by omega)
    iterate 4 (refine Own.far ?_ (by simp <;> omega) _)
    exact ho2
  · refine Own.mono (B := w1.heap.size) ?_ (by omega)
    iterate 4 (refine Own.far ?_ (by simp <;> omega) _)
    exact ho3
  · iterate 4 (refine Below.setCell ?_ (by simp <;> omega) _)
    exact hbw2

end Go.Proofs.Ytfiphjifnjnmbaa
