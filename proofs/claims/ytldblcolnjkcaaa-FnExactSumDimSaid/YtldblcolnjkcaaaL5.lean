/- Contracts of the laws' own helpers over tensors: sizes, copies. No conditions. -/
import Derived.Test.YtldblcolnjkcaaaL3
import Derived.Test.YtldblcolnjkcaaaL1
namespace Go.Proofs.Ytldblcolnjkcaaa
open Go.RowKit

set_option maxHeartbeats 400000 in
theorem szTensor_ok (v : Value) (T : TL) (left : Nat) (w : World) (h : TensorV w v T) (hl : T.shape.length + T.values.length ≤ left) (h2 : left ≤ 1048576) :
    Calls Try.prog 60 #[v, .int .i64 left] w fun e w' => e = .returned (.int .i64 ((left - T.shape.length - T.values.length : Nat) : Int)) ∧ Below w.heap.size w w' := by
  obtain ⟨sv, tv, rfl, hs, ht⟩ := h
  go_enter Try.func60, Try.ntmps60
  go_wp2_with fail
  refine (szIntS_ok _ T.shape left _ (hs.ext (below_alloc _ _)) (by omega) h2).mono ?_; rintro e w' ⟨rfl, rfl⟩
  go_wp2_with fail
  refine (szIntS_ok _ T.values (left - T.shape.length) _ (ht.ext (below_alloc _ _)) (by omega) (by omega)).mono ?_; rintro e w' ⟨rfl, rfl⟩
  go_wp2
  go_ret
  exact ⟨rfl, below_alloc _ _⟩

set_option maxHeartbeats 400000 in
theorem szTensor_no (v : Value) (T : TL) (left : Nat) (w : World) (h : TensorV w v T) (hl : left < T.shape.length + T.values.length) (h2 : left ≤ 1048576) :
    Calls Try.prog 60 #[v, .int .i64 left] w fun e w' => e = .returned (.int .i64 (-1)) ∧ Below w.heap.size w w' := by
  obtain ⟨sv, tv, rfl, hs, ht⟩ := h
  by_cases h1 : T.shape.length ≤ left
  · go_enter Try.func60, Try.ntmps60
    go_wp2_with fail
    refine (szIntS_ok _ T.shape left _ (hs.ext (below_alloc _ _)) h1 h2).mono ?_; rintro e w' ⟨rfl, rfl⟩
    go_wp2_with fail
    refine (szIntS_no _ T.values (left - T.shape.length) _ (ht.ext (below_alloc _ _)) (by omega) (by omega)).mono ?_; rintro e w' ⟨rfl, rfl⟩
    go_wp2
    go_ret
    exact ⟨rfl, below_alloc _ _⟩
  · go_enter Try.func60, Try.ntmps60
    go_wp2_with fail
    refine (szIntS_no _ T.shape left _ (hs.ext (below_alloc _ _)) (by omega) h2).mono ?_; rintro e w' ⟨rfl, rfl⟩
    go_wp2
    go_ret
    exact ⟨rfl, below_alloc _ _⟩

set_option maxHeartbeats 400000 in
theorem toTensor_any (v : Value) (T : TL) (w : World) (h : TensorV w v T) (hl1 : T.shape.length ≤ 1048576) (hl2 : T.values.length ≤ 1048576) :
    Calls Try.prog 62 #[v] w (RetTensor w T) := by
  obtain ⟨sv, tv, rfl, hs, ht⟩ := h
  go_enter Try.func62, Try.ntmps62
  go_wp2_with fail
  have hb0 : Below w.heap.size w (((w.alloc (.cells #[sv, tv] 73)).alloc (.cells #[.slice none 0 0, .slice none 0 0] 75)).alloc (.cells #[.slice none 0 0, .slice none 0 0] 75)) := (((Below.refl _ _).alloc (Nat.le_refl _) _).alloc (by simp) _).alloc (by simp; omega) _
  refine (toIntS_any _ T.shape _ (hs.ext hb0) hl1).mono ?_; rintro e w1 ⟨s1, rfl, ho1, hb1⟩
  have hA1 := (((Blk.new w 73 #[sv, tv]).alloc _).alloc _).ext hb1 (by simp; omega)
  have hR1 := ((Blk.new (w.alloc (.cells #[sv, tv] 73)) 75 #[.slice none 0 0, .slice none 0 0]).alloc _).ext hb1 (by simp)
  have hO1 := (Blk.new ((w.alloc (.cells #[sv, tv] 73)).alloc (.cells #[.slice none 0 0, .slice none 0 0] 75)) 75 #[.slice none 0 0, .slice none 0 0]).ext hb1 (by simp)
  simp only [World.size_alloc] at hR1 hO1
  have hn1 : w.heap.size + 3 ≤ w1.heap.size := by have := hb1.size; simp at this; omega
  have ho1 := ho1.mono (B' := w.heap.size + 3) (by simp)
  have hbw1 : Below w.heap.size w w1 := hb0.trans (hb1.mono (by simp; omega))
  obtain ⟨A1, c1, rfl⟩ := ho1.form
  have hseg := ho1.seg
  clear hb0 hb1
  obtain ⟨⟨qa0, qa1⟩, -⟩ := hA1.all2
  obtain ⟨⟨qr0, qr1⟩, qrf0, qrf1⟩ := hR1.all2
  obtain ⟨⟨qo0, qo1⟩, qof0, qof1⟩ := hO1.all2
  go_wp2_with fail
  have hbW : Below w.heap.size w (w1.setCell ⟨w.heap.size + 1 + 1, 0, none⟩ (.slice A1 T.shape.length c1)) := hbw1.setCell (p := ⟨w.heap.size + 1 + 1, 0, none⟩) (by simp; omega) _
  have ho2 := ho1.far (p := ⟨w.heap.size + 1 + 1, 0, none⟩) (by simp) (.slice A1 T.shape.length c1)
  have hR2 := hR1.far (p := ⟨w.heap.size + 1 + 1, 0, none⟩) (by simp) (.slice A1 T.shape.length c1)
  have hO2 := hO1.set_ 0 (.slice A1 T.shape.length c1)
  refine (toIntS_any _ T.values _ (ht.ext hbW) hl2).mono ?_; rintro e w2 ⟨t1, rfl, ho3, hb3⟩
  clear qa0 qa1 qr0 qr1 qo0 qo1 qrf0 qrf1 qof0 qof1
  have hn2 : w1.heap.size ≤ w2.heap.size := by have := hb3.size; simp at this; omega
  have hR3 := hR2.ext hb3 (by simp; omega)
  have hO3 := hO2.ext hb3 (by simp; omega)
  simp only [List.setIfInBounds_toArray, List.set_cons_zero] at hO3
  have ho3 := ho3.mono (B' := w1.heap.size) (by simp)
  have ho2 := ho2.ext hb3
  have hbw2 : Below w.heap.size w w2 := hbW.trans (hb3.mono hbW.size)
  obtain ⟨A2, c2, rfl⟩ := ho3.form
  have hsep := hseg.sep ho3.seg (Nat.le_refl _)
  clear hb3 hbW hR1 hR2 hO1 hO2
  obtain ⟨⟨qr0, qr1⟩, qrf0, qrf1⟩ := hR3.all2
  obtain ⟨⟨qo0, qo1⟩, qof0, qof1⟩ := hO3.all2
  go_wp2
  refine bodyPost_ret (v := .agg #[.slice A1 T.shape.length c1, .slice A2 T.values.length c2]) (by simp [results, Try.results62, go_sem, qr0, qr1]) rfl ⟨_, _, rfl, ?_, ?_, hsep, ?_⟩
  · refine Own.mono (B := w.heap.size + 3) ?_ (by omega)
    iterate 3 (refine Own.far ?_ (by simp <;> omega) _)
    exact ho2
  · refine Own.mono (B := w1.heap.size) ?_ (by omega)
    iterate 3 (refine Own.far ?_ (by simp <;> omega) _)
    exact ho3
  · iterate 3 (refine Below.setCell ?_ (by simp <;> omega) _)
    exact hbw2

end Go.Proofs.Ytldblcolnjkcaaa
