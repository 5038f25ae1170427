/- Contracts of the laws' own helpers over views: copies, marks. No conditions. -/
import Derived.Test.YtonlhphgoedcnaaL1
namespace Go.Proofs.Ytonlhphgoedcnaa
open Go.RowKit

set_option maxHeartbeats 400000 in
theorem toView_any (v : Value) (V : VL) (w : World) (h : ViewV w v V) (hl1 : V.shape.length ≤ 1048576) (hl2 : V.strides.length ≤ 1048576) :
    Calls Try.prog 36 #[v] w (RetView w V) := by
  obtain ⟨sv, tv, rfl, hs, ht⟩ := h
  go_enter Try.func36, Try.ntmps36
  go_wp2_with fail
  have hb0 : Below w.heap.size w (((w.alloc (.cells #[.int .i64 V.base, sv, tv] 46)).alloc (.cells #[.int .i64 0, .slice none 0 0, .slice none 0 0] 27)).alloc (.cells #[.int .i64 V.base, .slice none 0 0, .slice none 0 0] 27)) := (((Below.refl _ _).alloc (Nat.le_refl _) _).alloc (by simp) _).alloc (by simp; omega) _
  refine (toIntS_any _ V.shape _ (hs.ext hb0) hl1).mono ?_; rintro e w1 ⟨s1, rfl, ho1, hb1⟩
  have hA1 := (((Blk.new w 46 #[.int .i64 V.base, sv, tv]).alloc _).alloc _).ext hb1 (by simp; omega)
  have hR1 := ((Blk.new (w.alloc (.cells #[.int .i64 V.base, sv, tv] 46)) 27 #[.int .i64 0, .slice none 0 0, .slice none 0 0]).alloc _).ext hb1 (by simp)
  have hO1 := (Blk.new ((w.alloc (.cells #[.int .i64 V.base, sv, tv] 46)).alloc (.cells #[.int .i64 0, .slice none 0 0, .slice none 0 0] 27)) 27 #[.int .i64 V.base, .slice none 0 0, .slice none 0 0]).ext hb1 (by simp)
  simp only [World.size_alloc] at hR1 hO1
  have hn1 : w.heap.size + 3 ≤ w1.heap.size := by have := hb1.size; simp at this; omega
  have ho1 := ho1.mono (B' := w.heap.size + 3) (by simp)
  have hbw1 : Below w.heap.size w w1 := hb0.trans (hb1.mono (by simp; omega))
  obtain ⟨A1, c1, rfl⟩ := ho1.form
  have hseg := ho1.seg
  clear hb0 hb1
  obtain ⟨⟨qa0, qa1, qa2⟩, -⟩ := hA1.all3
  obtain ⟨⟨qr0, qr1, qr2⟩, qrf0, qrf1, qrf2⟩ := hR1.all3
  obtain ⟨⟨qo0, qo1, qo2⟩, qof0, qof1, qof2⟩ := hO1.all3
  go_wp2_with fail
  have hbW : Below w.heap.size w (w1.setCell ⟨w.heap.size + 1 + 1, 1, none⟩ (.slice A1 V.shape.length c1)) := hbw1.setCell (p := ⟨w.heap.size + 1 + 1, 1, none⟩) (by simp; omega) _
  have ho2 := ho1.far (p := ⟨w.heap.size + 1 + 1, 1, none⟩) (by simp) (.slice A1 V.shape.length c1)
  have hR2 := hR1.far (p := ⟨w.heap.size + 1 + 1, 1, none⟩) (by simp) (.slice A1 V.shape.length c1)
  have hO2 := hO1.set_ 1 (.slice A1 V.shape.length c1)
  refine (toIntS_any _ V.strides _ (ht.ext hbW) hl2).mono ?_; rintro e w2 ⟨t1, rfl, ho3, hb3⟩
  clear qa0 qa1 qa2 qr0 qr1 qr2 qo0 qo1 qo2 qrf0 qrf1 qrf2 qof0 qof1 qof2
  have hn2 : w1.heap.size ≤ w2.heap.size := by have := hb3.size; simp at this; omega
  have hR3 := hR2.ext hb3 (by simp; omega)
  have hO3 := hO2.ext hb3 (by simp; omega)
  simp only [List.setIfInBounds_toArray, List.set_cons_succ, List.set_cons_zero] at hO3
  have ho3 := ho3.mono (B' := w1.heap.size) (by simp)
  have ho2 := ho2.ext hb3
  have hbw2 : Below w.heap.size w w2 := hbW.trans (hb3.mono hbW.size)
  obtain ⟨A2, c2, rfl⟩ := ho3.form
  have hsep := hseg.sep ho3.seg (Nat.le_refl _)
  clear hb3 hbW hR1 hR2 hO1 hO2
  obtain ⟨⟨qr0, qr1, qr2⟩, qrf0, qrf1, qrf2⟩ := hR3.all3
  obtain ⟨⟨qo0, qo1, qo2⟩, qof0, qof1, qof2⟩ := hO3.all3
  go_wp2
  refine bodyPost_ret (v := .agg #[.int .i64 V.base, .slice A1 V.shape.length c1, .slice A2 V.strides.length c2]) (by simp [results, Try.results36, go_sem, qr0, qr1, qr2]) rfl ⟨_, _, rfl, ?_, ?_, hsep, ?_⟩
  · refine Own.mono (B := w.heap.size + 3) ?_ (by omega)
    iterate 4 (refine Own.far ?_ (by simp <;> omega) _)
    exact ho2
  · refine Own.mono (B := w1.heap.size) ?_ (by omega)
    iterate 4 (refine Own.far ?_ (by simp <;> omega) _)
    exact ho3
  · iterate 4 (refine Below.setCell ?_ (by simp <;> omega) _)
    exact hbw2

/-- What marking a view leaves. -/
def RetMarkV (w : World) (B1 B2 lo hi : Nat) (sv tv : Value) (n m k : Nat) (e : Ending) (w' : World) : Prop :=
  e = .returned (.int .i64 ((k + n + m : Nat) : Int)) ∧ Own w' B1 sv (marks k n) ∧ Own w' B2 tv (marks (k + n) m) ∧ Chg lo hi w w'

set_option maxHeartbeats 400000 in
theorem markView_any (b : Int) (sv tv : Value) (xs ys : List Int) (k0 B1 B2 lo hi : Nat) (w : World) (hs : Own w B1 sv xs) (ht : Own w B2 tv ys) (hsep : Sep sv tv) (g1 : Seg sv lo hi) (g2 : Seg tv lo hi)
    (hl1 : xs.length ≤ 1048576) (hl2 : ys.length ≤ 1048576) (hk0 : k0 ≤ 10000000) :
    Calls Try.prog 22 #[.agg #[.int .i64 b, sv, tv], .int .i64 k0] w (RetMarkV w B1 B2 lo hi sv tv xs.length ys.length k0) := by
  go_enter Try.func22, Try.ntmps22
  go_wp2_with fail
  refine (markIntS_any _ xs k0 B1 _ (hs.alloc _) hl1 (by omega)).mono ?_; rintro e w1 ⟨rfl, ho1, hg1⟩
  have hc1 : Chg lo hi w w1 := (Chg.of_below (below_alloc w _) lo hi).trans (Chg.of_grown hg1 g1)
  have ht1 := (ht.alloc (.cells #[.int .i64 b, sv, tv] 27)).grown hg1 hsep.symm.ne
  have hbx : ∀ k, sv.ownBlock = some k → k < w.heap.size := fun k e => (hs.lt k e).2
  have hB := (Blk.new w 27 #[.int .i64 b, sv, tv])
  have hB1 : Blk w1 w.heap.size 27 #[.int .i64 b, sv, tv] := (hg1.block _ hB.lt (fun e => by have := hbx _ e.symm; omega)).trans hB
  obtain ⟨⟨q0, q1, q2⟩, -⟩ := hB1.all3
  go_wp2_with fail
  refine (markIntS_any _ ys (k0 + xs.length) B2 _ ht1 hl2 (by omega)).mono ?_; rintro e w2 ⟨rfl, ho2, hg2⟩
  have hc2 : Chg lo hi w w2 := hc1.trans (Chg.of_grown hg2 g2)
  have ho1' := ho1.grown hg2 hsep.ne
  go_wp2
  go_ret
  exact ⟨rfl, ho1', ho2, hc2⟩

set_option maxHeartbeats 400000 in
theorem heldView_any (b : Int) (sv tv : Value) (n m k0 : Nat) (w : World) (hs : Ints w sv (marks k0 n)) (ht : Ints w tv (marks (k0 + n) m))
    (hl1 : n ≤ 1048576) (hl2 : m ≤ 1048576) (hk0 : k0 ≤ 10000000) :
    Calls Try.prog 23 #[.agg #[.int .i64 b, sv, tv], .int .i64 k0] w fun e w' => e = .returned (.int .i64 ((k0 + n + m : Nat) : Int)) ∧ Below w.heap.size w w' := by
  go_enter Try.func23, Try.ntmps23
  go_wp2_with fail
  refine (heldIntS_any _ k0 n _ (hs.ext (below_alloc _ _)) hl1 (by omega)).mono ?_; rintro e w1 ⟨rfl, rfl⟩
  go_wp2_with fail
  refine (heldIntS_any _ (k0 + n) m _ (ht.ext (below_alloc _ _)) hl2 (by omega)).mono ?_; rintro e w2 ⟨rfl, rfl⟩
  go_wp2
  go_ret
  exact ⟨rfl, below_alloc _ _⟩

end Go.Proofs.Ytonlhphgoedcnaa
