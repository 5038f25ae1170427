/- Contracts of the laws' own helpers over tensors. No conditions. -/
import Derived.Test.YtldblcolnjkcaaaL2r
import Derived.Test.YtldblcolnjkcaaaT0
namespace Go.Proofs.Ytldblcolnjkcaaa
open Go.RowKit

set_option maxHeartbeats 400000 in
theorem eqTensor_yes (v v' : Value) (T : TL) (w : World) (h : TensorV w v T) (h' : TensorV w v' T) :
    Calls Try.prog 65 #[v, v'] w fun e w' => e = .returned (.bool true) ∧ Below w.heap.size w w' := by
  obtain ⟨sv, tv, rfl, hs, ht⟩ := h
  obtain ⟨sv', tv', rfl, hs', ht'⟩ := h'
  go_enter Try.func65, Try.ntmps65
  have hb : Below w.heap.size w ((w.alloc (.cells #[sv, tv] 75)).alloc (.cells #[sv', tv'] 75)) := ((Below.refl _ _).alloc (Nat.le_refl _) _).alloc (by simp) _
  go_wp2_with fail
  refine (eqIntS_yes _ _ T.shape _ (hs.ext hb) (hs'.ext hb)).mono ?_; rintro e w1 ⟨rfl, hb1⟩
  have hx1 := (hb1.cell (p := ⟨w.heap.size, 1, none⟩) (by simp; omega)).trans (by simp : _ = some tv)
  have hx2 := (hb1.cell (p := ⟨w.heap.size + 1, 1, none⟩) (by simp)).trans (by simp : _ = some tv')
  have hbt := hb.trans (hb1.mono (by simp; omega))
  go_wp2_with fail
  refine (eqIntS_yes _ _ T.values _ (ht.ext hbt) (ht'.ext hbt)).mono ?_; rintro e w2 ⟨rfl, hb2⟩
  go_wp2
  go_ret
  exact ⟨rfl, hbt.trans (hb2.mono hbt.size)⟩

set_option maxHeartbeats 400000 in
theorem markTensor_any (sv tv : Value) (xs ys : List Int) (k0 B1 B2 lo hi : Nat) (w : World) (hs : Own w B1 sv xs) (ht : Own w B2 tv ys) (hsep : Sep sv tv) (g1 : Seg sv lo hi) (g2 : Seg tv lo hi)
    (hl1 : xs.length ≤ 1048576) (hl2 : ys.length ≤ 1048576) (hk0 : k0 ≤ 10000000) :
    Calls Try.prog 66 #[.agg #[sv, tv], .int .i64 k0] w (RetMarkV w B1 B2 lo hi sv tv xs.length ys.length k0) := by
  go_enter Try.func66, Try.ntmps66
  go_wp2_with fail
  refine (markIntS_any _ xs k0 B1 _ (hs.alloc _) hl1 (by omega)).mono ?_; rintro e w1 ⟨rfl, ho1, hg1⟩
  have hc1 : Chg lo hi w w1 := (Chg.of_below (below_alloc w _) lo hi).trans (Chg.of_grown hg1 g1)
  have ht1 := (ht.alloc (.cells #[sv, tv] 75)).grown hg1 hsep.symm.ne
  have hbx : ∀ k, sv.ownBlock = some k → k < w.heap.size := fun k e => (hs.lt k e).2
  have hB := (Blk.new w 75 #[sv, tv])
  have hB1 : Blk w1 w.heap.size 75 #[sv, tv] := (hg1.block _ hB.lt (fun e => by have := hbx _ e.symm; omega)).trans hB
  obtain ⟨⟨q0, q1⟩, -⟩ := hB1.all2
  go_wp2_with fail
  refine (markIntS_any _ ys (k0 + xs.length) B2 _ ht1 hl2 (by omega)).mono ?_; rintro e w2 ⟨rfl, ho2, hg2⟩
  have hc2 : Chg lo hi w w2 := hc1.trans (Chg.of_grown hg2 g2)
  have ho1' := ho1.grown hg2 hsep.ne
  go_wp2
  go_ret
  exact ⟨rfl, ho1', ho2, hc2⟩

set_option maxHeartbeats 400000 in
theorem heldTensor_any (sv tv : Value) (n m k0 : Nat) (w : World) (hs : Ints w sv (marks k0 n)) (ht : Ints w tv (marks (k0 + n) m))
    (hl1 : n ≤ 1048576) (hl2 : m ≤ 1048576) (hk0 : k0 ≤ 10000000) :
    Calls Try.prog 67 #[.agg #[sv, tv], .int .i64 k0] w fun e w' => e = .returned (.int .i64 ((k0 + n + m : Nat) : Int)) ∧ Below w.heap.size w w' := by
  go_enter Try.func67, Try.ntmps67
  go_wp2_with fail
  refine (heldIntS_any _ k0 n _ (hs.ext (below_alloc _ _)) hl1 (by omega)).mono ?_; rintro e w1 ⟨rfl, rfl⟩
  go_wp2_with fail
  refine (heldIntS_any _ (k0 + n) m _ (ht.ext (below_alloc _ _)) hl2 (by omega)).mono ?_; rintro e w2 ⟨rfl, rfl⟩
  go_wp2
  go_ret
  exact ⟨rfl, below_alloc _ _⟩

end Go.Proofs.Ytldblcolnjkcaaa
