/- Contracts: DropOnes, both. No conditions. -/
import Derived.Test.YtldblcolnjkcaaaV7
import Derived.Test.YtldblcolnjkcaaaD2a
import Derived.Deep.RegionLaw
import Derived.Deep.LoopGhost
import Derived.Deep.CutRange
import Derived.Outline
namespace Go.Proofs.Ytldblcolnjkcaaa
open Go.RowKit

def keepUp (shape : List Int) (k : Nat) : List Nat := (List.range k).filter fun i => shape.getD i 0 != 1
theorem keepUp_yes {shape : List Int} {k : Nat} (h : k < shape.length) (h1 : shape[k] ≠ 1) : keepUp shape (k + 1) = keepUp shape k ++ [k] := by
  simp [keepUp, List.range_succ, List.filter_append, h, h1]
theorem keepUp_no {shape : List Int} {k : Nat} (h : k < shape.length) (h1 : shape[k] = 1) : keepUp shape (k + 1) = keepUp shape k := by
  simp [keepUp, List.range_succ, List.filter_append, h, h1]
theorem keepUp_len (shape : List Int) (k : Nat) : (keepUp shape k).length ≤ k := by
  unfold keepUp
  have := List.length_filter_le (fun i => shape.getD i 0 != 1) (List.range k)
  simpa using this
def dropV (V : VL) (k : Nat) : VL := ⟨V.base, pickN V.shape (keepUp V.shape k), pickN V.strides (keepUp V.shape k)⟩
def dropL (V : VL) : VL := if isViewL V then dropV V V.shape.length else VL.zero
theorem dropL_len (V : VL) : (dropL V).shape.length ≤ 60 ∧ (dropL V).strides.length ≤ 60 := by
  unfold dropL
  split
  · rename_i h
    have := (isViewL_lens h).1
    have := keepUp_len V.shape V.shape.length
    simp [dropV, pickN_length]; omega
  · simp [VL.zero]
/-- What a round of either function does to what is collected. -/
theorem dropV_yes {V : VL} {k : Nat} (h : k < V.shape.length) (ht : k < V.strides.length) (h1 : V.shape[k] ≠ 1) :
    (dropV V (k + 1)).shape = (dropV V k).shape ++ [V.shape[k]] ∧ (dropV V (k + 1)).strides = (dropV V k).strides ++ [V.strides[k]] := by
  simp only [dropV, keepUp_yes h h1]
  exact ⟨pickN_snoc _ _ _ h, pickN_snoc _ _ _ ht⟩
theorem dropV_no {V : VL} {k : Nat} (h : k < V.shape.length) (h1 : V.shape[k] = 1) : dropV V (k + 1) = dropV V k := by
  simp only [dropV, keepUp_no h h1]
theorem dropV_len (V : VL) (k : Nat) : (dropV V k).shape.length ≤ k ∧ (dropV V k).strides.length ≤ k := by
  have := keepUp_len V.shape k
  simp [dropV, pickN_length]; omega

/-- What stands between the statements of a round. -/
def Mid (w wx : World) (B g N : Nat) (b0 : Int) (sA tA : Value) (bA : Int) (xs ys : List Int) : Prop :=
  ∃ s' t' : Value, GrowView B wx g b0 s' t' xs ys ∧ Below w.heap.size w wx ∧ Blk wx w.heap.size 43 #[.int .i64 bA, sA, tA] ∧ Blk wx (w.heap.size + 1) 43 #[.int .i64 0, .slice none 0 0, .slice none 0 0] ∧ N ≤ wx.heap.size
theorem Mid.of_s {w wr W w1 : World} {B g N : Nat} {b0 bA : Int} {sA tA sv tv s' : Value} {xs ys zs : List Int} (h : GrowView B wr g b0 sv tv xs ys) (hW : Below wr.heap.size wr W) (ho : Own w1 B s' zs) (hg : W.grownBy w1 sv.ownBlock)
    (hat : s'.ownBlock = sv.ownBlock ∨ s'.ownBlock = some W.heap.size) (h0 : Below w.heap.size w wr) (hBB : w.heap.size + 2 ≤ B) (hgB : B ≤ g) (hN : N ≤ wr.heap.size) (_hBs : B ≤ wr.heap.size)
    (hA : Blk wr w.heap.size 43 #[.int .i64 bA, sA, tA]) (hR : Blk wr (w.heap.size + 1) 43 #[.int .i64 0, .slice none 0 0, .slice none 0 0]) :
    Mid w (w1.setCell ⟨g, 1, none⟩ s') B g N b0 sA tA bA zs ys := by
  have hsz := hW.size
  have hs1 := hg.size
  have hne : ∀ j, j < B → some j ≠ sv.ownBlock := fun j hj e => by have := (h.s.lt j e.symm).1; omega
  refine ⟨s', tv, h.pushS hW ho hg hat, (Own.underB h.s hW hg (by omega) h0.size h0).setCell (by show w.heap.size ≤ g; omega) s', ?_, ?_, by simp; omega⟩
  · exact Blk.far ((hg.block _ (hA.nx hW).lt (hne _ (by omega))).trans (hA.nx hW)) (by show w.heap.size ≠ g; omega) s'
  · exact Blk.far ((hg.block _ (hR.nx hW).lt (hne _ (by omega))).trans (hR.nx hW)) (by show w.heap.size + 1 ≠ g; omega) s'
theorem Mid.of_t {w wr W w1 : World} {B g N : Nat} {b0 bA : Int} {sA tA sv tv t' : Value} {xs ys zs : List Int} (h : GrowView B wr g b0 sv tv xs ys) (hW : Below wr.heap.size wr W) (ho : Own w1 B t' zs) (hg : W.grownBy w1 tv.ownBlock)
    (hat : t'.ownBlock = tv.ownBlock ∨ t'.ownBlock = some W.heap.size) (h0 : Below w.heap.size w wr) (hBB : w.heap.size + 2 ≤ B) (hgB : B ≤ g) (hN : N ≤ wr.heap.size) (_hBs : B ≤ wr.heap.size)
    (hA : Blk wr w.heap.size 43 #[.int .i64 bA, sA, tA]) (hR : Blk wr (w.heap.size + 1) 43 #[.int .i64 0, .slice none 0 0, .slice none 0 0]) :
    Mid w (w1.setCell ⟨g, 2, none⟩ t') B g N b0 sA tA bA xs zs := by
  have hsz := hW.size
  have hs1 := hg.size
  have hne : ∀ j, j < B → some j ≠ tv.ownBlock := fun j hj e => by have := (h.t.lt j e.symm).1; omega
  refine ⟨sv, t', h.pushT hW ho hg hat, (Own.underB h.t hW hg (by omega) h0.size h0).setCell (by show w.heap.size ≤ g; omega) t', ?_, ?_, by simp; omega⟩
  · exact Blk.far ((hg.block _ (hA.nx hW).lt (hne _ (by omega))).trans (hA.nx hW)) (by show w.heap.size ≠ g; omega) t'
  · exact Blk.far ((hg.block _ (hR.nx hW).lt (hne _ (by omega))).trans (hR.nx hW)) (by show w.heap.size + 1 ≠ g; omega) t'

end Go.Proofs.Ytldblcolnjkcaaa
