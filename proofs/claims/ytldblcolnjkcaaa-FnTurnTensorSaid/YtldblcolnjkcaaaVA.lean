/- A view that a region builds into a box of its own. No conditions. -/
import Derived.Test.YtldblcolnjkcaaaV7
namespace Go.Proofs.Ytldblcolnjkcaaa
open Go.RowKit

def Grown (W1 : World) (b : Int) (xs ys : List Int) (s8 : Value) (wx : World) : Prop :=
  ∃ g sv tv, s8 = .pointer (some ⟨g, 0, none⟩) ∧ GrowView W1.heap.size wx g b sv tv xs ys ∧ Below W1.heap.size W1 wx ∧ W1.heap.size ≤ g ∧ g < wx.heap.size
theorem grown_last {W1 W : World} {B1 B2 : Nat} {sv tv : Value} {xs ys : List Int} (b : Int) (hU : Below W1.heap.size W1 W) (h1 : Own W B1 sv xs) (hB1 : W1.heap.size ≤ B1)
    (h2 : Own W B2 tv ys) (hB2 : W1.heap.size ≤ B2) (hs : Sep sv tv) :
    Grown W1 b xs ys (.pointer (some ⟨W.heap.size, 0, none⟩)) (W.alloc (.cells #[.int .i64 b, sv, tv] 43)) :=
  ⟨W.heap.size, sv, tv, rfl, ⟨Blk.new W _ _, (h1.alloc _).mono hB1, (h2.alloc _).mono hB2, fun k hk => by have := h1.lt k hk; omega, fun k hk => by have := h2.lt k hk; omega, hs⟩, hU.alloc hU.size _, hU.size, by simp⟩
theorem grown_early {W1 W : World} {B1 B2 gX : Nat} {sv tv : Value} {xs ys : List Int} (b : Int) {x y z : Value} (hX : Blk W gX 43 #[x, y, z]) (hU : Below W1.heap.size W1 W) (h1 : Own W B1 sv xs) (hB1 : W1.heap.size ≤ B1)
    (h2 : Own W B2 tv ys) (hB2 : W1.heap.size ≤ B2) (hs : Sep sv tv) (hg : W1.heap.size ≤ gX) (n1 : ∀ k, sv.ownBlock = some k → k ≠ gX) (n2 : ∀ k, tv.ownBlock = some k → k ≠ gX) :
    Grown W1 b xs ys (.pointer (some ⟨gX, 0, none⟩)) (((W.setCell ⟨gX, 0, none⟩ (.int .i64 b)).setCell ⟨gX, 1, none⟩ sv).setCell ⟨gX, 2, none⟩ tv) := by
  have o1 : Own (((W.setCell ⟨gX, 0, none⟩ (.int .i64 b)).setCell ⟨gX, 1, none⟩ sv).setCell ⟨gX, 2, none⟩ tv) B1 sv xs := ((h1.off n1 _).off n1 _).off n1 _
  have o2 : Own (((W.setCell ⟨gX, 0, none⟩ (.int .i64 b)).setCell ⟨gX, 1, none⟩ sv).setCell ⟨gX, 2, none⟩ tv) B2 tv ys := ((h2.off n2 _).off n2 _).off n2 _
  have := hX.lt
  exact ⟨gX, sv, tv, rfl, ⟨hX.store3 _ _ _, o1.mono hB1, o2.mono hB2, n1, n2, hs⟩, below3 hU hg _ _ _, hg, by simp; omega⟩

/-- A view stored into a box that the region has made. -/
theorem built_view {W1 W : World} {g : Nat} {sv tv : Value} {xs ys : List Int} (b : Int) {x y z : Value} (hX : Blk W g 43 #[x, y, z]) (hU : Below W1.heap.size W1 W) (h1 : Own W W1.heap.size sv xs)
    (h2 : Own W W1.heap.size tv ys) (hs : Sep sv tv) (hg : W1.heap.size ≤ g) (n1 : ∀ k, sv.ownBlock = some k → k ≠ g) (n2 : ∀ k, tv.ownBlock = some k → k ≠ g) :
    GrowView W1.heap.size (((W.setCell ⟨g, 0, none⟩ (.int .i64 b)).setCell ⟨g, 1, none⟩ sv).setCell ⟨g, 2, none⟩ tv) g b sv tv xs ys ∧
    Below W1.heap.size W1 (((W.setCell ⟨g, 0, none⟩ (.int .i64 b)).setCell ⟨g, 1, none⟩ sv).setCell ⟨g, 2, none⟩ tv) :=
  ⟨⟨hX.store3 _ _ _, ((h1.off n1 _).off n1 _).off n1 _, ((h2.off n2 _).off n2 _).off n2 _, n1, n2, hs⟩, below3 hU hg _ _ _⟩

end Go.Proofs.Ytldblcolnjkcaaa
