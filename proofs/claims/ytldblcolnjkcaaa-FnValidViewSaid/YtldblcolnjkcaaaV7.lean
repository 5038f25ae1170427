/- A view that grows by appends to its fields. No conditions. -/
import Derived.Test.YtldblcolnjkcaaaT0
import Derived.Outline
namespace Go.Proofs.Ytldblcolnjkcaaa
open Go.RowKit

/-- A view that is being collected: its box, its shape, its strides. -/
structure GrowView (B : Nat) (wx : World) (g : Nat) (b : Int) (sv tv : Value) (xs ys : List Int) : Prop where
  box : Blk wx g 43 #[.int .i64 b, sv, tv]
  s : Own wx B sv xs
  t : Own wx B tv ys
  gs : ∀ k, sv.ownBlock = some k → k ≠ g
  gt : ∀ k, tv.ownBlock = some k → k ≠ g
  sep : Sep sv tv
theorem GrowView.nx {B : Nat} {w w' : World} {g : Nat} {b : Int} {sv tv : Value} {xs ys : List Int} (h : GrowView B w g b sv tv xs ys) (hb : Below w.heap.size w w') : GrowView B w' g b sv tv xs ys :=
  ⟨h.box.nx hb, h.s.nx hb, h.t.nx hb, h.gs, h.gt, h.sep⟩
theorem ne_of_gs {v : Value} {g : Nat} (h : ∀ k, v.ownBlock = some k → k ≠ g) : some g ≠ v.ownBlock := fun e => h g e.symm rfl
/-- Behind an append to the shape: the box, the other row, and what is written back. -/
theorem GrowView.boxS {B : Nat} {wr W w1 : World} {g : Nat} {b : Int} {sv tv : Value} {xs ys : List Int} (h : GrowView B wr g b sv tv xs ys) (hW : Below wr.heap.size wr W) (hg : W.grownBy w1 sv.ownBlock) : Blk w1 g 43 #[.int .i64 b, sv, tv] :=
  (hg.block g (h.box.nx hW).lt (ne_of_gs h.gs)).trans (h.box.nx hW)
theorem GrowView.boxT {B : Nat} {wr W w1 : World} {g : Nat} {b : Int} {sv tv : Value} {xs ys : List Int} (h : GrowView B wr g b sv tv xs ys) (hW : Below wr.heap.size wr W) (hg : W.grownBy w1 tv.ownBlock) : Blk w1 g 43 #[.int .i64 b, sv, tv] :=
  (hg.block g (h.box.nx hW).lt (ne_of_gs h.gt)).trans (h.box.nx hW)
theorem GrowView.pushS {B : Nat} {wr W w1 : World} {g : Nat} {b : Int} {sv tv s' : Value} {xs ys zs : List Int} (h : GrowView B wr g b sv tv xs ys) (hW : Below wr.heap.size wr W) (ho : Own w1 B s' zs) (hg : W.grownBy w1 sv.ownBlock)
    (hat : s'.ownBlock = sv.ownBlock ∨ s'.ownBlock = some W.heap.size) : GrowView B (w1.setCell ⟨g, 1, none⟩ s') g b s' tv zs ys := by
  have hsz := hW.size
  have hgl := h.box.lt
  have hne : ∀ k, s'.ownBlock = some k → k ≠ g := fun k hk => by
    rcases hat with e | e
    · exact h.gs k (by rw [← e]; exact hk)
    · rw [e] at hk; injection hk with hk; omega
  have hb := (h.boxS hW hg).set_ 1 s'
  refine ⟨by simpa using hb, ho.off hne s', ((h.t.nx hW).grown hg h.sep.symm.ne).off h.gt s', hne, h.gt, ?_⟩
  exact h.sep.app hat (fun k hk => Nat.lt_of_lt_of_le (h.t.lt k hk).2 hsz)
theorem GrowView.pushT {B : Nat} {wr W w1 : World} {g : Nat} {b : Int} {sv tv t' : Value} {xs ys zs : List Int} (h : GrowView B wr g b sv tv xs ys) (hW : Below wr.heap.size wr W) (ho : Own w1 B t' zs) (hg : W.grownBy w1 tv.ownBlock)
    (hat : t'.ownBlock = tv.ownBlock ∨ t'.ownBlock = some W.heap.size) : GrowView B (w1.setCell ⟨g, 2, none⟩ t') g b sv t' xs zs := by
  have hsz := hW.size
  have hgl := h.box.lt
  have hne : ∀ k, t'.ownBlock = some k → k ≠ g := fun k hk => by
    rcases hat with e | e
    · exact h.gt k (by rw [← e]; exact hk)
    · rw [e] at hk; injection hk with hk; omega
  have hb := (h.boxT hW hg).set_ 2 t'
  refine ⟨by simpa using hb, ((h.s.nx hW).grown hg h.sep.ne).off h.gs t', ho.off hne t', h.gs, hne, ?_⟩
  exact (h.sep.symm.app hat (fun k hk => Nat.lt_of_lt_of_le (h.s.lt k hk).2 hsz)).symm
/-- What the step leaves alone. -/
theorem Own.underB {w w' W : World} {B N : Nat} {v : Value} {xs : List Int} {w0 : World} (h : Own w B v xs) (hW : Below w.heap.size w W) (hg : W.grownBy w' v.ownBlock) (hN : N ≤ B) (hNs : N ≤ w.heap.size) (h0 : Below N w0 w) : Below N w0 w' :=
  (h0.trans (hW.mono hNs)).trans (⟨hg.os, hg.tape, hg.output, hg.size, fun k hk => hg.block k (by have := hW.size; omega) (fun e => by have := (h.lt k e.symm).1; omega)⟩)
theorem below_lit1 (w : World) (x : Int) : Below w.heap.size w (w.alloc (.cells #[.int .i64 x] 3)) := below_alloc w _

/-- The numbers of a list at some places. -/
def pickN (xs : List Int) (ix : List Nat) : List Int := ix.map fun i => xs.getD i 0
theorem pickN_length (xs : List Int) (ix : List Nat) : (pickN xs ix).length = ix.length := by simp [pickN]
theorem pickN_snoc (xs : List Int) (ix : List Nat) (i : Nat) (h : i < xs.length) : pickN xs (ix ++ [i]) = pickN xs ix ++ [xs[i]] := by simp [pickN, h]

end Go.Proofs.Ytldblcolnjkcaaa
