/- Memory of a call's own, item by item, beside a reader that moves. No conditions. -/
import Derived.Test.YtfiphjifnjnmbaaHp
import Derived.Test.YtfiphjifnjnmbaaDD
namespace Go.Proofs.Ytfiphjifnjnmbaa
open Go.RowKit

structure Hr (N g q : Nat) (w wx : World) (L : List Item) : Prop where
  hp : Hp w.heap.size wx wx L
  lt : g < w.heap.size
  rd : Rd N wx g q
  grew : w.grownBy wx (some g)
section
variable {N g q p : Nat} {w wx wy : World} {L L' : List Item}
theorem Hr.start (h : Rd N w g q) : Hr N g q w w [] := ⟨Hp.start w, h.lt.2, h, World.grownBy.refl w (some g)⟩
theorem Hr.op (h : Hr N g q w wx L) (hp : Hp w.heap.size wx wy L') : Hr N g q w wy L' :=
  ⟨⟨Below.refl _ _, hp.size, hp.ok, hp.sep⟩, h.lt, h.rd.keep (hp.below.mono (by have := h.rd.lt; have := h.lt; omega)) (hp.below.block g h.lt),
   hp.below.os.trans h.grew.os, hp.below.tape.trans h.grew.tape, hp.below.output.trans h.grew.output, hp.size, fun k hk hne => (hp.below.block k hk).trans (h.grew.block k hk hne)⟩
theorem Hr.nx (h : Hr N g q w wx L) (hb : Below wx.heap.size wx wy) : Hr N g q w wy L := h.op (h.hp.nx hb)
theorem Hr.ate (h : Hr N g q w wx L) (hR : Rd N wy g p) (hG : wx.grownBy wy (some g)) : Hr N g p w wy L :=
  ⟨⟨Below.refl _ _, Nat.le_trans h.hp.size hG.size, fun i hi => (h.hp.ok i hi).stay fun k hk ho => hG.block k hk fun e => by
      injection e with e
      have := (h.hp.ok i hi).lt ho
      have := h.lt
      omega, h.hp.sep⟩, h.lt, hR, h.grew.trans hG⟩
theorem Hr.blk (h : Hr N g q w wx L) (i : Nat) {b : Nat} {T : TypeId} {cs : Array Value} (hi : L[i]? = some (.blk b T cs)) : Blk wx b T cs := h.hp.blk i hi
theorem Hr.ints (h : Hr N g q w wx L) (i : Nat) {v : Value} {xs : List Int} (hi : L[i]? = some (.ints v xs)) : Own wx w.heap.size v xs := h.hp.ints i hi
theorem Hr.sz (h : Hr N g q w wx L) : w.heap.size ≤ wx.heap.size := h.hp.size
end
/-- What drawing a tensor leaves. -/
def RetTensorR (N g p n m : Nat) (w : World) (e : Ending) (w' : World) : Prop := ∃ (sv tv : Value) (T : TL) (q : Nat), e = .returned (.agg #[sv, tv]) ∧ T.shape.length ≤ n ∧ T.values.length ≤ n ∧
  Own w' w.heap.size sv T.shape ∧ Own w' w.heap.size tv T.values ∧ Sep sv tv ∧ q ≤ p + m ∧ Rd N w' g q ∧ w.grownBy w' (some g)

end Go.Proofs.Ytfiphjifnjnmbaa
