/- Words: what stands while numbers are drawn into a row. No conditions. -/
import Derived.Test.YtldblcolnjkcaaaRDw
import Derived.Deep.AppendLies
namespace Go.Proofs.Ytldblcolnjkcaaa
open Go.RowKit

/-- A new block is not the reader's. -/
theorem Rd.lit {N : Nat} {w : World} {g p : Nat} (h : Rd N w g p) (n m : Nat) : ∀ i, (Value.slice (some ⟨w.heap.size, 0, none⟩) n m).ownBlock = some i → i ≠ g := fun i e => by
  have := h.lt
  simp [Value.ownBlock] at e
  omega
/-- Numbers that lie outside the reader's block. -/
def IntsN (g : Nat) (w : World) (v : Value) (xs : List Int) : Prop := Ints w v xs ∧ ∀ k, v.ownBlock = some k → k ≠ g
theorem IntsN.grown {g : Nat} {w w' : World} {v : Value} {xs : List Int} (h : IntsN g w v xs) (hg : w.grownBy w' (some g)) : IntsN g w' v xs := by
  obtain ⟨⟨A, c, rfl, h1, h2, h3⟩, hn⟩ := h
  refine ⟨⟨A, c, rfl, h1, h2, fun h => ?_⟩, hn⟩
  obtain ⟨b, off, rfl, hb, hc⟩ := h3 h
  refine ⟨b, off, rfl, Nat.lt_of_lt_of_le hb hg.size, fun j x hx => ?_⟩
  rw [hg.cell_far ⟨b, off + j, none⟩ hb (fun e => hn b rfl (by injection e))]
  exact hc j x hx
theorem IntsN.nx {g : Nat} {w w' : World} {v : Value} {xs : List Int} (h : IntsN g w v xs) (hb : Below w.heap.size w w') : IntsN g w' v xs := ⟨h.1.nx hb, h.2⟩
theorem IntsN.of_own {g B : Nat} {w : World} {v : Value} {xs : List Int} (h : Own w B v xs) (hB : g < B) : IntsN g w v xs := ⟨h.ints, fun k e => by have := (h.lt k e).1; omega⟩

/-- From w0 on the reader in block g has moved to q, and the row sv, of blocks from h on, holds xs. -/
def DMid (N g : Nat) (w0 : World) (h : Nat) (wx : World) (q : Nat) (sv : Value) (xs : List Int) : Prop :=
  (g < w0.heap.size ∧ w0.heap.size ≤ h) ∧ Rd N wx g q ∧ w0.grownBy wx (some g) ∧ Own wx h sv xs ∧ h ≤ wx.heap.size
section
variable {N g h q p : Nat} {w0 wx wy : World} {sv sv' : Value} {xs xs' : List Int}
theorem DMid.nx (hM : DMid N g w0 h wx q sv xs) (hb : Below wx.heap.size wx wy) : DMid N g w0 h wy q sv xs := by
  obtain ⟨h0, h1, h2, h3, h4⟩ := hM
  exact ⟨h0, h1.nx hb, h2.andThen (grown_of (row := none) hb) (fun j e => by cases e), h3.nx hb, Nat.le_trans h4 hb.size⟩
theorem DMid.ate (hM : DMid N g w0 h wx q sv xs) (hR : Rd N wy g p) (hG : wx.grownBy wy (some g)) : DMid N g w0 h wy p sv xs := by
  obtain ⟨h0, h1, h2, h3, h4⟩ := hM
  exact ⟨h0, hR, h2.trans hG, h3.grown hG (.inr fun e => by have := (h3.lt g e).1; omega), Nat.le_trans h4 hG.size⟩
theorem DMid.row (hM : DMid N g w0 h wx q sv xs) (ho : Own wy h sv' xs') (hg : wx.grownBy wy sv.ownBlock) : DMid N g w0 h wy q sv' xs' := by
  obtain ⟨h0, h1, h2, h3, h4⟩ := hM
  have hN := h1.lt
  have hk : ∀ k, sv.ownBlock = some k → h ≤ k := fun k e => (h3.lt k e).1
  exact ⟨h0, h1.grown hg (fun k e => by have := hk k e; omega), h2.andThen hg (fun j e => .inl (by have := hk j e; omega)), ho, Nat.le_trans h4 hg.size⟩
theorem DMid.rd (hM : DMid N g w0 h wx q sv xs) : Rd N wx g q := hM.2.1
theorem DMid.grew (hM : DMid N g w0 h wx q sv xs) : w0.grownBy wx (some g) := hM.2.2.1
theorem DMid.own (hM : DMid N g w0 h wx q sv xs) : Own wx h sv xs := hM.2.2.2.1
theorem DMid.sz (hM : DMid N g w0 h wx q sv xs) : h ≤ wx.heap.size := hM.2.2.2.2
theorem DMid.start (hR : Rd N w0 g q) : DMid N g w0 w0.heap.size (w0.alloc (.cells #[] 3)) q (.slice (some ⟨w0.heap.size, 0, none⟩) 0 0) [] :=
  ⟨⟨hR.lt.2, Nat.le_refl _⟩, hR.nx (below_alloc _ _), grown_of (below_alloc _ _), Own.empty w0 rfl (Nat.le_refl _), by simp⟩
/-- A row read as numbers, from the world ahead of it all. -/
theorem DMid.ints (hM : DMid N g w0 h wx q sv xs) : IntsN g wx sv xs := IntsN.of_own hM.own (by have := hM.1; omega)
end
/-- What drawing some numbers leaves. -/
def RetIntsR (N g p n m : Nat) (w : World) (e : Ending) (w' : World) : Prop := ∃ (u : Value) (xs : List Int) (q : Nat), e = .returned u ∧ xs.length ≤ n ∧ IntsN g w' u xs ∧ (∀ k, u.ownBlock = some k → w.heap.size ≤ k) ∧ q ≤ p + m ∧ Rd N w' g q ∧ w.grownBy w' (some g)
theorem DMid.ret {N g h q p n m : Nat} {w w0 wx : World} {sv u : Value} {xs ys : List Int} (hM : DMid N g w0 h wx q sv xs) (hG : w.grownBy w0 (some g)) (hu : Ints wx u ys) (hb : ∀ k, u.ownBlock = some k → h ≤ k) (hl : ys.length ≤ n) (hq : q ≤ p + m) :
    RetIntsR N g p n m w (.returned u) wx :=
  ⟨u, ys, q, rfl, hl, ⟨hu, fun k e => by have := hb k e; have := hM.1; omega⟩, fun k e => by have := hb k e; have := hM.1; have := hG.size; omega, hq, hM.rd, hG.trans hM.grew⟩

end Go.Proofs.Ytldblcolnjkcaaa
