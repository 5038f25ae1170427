/- Memory of a call's own, item by item: boxes and rows of ints, each in a block of its own. No conditions. -/
import Derived.Test.YtldblcolnjkcaaaT0
import Derived.Test.YtldblcolnjkcaaaV7
namespace Go.Proofs.Ytldblcolnjkcaaa
open Go.RowKit

inductive Item where
  | blk (g : Nat) (T : TypeId) (cs : Array Value)
  | ints (v : Value) (xs : List Int)
def Item.owns : Item → Nat → Prop
  | .blk g _ _, b => b = g
  | .ints v _, b => v.ownBlock = some b
def Item.ok (N : Nat) (w : World) : Item → Prop
  | .blk g T cs => N ≤ g ∧ Blk w g T cs
  | .ints v xs => Own w N v xs
def Item.off (a b : Item) : Prop := ∀ k, a.owns k → b.owns k → False
theorem Item.off_symm {a b : Item} (h : a.off b) : b.off a := fun k h1 h2 => h k h2 h1
theorem Item.ok.lt {N : Nat} {w : World} {i : Item} (h : i.ok N w) {k : Nat} (hk : i.owns k) : N ≤ k ∧ k < w.heap.size := by
  cases i with
  | blk g T cs => cases hk; exact ⟨h.1, Blk.lt h.2⟩
  | ints v xs => exact Own.lt h k hk
/-- An item stays where its block is not touched. -/
theorem Item.ok.stay {N : Nat} {w w' : World} {i : Item} (h : i.ok N w) (hb : ∀ k, k < w.heap.size → i.owns k → w'.heap[k]? = w.heap[k]?) : i.ok N w' := by
  cases i with
  | blk g T cs => exact ⟨h.1, (hb g (Blk.lt h.2) rfl).trans h.2⟩
  | ints v xs =>
    obtain ⟨h1, h2⟩ := (h : Own w N v xs)
    refine ⟨h1, ?_⟩
    rcases h2 with h2 | ⟨g, cap, cur, hv, hg, hh, r⟩
    · exact .inl h2
    · exact .inr ⟨g, cap, cur, hv, hg, (hb g (Array.getElem?_eq_some_iff.1 hh).1 (by simp [Item.owns, hv, Value.ownBlock])).trans hh, r⟩
theorem Item.ok.nx {N : Nat} {w w' : World} {i : Item} (h : i.ok N w) (hb : Below w.heap.size w w') : i.ok N w' := h.stay fun k hk _ => hb.block k hk

structure Hp (N : Nat) (w0 w : World) (L : List Item) : Prop where
  below : Below N w0 w
  size : N ≤ w.heap.size
  ok : ∀ i ∈ L, i.ok N w
  sep : L.Pairwise Item.off

section
variable {N : Nat} {w0 w w' : World} {L : List Item}
theorem Hp.start (w : World) : Hp w.heap.size w w [] := ⟨Below.refl _ _, Nat.le_refl _, fun _ h => (by cases h), .nil⟩
theorem Hp.nx (h : Hp N w0 w L) (hb : Below w.heap.size w w') : Hp N w0 w' L :=
  ⟨h.below.trans (hb.mono h.size), Nat.le_trans h.size hb.size, fun i hi => (h.ok i hi).nx hb, h.sep⟩
theorem Hp.drew (h : Hp N w0 w L) : Hp N w0 w.drew L := h.nx (below_drew w)
/-- New items, in blocks that were not there. -/
theorem Hp.add {A : List Item} (h : Hp N w0 w L) (hb : Below w.heap.size w w') (hA : ∀ i ∈ A, i.ok w.heap.size w') (hs : A.Pairwise Item.off) : Hp N w0 w' (L ++ A) := by
  have h1 := h.nx hb
  refine ⟨h1.below, h1.size, fun i hi => ?_, List.pairwise_append.2 ⟨h.sep, hs, fun a ha b hb k h1 h2 => ?_⟩⟩
  · rcases List.mem_append.1 hi with hi | hi
    · exact h1.ok i hi
    · have := hA i hi
      cases i with
      | blk g T cs => exact ⟨Nat.le_trans h.size this.1, this.2⟩
      | ints v xs => exact Own.mono this h.size
  · have := (h.ok a ha).lt h1
    have := (hA b hb).lt h2
    omega
theorem Hp.alloc (h : Hp N w0 w L) (T : TypeId) (cs : Array Value) : Hp N w0 (w.alloc (.cells cs T)) (L ++ [.blk w.heap.size T cs]) :=
  h.add (below_alloc w _) (fun i hi => by simp at hi; subst hi; exact ⟨Nat.le_refl _, Blk.new w T cs⟩) (List.pairwise_singleton ..)
theorem Hp.row {v : Value} {xs : List Int} (h : Hp N w0 w L) (ho : Own w' w.heap.size v xs) (hb : Below w.heap.size w w') : Hp N w0 w' (L ++ [.ints v xs]) :=
  h.add hb (fun i hi => by simp at hi; subst hi; exact ho) (List.pairwise_singleton ..)
theorem Hp.rows {s t : Value} {xs ys : List Int} (h : Hp N w0 w L) (ho : Own w' w.heap.size s xs) (hp : Own w' w.heap.size t ys) (hs : Sep s t) (hb : Below w.heap.size w w') : Hp N w0 w' (L ++ [.ints s xs, .ints t ys]) :=
  h.add hb (fun i hi => by simp at hi; (rcases hi with rfl | rfl); exact ho; exact hp) (List.pairwise_pair.2 hs)

theorem Hp.at_ (h : Hp N w0 w L) (i : Nat) {a : Item} (hi : L[i]? = some a) : a.ok N w := h.ok a (List.mem_of_getElem? hi)
theorem Hp.blk (h : Hp N w0 w L) (i : Nat) {g : Nat} {T : TypeId} {cs : Array Value} (hi : L[i]? = some (.blk g T cs)) : Blk w g T cs := (h.at_ i hi).2
theorem Hp.ints (h : Hp N w0 w L) (i : Nat) {v : Value} {xs : List Int} (hi : L[i]? = some (.ints v xs)) : Own w N v xs := h.at_ i hi
theorem Hp.off (h : Hp N w0 w L) (i j : Nat) {a b : Item} (hi : L[i]? = some a) (hj : L[j]? = some b) (hne : i ≠ j) : a.off b := by
  obtain ⟨hil, rfl⟩ := List.getElem?_eq_some_iff.1 hi
  obtain ⟨hjl, rfl⟩ := List.getElem?_eq_some_iff.1 hj
  have hp := List.pairwise_iff_getElem.1 h.sep
  rcases Nat.lt_or_gt_of_ne hne with hlt | hlt
  · exact hp i j hil hjl hlt
  · exact Item.off_symm (hp j i hjl hil hlt)
theorem Hp.apart (h : Hp N w0 w L) (i j : Nat) {s t : Value} {xs ys : List Int} (hi : L[i]? = some (.ints s xs)) (hj : L[j]? = some (.ints t ys)) (hne : i ≠ j) : Sep s t := fun k h1 h2 => h.off i j hi hj hne k h1 h2
theorem pairwise_set {L : List Item} (h : L.Pairwise Item.off) (i : Nat) {b : Item} (hb : ∀ j c, j ≠ i → L[j]? = some c → b.off c) : (L.set i b).Pairwise Item.off := by
  have hp := List.pairwise_iff_getElem.1 h
  refine List.pairwise_iff_getElem.2 fun p q hpl hql hlt => ?_
  rw [List.length_set] at hpl hql
  by_cases h1 : i = p
  · subst h1
    rw [List.getElem_set_self, List.getElem_set_ne (by omega)]
    exact hb q _ (by omega) (by simp [hql])
  · by_cases h2 : i = q
    · subst h2
      rw [List.getElem_set_self, List.getElem_set_ne (by omega)]
      exact Item.off_symm (hb p _ (by omega) (by simp [hpl]))
    · rw [List.getElem_set_ne h1, List.getElem_set_ne h2]
      exact hp p q hpl hql hlt
theorem mem_set_cases {L : List Item} {i : Nat} {b c : Item} (h : c ∈ L.set i b) : c = b ∨ ∃ j, j ≠ i ∧ L[j]? = some c := by
  obtain ⟨j, hj, rfl⟩ := List.getElem_of_mem h
  rw [List.length_set] at hj
  by_cases e : i = j
  · subst e; exact .inl (by simp)
  · exact .inr ⟨j, Ne.symm e, by rw [List.getElem_set_ne e]; simp [hj]⟩
/-- One item is changed; all other blocks stay. -/
theorem Hp.change {a b : Item} (h : Hp N w0 w L) (i : Nat) (hi : L[i]? = some a) (hb : b.ok N w') (hblk : ∀ k, k < w.heap.size → ¬ a.owns k → w'.heap[k]? = w.heap[k]?)
    (hown : ∀ k, b.owns k → a.owns k ∨ w.heap.size ≤ k) (hs : w.heap.size ≤ w'.heap.size) (ho : w'.os = w.os) (ht : w'.tape = w.tape) (hp : w'.output = w.output) : Hp N w0 w' (L.set i b) := by
  have hoff : ∀ j c, j ≠ i → L[j]? = some c → a.off c := fun j c hne hj => h.off i j hi hj (Ne.symm hne)
  refine ⟨⟨ho.trans h.below.os, ht.trans h.below.tape, hp.trans h.below.output, Nat.le_trans h.below.size hs, fun k hk => ?_⟩, Nat.le_trans h.size hs, fun c hc => ?_, pairwise_set h.sep i fun j c hne hj k h1 h2 => ?_⟩
  · have hkw : k < w.heap.size := Nat.lt_of_lt_of_le hk h.size
    rw [hblk k hkw fun e => by have := (h.at_ i hi).lt e; omega]
    exact h.below.block k hk
  · rcases mem_set_cases hc with rfl | ⟨j, hne, hj⟩
    · exact hb
    · exact (h.at_ j hj).stay fun k hk hck => hblk k hk fun hak => hoff j c hne hj k hak hck
  · rcases hown k h1 with h3 | h3
    · exact hoff j c hne hj k h3 h2
    · have := (h.at_ j hj).lt h2
      omega
theorem Hp.grown {v v' : Value} {xs ys : List Int} (h : Hp N w0 w L) (i : Nat) (hi : L[i]? = some (.ints v xs)) (ho : Own w' N v' ys) (hg : w.grownBy w' v.ownBlock) (hv : v'.ownBlock = v.ownBlock ∨ v'.ownBlock = some w.heap.size) : Hp N w0 w' (L.set i (.ints v' ys)) :=
  h.change i hi ho (fun k hk hn => hg.block k hk fun e => hn e.symm) (fun k hk => by
    have hk : v'.ownBlock = some k := hk
    rcases hv with e | e
    · exact .inl (by show v.ownBlock = some k; rw [← e]; exact hk)
    · rw [e] at hk; injection hk with hk; exact .inr (by omega)) hg.size hg.os hg.tape hg.output
theorem Hp.store (h : Hp N w0 w L) (i : Nat) {g : Nat} {T : TypeId} {cs : Array Value} (hi : L[i]? = some (.blk g T cs)) (j : Nat) (u : Value) : Hp N w0 (w.setCell ⟨g, j, none⟩ u) (L.set i (.blk g T (cs.setIfInBounds j u))) :=
  h.change i hi ⟨(h.at_ i hi).1, (h.blk i hi).set_ j u⟩ (fun k _ hn => heap_setCell_other w ⟨g, j, none⟩ k u (fun e => hn e)) (fun k hk => .inl hk) (by simp) rfl rfl rfl
theorem Hp.store3 (h : Hp N w0 w L) (i : Nat) {g : Nat} {T : TypeId} {a b c : Value} (hi : L[i]? = some (.blk g T #[a, b, c])) (x y z : Value) : Hp N w0 (((w.setCell ⟨g, 0, none⟩ x).setCell ⟨g, 1, none⟩ y).setCell ⟨g, 2, none⟩ z) (L.set i (.blk g T #[x, y, z])) :=
  h.change i hi ⟨(h.at_ i hi).1, (h.blk i hi).store3 x y z⟩ (fun k _ hn => by
    rw [heap_setCell_other _ ⟨g, 2, none⟩ k z (fun e => hn e), heap_setCell_other _ ⟨g, 1, none⟩ k y (fun e => hn e), heap_setCell_other _ ⟨g, 0, none⟩ k x (fun e => hn e)]) (fun k hk => .inl hk) (by simp) rfl rfl rfl
theorem Hp.store2 (h : Hp N w0 w L) (i : Nat) {g : Nat} {T : TypeId} {a b : Value} (hi : L[i]? = some (.blk g T #[a, b])) (x y : Value) : Hp N w0 ((w.setCell ⟨g, 0, none⟩ x).setCell ⟨g, 1, none⟩ y) (L.set i (.blk g T #[x, y])) :=
  h.change i hi ⟨(h.at_ i hi).1, (h.blk i hi).store2 x y⟩ (fun k _ hn => by
    rw [heap_setCell_other _ ⟨g, 1, none⟩ k y (fun e => hn e), heap_setCell_other _ ⟨g, 0, none⟩ k x (fun e => hn e)]) (fun k hk => .inl hk) (by simp) rfl rfl rfl
/-- A cell of a row is written. -/
theorem Hp.put (h : Hp N w0 w L) (i : Nat) {g n cap : Nat} {xs : List Int} (hi : L[i]? = some (.ints (.slice (some ⟨g, 0, none⟩) n cap) xs)) (j : Nat) (x : Int) : Hp N w0 (w.setCell ⟨g, j, none⟩ (.int .i64 x)) (L.set i (.ints (.slice (some ⟨g, 0, none⟩) n cap) (xs.set j x))) :=
  h.change i hi ((h.ints i hi).put j x) (fun k _ hn => heap_setCell_other w ⟨g, j, none⟩ k _ (fun e => hn (by simp [Item.owns, Value.ownBlock, e]))) (fun k hk => .inl hk) (by simp) rfl rfl rfl
/-- Only some of the items, in any order. -/
theorem Hp.pick (h : Hp N w0 w L) (js : List Nat) (hn : js.Nodup) : Hp N w0 w (js.filterMap (L[·]?)) := by
  refine ⟨h.below, h.size, fun i hi => ?_, ?_⟩
  · obtain ⟨j, _, hj⟩ := List.mem_filterMap.1 hi
    exact h.at_ j hj
  · rw [List.pairwise_filterMap]
    refine hn.imp_of_mem fun {p q} hp hq hne b hb b' hb' => ?_
    exact h.off p q hb hb' hne
end
end Go.Proofs.Ytldblcolnjkcaaa
