/- Words for memory used by all texts of this seat: a slice of ints that reads as a list. No conditions. -/
import Derived.Test.YtmoejdnodhmglaaDoorRows
import Derived.WalkKit
import Derived.WalkSpells
import Derived.WalkLawsBesides
import Derived.Maps.AppendAt
import Derived.Deep.AppendLies
import Derived.Deep.Draws
import Derived.Deep.Quiet
import Derived.Deep.QuietTactic
import Derived.BigQuiet
namespace Go.Proofs.YtmoejdnodhmglaaDoor
open Go.RowKit

theorem hid {p : Prop} (h : p) : Hid p := h
theorem ret_bool {a b : Bool} (h : a = b) : Ending.returned (.bool a) = .returned (.bool b) := by rw [h]
theorem ret_int {k : IntKind} {a b : Int} (h : a = b) : Ending.returned (.int k a) = .returned (.int k b) := by rw [h]

/-- The value v reads as the list xs of ints in w. -/
def Ints (w : World) (v : Value) (xs : List Int) : Prop :=
  ∃ (A : Option Addr) (c : Nat), v = .slice A xs.length c ∧ xs.length ≤ c ∧ c ≤ maxLen ∧
    (0 < xs.length → ∃ b off, A = some ⟨b, off, none⟩ ∧ b < w.heap.size ∧ ∀ j x, xs[j]? = some x → w.cell? ⟨b, off + j, none⟩ = some (.int .i64 x))

theorem Ints.ext {w w' : World} {v : Value} {xs : List Int} (h : Ints w v xs) (hb : Below w.heap.size w w') : Ints w' v xs := by
  obtain ⟨A, c, hv, h1, h2, h3⟩ := h
  refine ⟨A, c, hv, h1, h2, fun hn => ?_⟩
  obtain ⟨b, off, ha, hlt, hc⟩ := h3 hn
  refine ⟨b, off, ha, Nat.lt_of_lt_of_le hlt hb.size, fun j x hx => ?_⟩
  rw [hb.cell (p := ⟨b, off + j, none⟩) hlt]
  exact hc j x hx

theorem Ints.form {w : World} {v : Value} {xs : List Int} (h : Ints w v xs) : ∃ A c, v = .slice A xs.length c := by
  obtain ⟨A, c, hv, _⟩ := h
  exact ⟨A, c, hv⟩
theorem Ints.take {w : World} {b off c n : Nat} {xs : List Int} (h : Ints w (.slice (some ⟨b, off, none⟩) n c) xs) (k : Nat) (hk : k ≤ n) : Ints w (.slice (some ⟨b, off, none⟩) k c) (xs.take k) := by
  obtain ⟨A, c', hv, h1, h2, h3⟩ := h
  simp only [Value.slice.injEq] at hv
  obtain ⟨rfl, rfl, rfl⟩ := hv
  refine ⟨_, _, by rw [List.length_take, Nat.min_eq_left hk], by rw [List.length_take]; omega, h2, fun hn => ?_⟩
  rw [List.length_take] at hn
  obtain ⟨b', off', e, hb, hc⟩ := h3 (by omega)
  refine ⟨b', off', e, hb, fun j x hx => hc j x ?_⟩
  rw [List.getElem?_take] at hx
  split at hx
  · exact hx
  · cases hx
theorem Ints.drop {w : World} {b off c n : Nat} {xs : List Int} (h : Ints w (.slice (some ⟨b, off, none⟩) n c) xs) (k : Nat) (hk : k ≤ n) : Ints w (.slice (some ⟨b, off + k, none⟩) (n - k) (c - k)) (xs.drop k) := by
  obtain ⟨A, c', hv, h1, h2, h3⟩ := h
  simp only [Value.slice.injEq] at hv
  obtain ⟨rfl, rfl, rfl⟩ := hv
  refine ⟨_, _, by rw [List.length_drop], by rw [List.length_drop]; omega, by omega, fun hn => ?_⟩
  rw [List.length_drop] at hn
  obtain ⟨b', off', e, hb, hc⟩ := h3 (by omega)
  simp only [Option.some.injEq, Addr.mk.injEq, and_true] at e
  obtain ⟨rfl, rfl⟩ := e
  refine ⟨b, off + k, rfl, hb, fun j x hx => ?_⟩
  rw [List.getElem?_drop] at hx
  rw [Nat.add_assoc]
  exact hc (k + j) x hx
theorem Ints.dropAll {w : World} {A : Option Addr} {c n k : Nat} {xs : List Int} (h : Ints w (.slice A n c) xs) (hk : c = k) : Ints w (.slice A (n - k) 0) (xs.drop k) := by
  obtain ⟨A', c', hv, h1, h2, h3⟩ := h
  simp only [Value.slice.injEq] at hv
  obtain ⟨rfl, rfl, rfl⟩ := hv
  exact ⟨_, _, by rw [List.length_drop], by rw [List.length_drop]; omega, by omega, fun hn => by rw [List.length_drop] at hn; omega⟩
theorem Ints.empty {w : World} {A : Option Addr} {c : Nat} (hc : c ≤ maxLen) : Ints w (.slice A 0 c) [] := ⟨A, c, rfl, Nat.zero_le _, hc, fun h => absurd h (by simp)⟩
/-- The product of a list, from the left, with Go's wrap. -/
def prodW (xs : List Int) : Int := xs.foldl (fun n x => wrap64 (n * x)) 1
theorem prodW_snoc (xs : List Int) (x : Int) : prodW (xs ++ [x]) = wrap64 (prodW xs * x) := by
  simp [prodW]
theorem take_snocI {α : Type} (xs : List α) (k : Nat) (h : k < xs.length) : xs.take (k + 1) = xs.take k ++ [xs[k]] := by
  rw [List.take_succ_eq_append_getElem h]

theorem take_set_self (ys xs : List Int) (k : Nat) (x : Int) (hk : k < ys.length) (h : ys.take k = xs.take k) (hx : xs.take (k + 1) = xs.take k ++ [x]) : (ys.set k x).take (k + 1) = xs.take (k + 1) := by
  rw [hx, ← h, take_snocI _ k (by simpa using hk)]
  simp
  apply List.ext_getElem?
  intro i
  by_cases hi : i < k
  · rw [List.getElem?_take, List.getElem?_take, if_pos hi, if_pos hi, List.getElem?_set_ne (by omega)]
  · rw [List.getElem?_take, List.getElem?_take, if_neg hi, if_neg hi]
/-- A number in a range. -/
def inR (n lo hi : Int) : Bool := decide (lo ≤ n) && decide (n ≤ hi)
theorem inR_yes {n lo hi : Int} (h1 : lo ≤ n) (h2 : n ≤ hi) : inR n lo hi = true := by simp [inR, h1, h2]
theorem inR_iff {n lo hi : Int} : inR n lo hi = true ↔ lo ≤ n ∧ n ≤ hi := by simp [inR]
theorem inR_no {n lo hi : Int} (h : n < lo ∨ hi < n) : inR n lo hi = false := by simp only [inR, Bool.and_eq_false_iff, decide_eq_false_iff_not]; omega
/-- An extent that is in range. -/
def okExt (e : Int) : Bool := inR e 0 60
def isShapeL (xs : List Int) : Bool := decide (xs.length ≤ 4) && xs.all okExt && decide (prodW xs ≤ 60)
theorem all_snoc (p : Int → Bool) (xs : List Int) (k : Nat) (h : k < xs.length) (ha : (xs.take k).all p = true) : (xs.take (k + 1)).all p = p xs[k] := by
  rw [take_snocI xs k h, List.all_append, ha]; simp
theorem all_false (p : Int → Bool) (xs : List Int) (k : Nat) (h : k < xs.length) (hp : p xs[k] = false) : xs.all p = false := by
  rw [List.all_eq_false]; exact ⟨xs[k], List.getElem_mem h, by simp [hp]⟩

theorem allT_snoc {α : Type} (p : α → Bool) (xs : List α) (k : Nat) (h : k < xs.length) (ha : (xs.take k).all p = true) : (xs.take (k + 1)).all p = p xs[k] := by
  rw [take_snocI xs k h, List.all_append, ha]; simp
theorem allT_false {α : Type} (p : α → Bool) (xs : List α) (k : Nat) (h : k < xs.length) (hp : p xs[k] = false) : xs.all p = false := by
  rw [List.all_eq_false]; exact ⟨xs[k], List.getElem_mem h, by simp [hp]⟩
/-- An index of a shape. -/
def isIndexL (shape index : List Int) : Bool := decide (index.length = shape.length) && (shape.zip index).all fun p => inR p.2 0 (p.1 - 1)

/-- A view, as data. -/
structure VL where
  base : Int
  shape : List Int
  strides : List Int
def ViewV (w : World) (v : Value) (V : VL) : Prop := ∃ sv tv, v = .agg #[.int .i64 V.base, sv, tv] ∧ Ints w sv V.shape ∧ Ints w tv V.strides
theorem ViewV.ext {w w' : World} {v : Value} {V : VL} (h : ViewV w v V) (hb : Below w.heap.size w w') : ViewV w' v V := by
  obtain ⟨sv, tv, hv, h1, h2⟩ := h
  exact ⟨sv, tv, hv, h1.ext hb, h2.ext hb⟩

/-- The cell of an index, with Go's wrap. -/
def offW (base : Int) (index strides : List Int) : Int := (index.zip strides).foldl (fun n p => wrap64 (n + wrap64 (p.1 * p.2))) base
theorem offW_snoc (base : Int) (index strides : List Int) (k : Nat) (h1 : k < index.length) (h2 : k < strides.length) :
    offW base (index.take (k + 1)) strides = wrap64 (offW base (index.take k) strides + wrap64 (index[k] * strides[k])) := by
  unfold offW
  have e : (index.take (k + 1)).zip strides = (index.take k).zip strides ++ [(index[k], strides[k])] := by
    apply List.ext_getElem
    · simp; omega
    · intro i hi1 hi2
      simp only [List.length_zip, List.length_take] at hi1
      by_cases hik : i < k
      · rw [List.getElem_append_left (by simp; omega)]
        simp
      · obtain rfl : i = k := by omega
        rw [List.getElem_append_right (by simp; omega)]
        simp
  rw [e, List.foldl_append]
  rfl

theorem Tryd.infoInt : (Tryd.prog.info? 3).map (fun i => (i.zero, i.size, i.bytes)) = some (some (.int .i64 0), 1, 8) := by kernel_rfl

/-- v reads as xs in w, lies from block B on, in a row that nobody else holds a mark on: it may be written. -/
def Own (w : World) (B : Nat) (v : Value) (xs : List Int) : Prop := w.ownsRow B 3 1 v xs.length (xs.map (Value.int .i64))

section
variable {w w' : World} {B : Nat} {v : Value} {xs : List Int}
theorem Own.nil (w : World) (B : Nat) : Own w B (.slice none 0 0) [] := World.ownsRow_nil w B _ _
theorem Own.mono (h : Own w B v xs) {B' : Nat} (hB : B' ≤ B) : Own w B' v xs := by
  obtain ⟨h1, h2⟩ := h
  refine ⟨h1, ?_⟩
  rcases h2 with h2 | ⟨g, cap, cur, hv, hg, r⟩
  · exact .inl h2
  · exact .inr ⟨g, cap, cur, hv, by omega, r⟩
theorem Own.ints (h : Own w B v xs) : Ints w v xs := by
  obtain ⟨h1, h2⟩ := h
  rcases h2 with ⟨rfl, h0⟩ | ⟨g, cap, cur, rfl, hg, hh, hn, hc, hs, ht⟩
  · refine ⟨none, 0, by rw [h0], by omega, by unfold maxLen; omega, fun h => by omega⟩
  · refine ⟨_, _, rfl, hn, hc, fun h0 => ⟨g, 0, rfl, (Array.getElem?_eq_some_iff.1 hh).1, fun j x hx => ?_⟩⟩
    rw [Nat.zero_add, cell_of_row w g j cur _ (0, 0) hh]
    have : (xs.map (Value.int .i64))[j]? = some (.int .i64 x) := by simp [hx]
    rw [← ht, List.getElem?_take] at this
    split at this
    · simpa using this
    · cases this
theorem Own.grown {row : Option Nat} (h : Own w B v xs) (hg : w.grownBy w' row) (hne : v.ownBlock = none ∨ v.ownBlock ≠ row) : Own w' B v xs := World.ownsRow.kept h hg hne
theorem Own.ext (h : Own w B v xs) (hb : Below w.heap.size w w') : Own w' B v xs := by
  refine World.ownsRow.kept (row := none) h ⟨hb.os, hb.tape, hb.output, hb.size, fun k hk _ => hb.block k hk⟩ ?_
  cases hv : v.ownBlock <;> simp
theorem Own.form (h : Own w B v xs) : ∃ A c, v = .slice A xs.length c := by
  rcases h.2 with ⟨rfl, h0⟩ | ⟨g, cap, cur, rfl, _⟩
  · exact ⟨none, 0, by rw [h0]⟩
  · exact ⟨_, _, rfl⟩
theorem Own.row (h : Own w B v xs) (hn : 0 < xs.length) : ∃ g cap, v = .slice (some ⟨g, 0, none⟩) xs.length cap ∧ B ≤ g ∧ g < w.heap.size := World.ownsRow.form h hn
theorem Own.below {row : Option Nat} (hb : w.grownBy w' row) (hB : B ≤ w.heap.size) (hr : ∀ k, row = some k → B ≤ k) : Below B w w' := (Below.refl _ _).grown hb hB hr
theorem Own.lt (h : Own w B v xs) : ∀ k, v.ownBlock = some k → B ≤ k ∧ k < w.heap.size := World.ownsRow.lt h
theorem Own.cell {g cap n : Nat} (h : Own w B (.slice (some ⟨g, 0, none⟩) n cap) xs) (j : Nat) (hj : j < xs.length) : w.cell? ⟨g, j, none⟩ = some (.int .i64 xs[j]) := by
  obtain ⟨A, c, hv⟩ := h.form
  have hn : n = xs.length := by simp only [Value.slice.injEq] at hv; exact hv.2.1
  subst hn
  have h1 : w.ownsRow B _ 1 _ _ _ := h
  rw [h1.cellAt j (by omega)]
  simp [hj]
theorem Own.free {g cap n : Nat} (h : Own w B (.slice (some ⟨g, 0, none⟩) n cap) xs) (j : Nat) : w.frozen? ⟨g, j, none⟩ = false := by
  obtain ⟨A, c, hv⟩ := h.form
  have hn : n = xs.length := by simp only [Value.slice.injEq] at hv; exact hv.2.1
  subst hn
  have h1 : w.ownsRow B _ 1 _ _ _ := h
  exact h1.frozenAt j
theorem Own.put {g cap n : Nat} (h : Own w B (.slice (some ⟨g, 0, none⟩) n cap) xs) (j : Nat) (x : Int) : Own (w.setCell ⟨g, j, none⟩ (.int .i64 x)) B (.slice (some ⟨g, 0, none⟩) n cap) (xs.set j x) := by
  obtain ⟨A, c, hv⟩ := h.form
  have hn : n = xs.length := by simp only [Value.slice.injEq] at hv; exact hv.2.1
  subst hn
  have h1 : w.ownsRow B _ 1 _ _ _ := h
  have h2 := (h1.stored j (.int .i64 x)).1
  unfold Own
  rw [List.length_set, List.map_set]
  exact h2
/-- Writing one cell. -/
theorem Own.set (h : Own w B v xs) {g cap : Nat} (hv : v = .slice (some ⟨g, 0, none⟩) xs.length cap) (j : Nat) (x : Int) : Own (w.setCell ⟨g, j, none⟩ (.int .i64 x)) B v (xs.set j x) := by
  subst hv
  have h1 : w.ownsRow B _ 1 _ _ _ := h
  have h2 := (h1.stored j (.int .i64 x)).1
  unfold Own
  rw [List.length_set, List.map_set]
  exact h2
end

theorem Own.empty (w : World) {B g : Nat} (hg : g = w.heap.size) (hB : B ≤ g) : Own (w.alloc (.cells #[] 3)) B (.slice (some ⟨g, 0, none⟩) 0 0) [] := by
  subst hg
  exact ⟨by simp, .inr ⟨w.heap.size, 0, #[], rfl, hB, heap_alloc_new w _, Nat.le_refl _, by unfold maxLen; omega, rfl, rfl⟩⟩
theorem below_alloc (w : World) (o : Obj) : Below w.heap.size w (w.alloc o) := (Below.refl _ _).alloc (Nat.le_refl _) _
theorem below_drewN (w : World) (n : Nat) : Below w.heap.size w (w.drewN n) := ⟨rfl, rfl, rfl, Nat.le_refl _, fun _ _ => rfl⟩
theorem below_drew (w : World) : Below w.heap.size w w.drew := (Below.refl _ _).drew
theorem Own.alloc {w : World} {B : Nat} {v : Value} {xs : List Int} (h : Own w B v xs) (o : Obj) : Own (w.alloc o) B v xs := h.ext (below_alloc w o)
theorem Own.drew {w : World} {B : Nat} {v : Value} {xs : List Int} (h : Own w B v xs) : Own w.drew B v xs := h.ext (below_drew w)
theorem Own.grow {w w' : World} {B N : Nat} {v : Value} {xs : List Int} (h : Own w B v xs) (hb : Below N w w') (hN : w.heap.size ≤ N) : Own w' B v xs := h.ext (hb.mono hN)
theorem cell_new1 (w : World) (x : Value) (t : TypeId) : (w.alloc (.cells #[x] t)).cell? ⟨w.heap.size, 0, none⟩ = some x := by simp
theorem le_alloc {w : World} {n : Nat} (h : n ≤ w.heap.size) (o : Obj) : n ≤ (w.alloc o).heap.size := by simp; omega
/-- Behind an append to an owned row nothing below its base has changed. -/
theorem Own.under {w w' : World} {B : Nat} {v : Value} {xs : List Int} (h : Own w B v xs) (hg : w.grownBy w' v.ownBlock) (hB : B ≤ w.heap.size) : Below B w w' := Own.below hg hB fun k hk => (h.lt k hk).1
theorem grown_set (w : World) (p : Addr) (u : Value) : w.grownBy (w.setCell p u) (some p.block) := ⟨rfl, rfl, rfl, by simp, fun k _ hk => heap_setCell_other w p k u (fun e => hk (by simp [e]))⟩
theorem Own.far {w : World} {B : Nat} {v : Value} {xs : List Int} (h : Own w B v xs) {p : Addr} (hp : p.block < B) (u : Value) : Own (w.setCell p u) B v xs := ownsRow_setCell_below h hp u
/-- A struct of three words in a block of its own. -/
def Box (w : World) (g : Nat) (c0 c1 c2 : Value) : Prop := w.cell? ⟨g, 0, none⟩ = some c0 ∧ w.cell? ⟨g, 1, none⟩ = some c1 ∧ w.cell? ⟨g, 2, none⟩ = some c2
theorem Box.new (w : World) (c0 c1 c2 : Value) (t : TypeId) : Box (w.alloc (.cells #[c0, c1, c2] t)) w.heap.size c0 c1 c2 := ⟨by simp, by simp, by simp⟩
theorem Box.ext {w w' : World} {g B : Nat} {c0 c1 c2 : Value} (h : Box w g c0 c1 c2) (hb : Below B w w') (hg : g < B) : Box w' g c0 c1 c2 :=
  ⟨(hb.cell (p := ⟨g, 0, none⟩) hg).trans h.1, (hb.cell (p := ⟨g, 1, none⟩) hg).trans h.2.1, (hb.cell (p := ⟨g, 2, none⟩) hg).trans h.2.2⟩
theorem Box.drew {w : World} {g : Nat} {c0 c1 c2 : Value} (h : Box w g c0 c1 c2) : Box w.drew g c0 c1 c2 := h
theorem Box.alloc {w : World} {g : Nat} {c0 c1 c2 : Value} (h : Box w g c0 c1 c2) (hg : g < w.heap.size) (o : Obj) : Box (w.alloc o) g c0 c1 c2 := h.ext (below_alloc w o) hg

/-- A block known whole. -/
def Blk (w : World) (g : Nat) (t : TypeId) (cs : Array Value) : Prop := w.heap[g]? = some (.cells cs t (0, 0))
section
variable {w w' : World} {g : Nat} {t : TypeId} {cs : Array Value}
theorem Blk.lt (h : Blk w g t cs) : g < w.heap.size := (Array.getElem?_eq_some_iff.1 h).1
theorem Blk.cell (h : Blk w g t cs) (i : Nat) : w.cell? ⟨g, i, none⟩ = cs[i]? := cell_of_row w g i cs t (0, 0) h
theorem Blk.free (h : Blk w g t cs) (i : Nat) : w.frozen? ⟨g, i, none⟩ = false := frozen_of_row w g i cs t h
theorem Blk.new (w : World) (t : TypeId) (cs : Array Value) : Blk (w.alloc (.cells cs t)) w.heap.size t cs := heap_alloc_new w _
theorem Blk.ext {B : Nat} (h : Blk w g t cs) (hb : Below B w w') (hg : g < B) : Blk w' g t cs := (hb.block g hg).trans h
theorem Blk.alloc (h : Blk w g t cs) (o : Obj) : Blk (w.alloc o) g t cs := h.ext (below_alloc w o) h.lt
theorem Blk.set_ (h : Blk w g t cs) (i : Nat) (u : Value) : Blk (w.setCell ⟨g, i, none⟩ u) g t (cs.setIfInBounds i u) := heap_setCell_same w g i cs t u h
theorem Blk.far (h : Blk w g t cs) {p : Addr} (hp : g ≠ p.block) (u : Value) : Blk (w.setCell p u) g t cs := (Below.heap_setCell w p u g hp).trans h
end

theorem Blk.all3 {w : World} {g : Nat} {t : TypeId} {a b c : Value} (h : Blk w g t #[a, b, c]) : (w.cell? ⟨g, 0, none⟩ = some a ∧ w.cell? ⟨g, 1, none⟩ = some b ∧ w.cell? ⟨g, 2, none⟩ = some c) ∧
    w.frozen? ⟨g, 0, none⟩ = false ∧ w.frozen? ⟨g, 1, none⟩ = false ∧ w.frozen? ⟨g, 2, none⟩ = false :=
  ⟨⟨h.cell 0, h.cell 1, h.cell 2⟩, h.free 0, h.free 1, h.free 2⟩
theorem six_cells {w : World} {g g' : Nat} {t t' : TypeId} {a b c a' b' c' : Value} (h : Blk w g t #[a, b, c]) (h' : Blk w g' t' #[a', b', c']) :
    w.cell? ⟨g, 0, none⟩ = some a ∧ w.cell? ⟨g, 1, none⟩ = some b ∧ w.cell? ⟨g, 2, none⟩ = some c ∧ w.cell? ⟨g', 0, none⟩ = some a' ∧ w.cell? ⟨g', 1, none⟩ = some b' ∧ w.cell? ⟨g', 2, none⟩ = some c' :=
  ⟨h.cell 0, h.cell 1, h.cell 2, h'.cell 0, h'.cell 1, h'.cell 2⟩
/-- A world that has all that W had, and more. -/
structure ExtW (W : World) where
  v : World
  h : Below W.heap.size W v
instance (W : World) : Nonempty (ExtW W) := ⟨⟨W, Below.refl _ _⟩⟩
theorem ExtW.at_ {W : World} (x : ExtW W) {g : Nat} {t : TypeId} {cs : Array Value} (h : Blk W g t cs) : Blk x.v g t cs := h.ext x.h h.lt
theorem ext_call {P : Program} {f : FuncId} {args : Array Value} {W : World} {x : ExtW W} {v : Value} (h : Calls P f args x.v fun e w' => e = .returned v ∧ Below x.v.heap.size x.v w') :
    Calls P f args x.v fun e w'' => e = .returned v ∧ ∃ y : ExtW W, w'' = y.v :=
  h.mono fun _ w'' ⟨he, hb⟩ => ⟨he, ⟨w'', x.h.trans (hb.mono x.h.size)⟩, rfl⟩
/-- A region that draws its order, whose calls give plain values and change nothing that was there: one walk in the order of the text. -/
theorem region_ext {P : Program} {id : Nat} {l : List Oper} {Q : Exit → Act → World → Prop} {a : Act} {W : World} (hm : P.follows .mixedOrders = true) (hB : Region.lexB .any l.toArray = true)
    (h : wpQuiet P l.toArray (fun w' => ∃ x : ExtW W, w' = x.v) (fun a' => ∀ w', (∃ x : ExtW W, w' = x.v) → Q .normal a' w') l a) : (Code.region id l.toArray true).wp P Q a W :=
  wp_region_quiet (C := fun w' => ∃ x : ExtW W, w' = x.v) hm hB ⟨⟨W.drew, (Below.refl _ _).drew⟩, rfl⟩ (by simpa using h)
/-- Two values share no block. -/
def Sep (a b : Value) : Prop := ∀ k, a.ownBlock = some k → b.ownBlock = some k → False
theorem Sep.symm {a b : Value} (h : Sep a b) : Sep b a := fun k h1 h2 => h k h2 h1
theorem Sep.ne {a b : Value} (h : Sep a b) : a.ownBlock = none ∨ a.ownBlock ≠ b.ownBlock := by
  cases ha : a.ownBlock with
  | none => exact .inl rfl
  | some k => exact .inr fun e => h k ha e.symm
theorem Sep.app {v v' r : Value} {n : Nat} (h : Sep v r) (hat : v'.ownBlock = v.ownBlock ∨ v'.ownBlock = some n) (hr : ∀ k, r.ownBlock = some k → k < n) : Sep v' r := by
  intro k h1 h2
  rcases hat with e | e
  · exact h k (by rw [← e]; exact h1) h2
  · rw [e] at h1
    have := hr k h2
    injection h1 with h1
    omega
/-- A value's block lies from lo up to below hi. -/
def Seg (v : Value) (lo hi : Nat) : Prop := ∀ k, v.ownBlock = some k → lo ≤ k ∧ k < hi
theorem Seg.sep {a b : Value} {l1 h1 l2 h2 : Nat} (ha : Seg a l1 h1) (hb : Seg b l2 h2) (h : h1 ≤ l2) : Sep a b := fun k e1 e2 => by
  have := ha k e1; have := hb k e2; omega
theorem Own.seg {w : World} {B : Nat} {v : Value} {xs : List Int} (h : Own w B v xs) : Seg v B w.heap.size := h.lt
theorem Seg.mono {a : Value} {l h l' h' : Nat} (ha : Seg a l h) (h1 : l' ≤ l) (h2 : h ≤ h') : Seg a l' h' := fun k e => by have := ha k e; omega
/-- Only blocks from lo up to below hi may have changed (and new ones come). -/
structure Chg (lo hi : Nat) (w w' : World) : Prop where
  os : w'.os = w.os
  tape : w'.tape = w.tape
  output : w'.output = w.output
  size : w.heap.size ≤ w'.heap.size
  block : ∀ k, k < w.heap.size → (k < lo ∨ hi ≤ k) → w'.heap[k]? = w.heap[k]?
theorem Chg.of_grown {w w' : World} {v : Value} {lo hi : Nat} (h : w.grownBy w' v.ownBlock) (hs : Seg v lo hi) : Chg lo hi w w' :=
  ⟨h.os, h.tape, h.output, h.size, fun k hk hlo => h.block k hk fun e => by have := hs k e.symm; omega⟩
theorem Chg.of_below {w w' : World} (h : Below w.heap.size w w') (lo hi : Nat) : Chg lo hi w w' := ⟨h.os, h.tape, h.output, h.size, fun k hk _ => h.block k hk⟩
theorem Chg.trans {lo hi : Nat} {a b c : World} (h : Chg lo hi a b) (k : Chg lo hi b c) : Chg lo hi a c :=
  ⟨k.os.trans h.os, k.tape.trans h.tape, k.output.trans h.output, Nat.le_trans h.size k.size, fun i hi hl => (k.block i (Nat.lt_of_lt_of_le hi h.size) hl).trans (h.block i hi hl)⟩
theorem Chg.refl (lo hi : Nat) (w : World) : Chg lo hi w w := ⟨rfl, rfl, rfl, Nat.le_refl _, fun _ _ _ => rfl⟩
theorem Chg.below {lo hi B : Nat} {w w' : World} (h : Chg lo hi w w') (hB : B ≤ lo) (hw : B ≤ w.heap.size) : Below B w w' :=
  ⟨h.os, h.tape, h.output, h.size, fun k hk => h.block k (by omega) (by omega)⟩
theorem Own.chg {w w' : World} {B lo hi l h : Nat} {v : Value} {xs : List Int} (ho : Own w B v xs) (hc : Chg lo hi w w') (hs : Seg v l h) (hd : h ≤ lo ∨ hi ≤ l) : Own w' B v xs := by
  obtain ⟨h1, h2⟩ := ho
  refine ⟨h1, ?_⟩
  rcases h2 with h2 | ⟨g, cap, cur, hv, hg, hh, r⟩
  · exact .inl h2
  · refine .inr ⟨g, cap, cur, hv, hg, ?_, r⟩
    have hk := hs g (by rw [hv]; rfl)
    rw [hc.block g (Array.getElem?_eq_some_iff.1 hh).1 (by omega)]
    exact hh

theorem Blk.chg {w w' : World} {lo hi g : Nat} {t : TypeId} {cs : Array Value} (h : Blk w g t cs) (hc : Chg lo hi w w') (hg : g < lo ∨ hi ≤ g) : Blk w' g t cs := (hc.block g h.lt hg).trans h
theorem bstep {B : Nat} {a b c : World} (h : Below B a b) (k : Below b.heap.size b c) (hB : B ≤ b.heap.size) : Below B a c := h.trans (k.mono hB)
theorem Own.view {w : World} {B1 B2 : Nat} {sv tv : Value} {V : VL} (h1 : Own w B1 sv V.shape) (h2 : Own w B2 tv V.strides) : ViewV w (.agg #[.int .i64 V.base, sv, tv]) V := ⟨_, _, rfl, h1.ints, h2.ints⟩

/-- What a function that returns a new list of ints leaves. -/
def RetOwn (w : World) (xs : List Int) (e : Ending) (w' : World) : Prop := ∃ r, e = .returned r ∧ Own w' w.heap.size r xs ∧ Below w.heap.size w w'

section
variable {P : Program} {ops : Array Oper} {rest : List Oper} {o : Oper} {a : Act} {K : Act → World → Prop} {Q : Exit → Act → World → Prop} {E : Prop}

theorem wp_app1 (w : World) (s x : Operand) (ho : o.op = .call { callee := .builtin .append, args := #[s, x], argTypes := #[22, 22] })
    (B : Nat) (v : Value) (xs : List Int) (hs : a.eval s = v) (hown : Own w B v xs) (ad : Addr) (c : Nat) (x0 : Int) (hx : a.eval x = .slice (some ad) 1 c) (hc : w.cell? ad = some (.int .i64 x0))
    (hlen : xs.length ≤ 1000000000000) (hB : B ≤ w.heap.size)
    (h : ∀ v' w', Own w' B v' (xs ++ [x0]) → w.grownBy w' v.ownBlock → (v'.ownBlock = v.ownBlock ∨ v'.ownBlock = some w.heap.size) → K (a.put o.dst v') w') : o.wp Tryd.prog a w K Q := by
  obtain ⟨i0, hi, hz0, hz1, hz2⟩ := info_parts Tryd.infoInt
  obtain ⟨v', w', hr, h2, h3, _, h5⟩ := run_append_own_at (P := Tryd.prog) w B 22 o.type 3 i0 (.int .i64 0) 1 8 Tryd.underlying22 hi hz0 hz1 hz2 rfl (by decide) v xs.length _ hown ad 1 c [.int .i64 x0] rfl
    (by intro j u hj; match j, hj with | 0, hj => simp at hj; subst hj; simpa [Addr.add] using hc) (by intro u hu; simp at hu; subst hu; rfl) (by unfold maxLen; omega) (by omega) hB
  unfold Oper.wp execOp
  simp only [ho, resolve, invoke, builtin, Sem.run_bind, Sem.run_pure, Result.andThen_ok, List.map_toArray, List.map_cons, List.map_nil, hs, hx, hr]
  refine h v' w' ?_ h3 h5
  unfold Own
  simpa using h2

theorem app1 (w : World) (hgd : o.guard = none) (s x : Operand) (ho : o.op = .call { callee := .builtin .append, args := #[s, x], argTypes := #[22, 22] })
    (B : Nat) (v : Value) (xs : List Int) (hs : a.eval s = v) (hown : Own w B v xs) (ad : Addr) (c : Nat) (x0 : Int) (hx : a.eval x = .slice (some ad) 1 c) (hc : w.cell? ad = some (.int .i64 x0))
    (hlen : xs.length ≤ 1000000000000) (hB : B ≤ w.heap.size)
    (h : ∀ v' w', Own w' B v' (xs ++ [x0]) → w.grownBy w' v.ownBlock → (v'.ownBlock = v.ownBlock ∨ v'.ownBlock = some w.heap.size) → wpList Tryd.prog ops Q rest (a.put o.dst v') w') : wpList Tryd.prog ops Q (o :: rest) a w :=
  wpList_plain hgd fun _ hK => wp_app1 w s x ho B v xs hs hown ad c x0 hx hc hlen hB fun v' w' h1 h2 h3 => hK _ _ (h v' w' h1 h2 h3)

theorem step1 (w : World) (hgd : o.guard = none) (s x : Operand) (ho : o.op = .call { callee := .builtin .append, args := #[s, x], argTypes := #[22, 22] })
    (B : Nat) (v : Value) (xs : List Int) (hs : a.eval s = v) (hown : Own w B v xs) (ad : Addr) (c : Nat) (x0 : Int) (hx : a.eval x = .slice (some ad) 1 c) (hc : w.cell? ad = some (.int .i64 x0))
    (hlen : xs.length ≤ 1000000000000) (hB : B ≤ w.heap.size)
    (h : ∀ v' w', Own w' B v' (xs ++ [x0]) → w.grownBy w' v.ownBlock → (v'.ownBlock = v.ownBlock ∨ v'.ownBlock = some w.heap.size) → K (a.put o.dst v') w') :
    if Region.wanted o (yielded ops a.tmps) = true then Oper.wp Tryd.prog o a w K Q else E := by
  have hw : Region.wanted o (yielded ops a.tmps) = true := by simp [Region.wanted, hgd]
  rw [if_pos hw]
  exact wp_app1 w s x ho B v xs hs hown ad c x0 hx hc hlen hB h
end

theorem run_append_of_nil (w : World) (t ty e : TypeId) (i : TypeInfo) (size base : Nat) {P : Program} (ht : P.underlying t = some (.slice e)) (hi : P.info? e = some i)
    (v : Value) (n : Nat) (xs : List Value) (hown : w.ownsRow base e size v n xs) (c : Nat) : (Builtin.append_ #[t, t] ty #[v, .slice none 0 c]).run P w = .ok v w := by
  rcases hown.2 with ⟨rfl, rfl⟩ | ⟨g, cap, cur, rfl, _, _, hnc, _⟩
  · simp [Builtin.append_, run_underlying ht, sizeOf, typeInfo, hi, Builtin.lenOf, Builtin.firstCells]
  · simp [Builtin.append_, run_underlying ht, sizeOf, typeInfo, hi, Builtin.lenOf, Builtin.firstCells, hnc, storeCells]

theorem run_appI (w : World) (ty : TypeId) (B : Nat) (v : Value) (xs : List Int) (hown : Own w B v xs) (A : Option Addr) (m c : Nat) (news : List Int) (hx : Ints w (.slice A m c) news)
    (hlen : xs.length + news.length ≤ 1000000000000) (hB : B ≤ w.heap.size) :
    ∃ v' w', (Builtin.append_ #[22, 22] ty #[v, .slice A m c]).run Tryd.prog w = .ok v' w' ∧ Own w' B v' (xs ++ news) ∧ w.grownBy w' v.ownBlock ∧ (v'.ownBlock = v.ownBlock ∨ v'.ownBlock = some w.heap.size) := by
  obtain ⟨i0, hi, hz0, hz1, hz2⟩ := info_parts Tryd.infoInt
  obtain ⟨A', c', hv, h1, h2, h3⟩ := hx
  simp only [Value.slice.injEq] at hv
  obtain ⟨rfl, rfl, rfl⟩ := hv
  cases A with
  | none =>
    have h0 : news.length = 0 := by
      rcases Nat.eq_zero_or_pos news.length with h | h
      · exact h
      · obtain ⟨b, off, e, _⟩ := h3 h; cases e
    have hn : news = [] := List.eq_nil_of_length_eq_zero h0
    subst hn
    exact ⟨v, w, run_append_of_nil w _ ty _ i0 1 B Tryd.underlying22 hi v xs.length _ hown c, by simpa using hown, World.grownBy.refl w _, .inl rfl⟩
  | some ad =>
    obtain ⟨v', w', hr, h2', h3', _, h5⟩ := run_append_own_at (P := Tryd.prog) w B 22 ty 3 i0 (.int .i64 0) 1 8 Tryd.underlying22 hi hz0 hz1 hz2 rfl (by decide) v xs.length _ hown ad news.length c (news.map (Value.int .i64)) (by simp)
      (by
        intro j u hj
        have hjl : j < news.length := by have := (List.getElem?_eq_some_iff.1 hj).1; simpa using this
        obtain ⟨b, off, e, _, hc⟩ := h3 (by omega)
        simp only [Option.some.injEq] at e
        subst e
        have e2 : (⟨b, off, none⟩ : Addr).add j = ⟨b, off + j, none⟩ := by unfold Addr.add; split <;> simp_all
        rw [e2]
        rw [List.getElem?_map, List.getElem?_eq_getElem hjl] at hj
        simp at hj
        subst hj
        exact hc j _ (by simp [hjl]))
      (by intro u hu; simp at hu; obtain ⟨x, _, rfl⟩ := hu; rfl) (by unfold maxLen; omega) (by omega) hB
    refine ⟨v', w', hr, ?_, h3', h5⟩
    unfold Own
    simpa using h2'

section
variable {ops : Array Oper} {rest : List Oper} {o : Oper} {a : Act} {K : Act → World → Prop} {Q : Exit → Act → World → Prop} {E : Prop}
theorem wp_appI (w : World) (s x : Operand) (ho : o.op = .call { callee := .builtin .append, args := #[s, x], argTypes := #[22, 22] })
    (B : Nat) (v : Value) (xs : List Int) (hs : a.eval s = v) (hown : Own w B v xs) (A : Option Addr) (m c : Nat) (news : List Int) (hx : a.eval x = .slice A m c) (hn : Ints w (.slice A m c) news)
    (hlen : xs.length + news.length ≤ 1000000000000) (hB : B ≤ w.heap.size)
    (h : ∀ v' w', Own w' B v' (xs ++ news) → w.grownBy w' v.ownBlock → (v'.ownBlock = v.ownBlock ∨ v'.ownBlock = some w.heap.size) → K (a.put o.dst v') w') : o.wp Tryd.prog a w K Q := by
  obtain ⟨v', w', hr, h2, h3, h5⟩ := run_appI w o.type B v xs hown A m c news hn hlen hB
  unfold Oper.wp execOp
  simp only [ho, resolve, invoke, builtin, Sem.run_bind, Sem.run_pure, Result.andThen_ok, List.map_toArray, List.map_cons, List.map_nil, hs, hx, hr]
  exact h v' w' h2 h3 h5
theorem appI (w : World) (hgd : o.guard = none) (s x : Operand) (ho : o.op = .call { callee := .builtin .append, args := #[s, x], argTypes := #[22, 22] })
    (B : Nat) (v : Value) (xs : List Int) (hs : a.eval s = v) (hown : Own w B v xs) (A : Option Addr) (m c : Nat) (news : List Int) (hx : a.eval x = .slice A m c) (hn : Ints w (.slice A m c) news)
    (hlen : xs.length + news.length ≤ 1000000000000) (hB : B ≤ w.heap.size)
    (h : ∀ v' w', Own w' B v' (xs ++ news) → w.grownBy w' v.ownBlock → (v'.ownBlock = v.ownBlock ∨ v'.ownBlock = some w.heap.size) → wpList Tryd.prog ops Q rest (a.put o.dst v') w') : wpList Tryd.prog ops Q (o :: rest) a w :=
  wpList_plain hgd fun _ hK => wp_appI w s x ho B v xs hs hown A m c news hx hn hlen hB fun v' w' h1 h2 h3 => hK _ _ (h v' w' h1 h2 h3)
theorem stepI (w : World) (hgd : o.guard = none) (s x : Operand) (ho : o.op = .call { callee := .builtin .append, args := #[s, x], argTypes := #[22, 22] })
    (B : Nat) (v : Value) (xs : List Int) (hs : a.eval s = v) (hown : Own w B v xs) (A : Option Addr) (m c : Nat) (news : List Int) (hx : a.eval x = .slice A m c) (hn : Ints w (.slice A m c) news)
    (hlen : xs.length + news.length ≤ 1000000000000) (hB : B ≤ w.heap.size)
    (h : ∀ v' w', Own w' B v' (xs ++ news) → w.grownBy w' v.ownBlock → (v'.ownBlock = v.ownBlock ∨ v'.ownBlock = some w.heap.size) → K (a.put o.dst v') w') :
    if Region.wanted o (yielded ops a.tmps) = true then Oper.wp Tryd.prog o a w K Q else E := by
  have hw : Region.wanted o (yielded ops a.tmps) = true := by simp [Region.wanted, hgd]
  rw [if_pos hw]
  exact wp_appI w s x ho B v xs hs hown A m c news hx hn hlen hB h
end

/-- make([]int, n). -/
theorem mk0 {ops : Array Oper} {rest : List Oper} {o : Oper} {a : Act} {Q : Exit → Act → World → Prop} (w : World) (hg : o.guard = none) (l c : Operand) (hop : o.op = Op.makeSlice 22 l c) (n : Nat)
    (hl : a.eval l = .int .i64 n) (hc : a.eval c = .int .i64 n) (hn : n ≤ 1000000000000)
    (hK : ∀ w', Own w' w.heap.size (.slice (some ⟨w.heap.size, 0, none⟩) n n) (List.replicate n 0) → Below w.heap.size w w' → wpList Tryd.prog ops Q rest (a.put o.dst (.slice (some ⟨w.heap.size, 0, none⟩) n n)) w') :
    wpList Tryd.prog ops Q (o :: rest) a w := by
  obtain ⟨i0, hi, hz0, hz1, hz2⟩ := info_parts Tryd.infoInt
  refine wpList_make_full (P := Tryd.prog) w hg l c 22 hop w.heap.size 3 i0 (.int .i64 0) 1 Tryd.underlying22 hi hz0 hz1 .i64 .i64 n n n hl hc rfl rfl (by rw [hz2]; omega) (by unfold maxLen; omega) (Nat.le_refl _) ?_
  intro w' h1 h2
  refine hK w' ?_ ((Below.refl _ _).grown h2 (Nat.le_refl _) (fun k h => by cases h))
  have e : (madeCells (Value.cells (.int .i64 0)) (n * 1)).toList = List.replicate n (Value.int .i64 0) := by rw [Nat.mul_one]; exact toList_madeCells_one _ _
  rw [e] at h1
  unfold Own
  rw [List.map_replicate, List.length_replicate]
  exact h1

/-! ### Indices of a rank, offsets -/
def prodI : List Int → Int | [] => 1 | x :: xs => x * prodI xs
def unr (shape : List Int) (k : Int) : List Int := (List.range shape.length).map fun j => (k / prodI (shape.drop (j + 1))) % shape.getD j 0
theorem unr_length (shape : List Int) (k : Int) : (unr shape k).length = shape.length := by simp [unr]
theorem unr_get (shape : List Int) (k : Int) (j : Nat) (h : j < shape.length) : (unr shape k)[j]? = some ((k / prodI (shape.drop (j + 1))) % shape[j]) := by
  simp [unr, h]
/-- Strides by rows and by columns. -/
def rowS (shape : List Int) : List Int := (List.range shape.length).map fun j => prodI (shape.drop (j + 1))
def colS (shape : List Int) : List Int := (List.range shape.length).map fun j => prodI (shape.take j)
theorem rowS_length (s : List Int) : (rowS s).length = s.length := by simp [rowS]
theorem colS_length (s : List Int) : (colS s).length = s.length := by simp [colS]
theorem rowS_get (s : List Int) (k : Nat) (h : k < s.length) : (rowS s)[k]'(by rw [rowS_length]; exact h) = prodI (s.drop (k + 1)) := by simp [rowS]
theorem colS_get (s : List Int) (k : Nat) (h : k < s.length) : (colS s)[k]'(by rw [colS_length]; exact h) = prodI (s.take k) := by simp [colS]
theorem prodI_snoc (xs : List Int) (x : Int) : prodI (xs ++ [x]) = prodI xs * x := by
  induction xs with
  | nil => simp [prodI]
  | cons y ys ih => simp only [List.cons_append, prodI, ih, Int.mul_assoc]
def offs (V : VL) : List Int := (List.range (prodW V.shape).toNat).map fun (k : Nat) => offW V.base (unr V.shape k) V.strides

def isViewL (V : VL) : Bool := isShapeL V.shape && decide (V.strides.length = V.shape.length) && inR V.base 0 60 && V.strides.all (inR · (-60) 60) && (offs V).all (inR · 0 59)

def eqL (xs ys : List Int) : Bool := decide (xs = ys)
theorem eqL_len {xs ys : List Int} (h : xs.length ≠ ys.length) : eqL xs ys = false := by simp [eqL]; intro e; exact h (by rw [e])
theorem eqL_at {xs ys : List Int} {k : Nat} (h1 : k < xs.length) (h2 : k < ys.length) (h : xs[k] ≠ ys[k]) : eqL xs ys = false := by
  simp [eqL]; intro e; subst e; exact h rfl
theorem eqL_yes {xs ys : List Int} (h : xs = ys) : eqL xs ys = true := by simp [eqL, h]
theorem take_eq_snoc {xs ys : List Int} {k : Nat} (h1 : k < xs.length) (h2 : k < ys.length) (h : xs.take k = ys.take k) (he : xs[k] = ys[k]) : xs.take (k + 1) = ys.take (k + 1) := by
  rw [take_snocI xs k h1, take_snocI ys k h2, h, he]
def hd0 : List Int → Int | [] => 0 | x :: _ => x
theorem hd0_get (xs : List Int) (h : 0 < xs.length) : xs[0] = hd0 xs := by cases xs with | nil => simp at h | cons x xs => rfl
def mn (a x : Int) : Int := if x < a then x else a
def mx (a x : Int) : Int := if a < x then x else a
def isRowL (V : VL) : Bool := isViewL V && eqL (offs V) (offs ⟨V.base, V.shape, rowS V.shape⟩)
def isColL (V : VL) : Bool := isViewL V && eqL (offs V) (offs ⟨V.base, V.shape, colS V.shape⟩)
def sameL (A B : VL) : Bool := isViewL A && isViewL B && eqL A.shape B.shape && eqL (offs A) (offs B)
def isMemL (mem : List Int) : Bool := decide (mem.length ≤ 60) && mem.all (inR · 0 255)
def fitsL (V : VL) (n : Int) : Bool := (offs V).all (inR · 0 (n - 1))
def holdL (mem : List Int) (V : VL) : Bool := isMemL mem && isViewL V && fitsL V mem.length
def takenL (xs idx : List Int) : List Int := idx.map fun i => xs.getD i.toNat 0
def loadL (mem : List Int) (V : VL) : List Int := if holdL mem V then takenL mem (offs V) else []
theorem holdL_and {mem : List Int} {V : VL} (h : holdL mem V = true) : isMemL mem = true ∧ isViewL V = true ∧ fitsL V mem.length = true := by
  simp only [holdL, Bool.and_eq_true] at h
  exact ⟨h.1.1, h.1.2, h.2⟩
theorem isMemL_and {mem : List Int} (h : isMemL mem = true) : mem.length ≤ 60 ∧ ∀ x ∈ mem, 0 ≤ x ∧ x ≤ 255 := by
  simp only [isMemL, Bool.and_eq_true, decide_eq_true_eq, List.all_eq_true, inR] at h
  exact ⟨h.1, h.2⟩
theorem fitsL_all {V : VL} {n : Int} (h : fitsL V n = true) : ∀ x ∈ offs V, 0 ≤ x ∧ x < n := by
  simp only [fitsL, List.all_eq_true, inR, Bool.and_eq_true, decide_eq_true_eq] at h
  intro x hx
  have := h x hx
  omega
theorem takenL_snoc (xs idx : List Int) (k : Nat) (h : k < idx.length) : takenL xs (idx.take (k + 1)) = takenL xs (idx.take k) ++ [xs.getD (idx[k]).toNat 0] := by
  unfold takenL
  rw [take_snocI idx k h, List.map_append]
  rfl
def sumW (xs : List Int) : Int := xs.foldl (fun n x => wrap64 (n + x)) 0
theorem sumW_snoc (xs : List Int) (k : Nat) (h : k < xs.length) : sumW (xs.take (k + 1)) = wrap64 (sumW (xs.take k) + xs[k]) := by
  unfold sumW; rw [take_snocI xs k h, List.foldl_append]; rfl
def sumL (mem : List Int) (V : VL) : Int := if holdL mem V then sumW (takenL mem (offs V)) else -1
def minI (xs : List Int) : Int := xs.foldl mn (hd0 xs)
def maxI (xs : List Int) : Int := xs.foldl mx (hd0 xs)
def hasCells (V : VL) : Bool := isViewL V && !(prodW V.shape == 0)
def loB (V : VL) : Int := if hasCells V then minI (offs V) else -1
def hiB (V : VL) : Int := if hasCells V then maxI (offs V) else -1
def mayL (A B : VL) : Bool := decide (0 ≤ loB A) && decide (0 ≤ loB B) && decide (loB A ≤ hiB B) && decide (loB B ≤ hiB A)
def offsOf (V : VL) : List Int := if isViewL V then offs V else []
def okAtL (V : VL) (index : List Int) : Bool := isViewL V && isIndexL V.shape index
def offAtL (V : VL) (index : List Int) : Int := if isViewL V && isIndexL V.shape index then offW V.base index V.strides else 0
theorem isViewL_and {V : VL} (h : isViewL V = true) : isShapeL V.shape = true ∧ V.shape.length = V.strides.length ∧ inR V.base 0 60 = true ∧ V.strides.all (inR · (-60) 60) = true ∧ (offs V).all (inR · 0 59) = true := by
  simp only [isViewL, Bool.and_eq_true, decide_eq_true_eq] at h
  exact ⟨h.1.1.1.1, h.1.1.1.2.symm, h.1.1.2, h.1.2, h.2⟩

/-- What a function that returns a new view leaves. -/
def RetView (w : World) (V : VL) (e : Ending) (w' : World) : Prop := ∃ sv tv, e = .returned (.agg #[.int .i64 V.base, sv, tv]) ∧
  Own w' w.heap.size sv V.shape ∧ Own w' w.heap.size tv V.strides ∧ Sep sv tv ∧ Below w.heap.size w w'
def VL.zero : VL := ⟨0, [], []⟩
def madeL (V : VL) : VL := if isViewL V then V else VL.zero
def hasDimL (V : VL) (d : Int) : Bool := isViewL V && decide (0 ≤ d) && decide (d < V.shape.length)
/-- What a function that returns a new view and a bool leaves. -/
def RetViewB (w : World) (V : VL) (b : Bool) (e : Ending) (w' : World) : Prop := ∃ sv tv, e = .returned (.tuple #[.agg #[.int .i64 V.base, sv, tv], .bool b]) ∧
  Own w' w.heap.size sv V.shape ∧ Own w' w.heap.size tv V.strides ∧ Sep sv tv ∧ Below w.heap.size w w'
theorem Sep.none_left (v : Value) : Sep (.slice none 0 0) v := fun k h => by cases h
/-- The marks that the laws write. -/
def marks (k : Nat) (n : Nat) : List Int := (List.range n).map fun (i : Nat) => ((k + i : Nat) : Int)
theorem marks_length (k n : Nat) : (marks k n).length = n := by simp [marks]
theorem marks_get (k n i : Nat) (h : i < n) : (marks k n)[i]? = some ((k + i : Nat) : Int) := by simp [marks, h]
/-- What marking a list leaves. -/
def RetMark (w : World) (B : Nat) (v : Value) (n k : Nat) (e : Ending) (w' : World) : Prop := e = .returned (.int .i64 ((k + n : Nat) : Int)) ∧ Own w' B v (marks k n) ∧ w.grownBy w' v.ownBlock

end Go.Proofs.YtmoejdnodhmglaaDoor
