/- Rows of bools of a call's own. No conditions. -/
import Derived.Test.YtmiamnaholnnoaaT0
namespace Go.Proofs.Ytmiamnaholnnoaa
open Go.RowKit

theorem Try.infoBool : (Try.prog.info? 4).map (fun i => (i.zero, i.size, i.bytes)) = some (some (.bool false), 1, 1) := by kernel_rfl
def OwnB (w : World) (B : Nat) (v : Value) (xs : List Bool) : Prop := w.ownsRow B 4 1 v xs.length (xs.map Value.bool)
section
variable {w w' : World} {B : Nat} {v : Value} {xs : List Bool}
theorem OwnB.grown {row : Option Nat} (h : OwnB w B v xs) (hg : w.grownBy w' row) (hne : v.ownBlock = none ∨ v.ownBlock ≠ row) : OwnB w' B v xs := World.ownsRow.kept h hg hne
theorem OwnB.ext (h : OwnB w B v xs) (hb : Below w.heap.size w w') : OwnB w' B v xs := by
  refine World.ownsRow.kept (row := none) h ⟨hb.os, hb.tape, hb.output, hb.size, fun k hk _ => hb.block k hk⟩ ?_
  cases hv : v.ownBlock <;> simp
theorem OwnB.lt (h : OwnB w B v xs) : ∀ k, v.ownBlock = some k → B ≤ k ∧ k < w.heap.size := World.ownsRow.lt h
theorem OwnB.len {A : Option Addr} {n c : Nat} (h : OwnB w B (.slice A n c) xs) : n = xs.length := by
  rcases h.2 with ⟨e, h0⟩ | ⟨g, cap, cur, e, _⟩
  · simp only [Value.slice.injEq] at e; omega
  · simp only [Value.slice.injEq] at e; exact e.2.1
theorem OwnB.cell {g cap n : Nat} (h : OwnB w B (.slice (some ⟨g, 0, none⟩) n cap) xs) (j : Nat) (hj : j < xs.length) : w.cell? ⟨g, j, none⟩ = some (.bool xs[j]) := by
  have hn := h.len
  subst hn
  have h1 : w.ownsRow B _ 1 _ _ _ := h
  rw [h1.cellAt j (by omega)]
  simp [hj]
theorem OwnB.free {g cap n : Nat} (h : OwnB w B (.slice (some ⟨g, 0, none⟩) n cap) xs) (j : Nat) : w.frozen? ⟨g, j, none⟩ = false := by
  have hn := h.len
  subst hn
  have h1 : w.ownsRow B _ 1 _ _ _ := h
  exact h1.frozenAt j
theorem OwnB.put {g cap n : Nat} (h : OwnB w B (.slice (some ⟨g, 0, none⟩) n cap) xs) (j : Nat) (x : Bool) : OwnB (w.setCell ⟨g, j, none⟩ (.bool x)) B (.slice (some ⟨g, 0, none⟩) n cap) (xs.set j x) := by
  have hn := h.len
  subst hn
  have h1 : w.ownsRow B _ 1 _ _ _ := h
  have h2 := (h1.stored j (.bool x)).1
  unfold OwnB
  rw [List.length_set, List.map_set]
  exact h2
end
/-- make([]bool, n). -/
theorem mkB {ops : Array Oper} {rest : List Oper} {o : Oper} {a : Act} {Q : Exit → Act → World → Prop} (w : World) (hg : o.guard = none) (l c : Operand) (hop : o.op = Op.makeSlice 54 l c) (n : Nat)
    (hl : a.eval l = .int .i64 n) (hc : a.eval c = .int .i64 n) (hn : n ≤ 1000000000000)
    (hK : ∀ w', OwnB w' w.heap.size (.slice (some ⟨w.heap.size, 0, none⟩) n n) (List.replicate n false) → Below w.heap.size w w' → w.heap.size < w'.heap.size → wpList Try.prog ops Q rest (a.put o.dst (.slice (some ⟨w.heap.size, 0, none⟩) n n)) w') :
    wpList Try.prog ops Q (o :: rest) a w := by
  obtain ⟨i0, hi, hz0, hz1, hz2⟩ := info_parts Try.infoBool
  refine wpList_make_full (P := Try.prog) w hg l c 54 hop w.heap.size 4 i0 (.bool false) 1 Try.underlying54 hi hz0 hz1 .i64 .i64 n n n hl hc rfl rfl (by rw [hz2]; omega) (by unfold maxLen; omega) (Nat.le_refl _) ?_
  intro w' h1 h2
  have h3 : OwnB w' w.heap.size (.slice (some ⟨w.heap.size, 0, none⟩) n n) (List.replicate n false) := by
    have e : (madeCells (Value.cells (.bool false)) (n * 1)).toList = List.replicate n (Value.bool false) := by rw [Nat.mul_one]; exact toList_madeCells_one _ _
    rw [e] at h1
    unfold OwnB
    rw [List.map_replicate, List.length_replicate]
    exact h1
  exact hK w' h3 ((Below.refl _ _).grown h2 (Nat.le_refl _) (fun k h => by cases h)) (h3.lt _ rfl).2
def tf (n k : Nat) : List Bool := (List.range n).map fun y => decide (y < k)
theorem tf_length (n k : Nat) : (tf n k).length = n := by simp [tf]
theorem tf_zero (n : Nat) : tf n 0 = List.replicate n false := by
  apply List.ext_getElem
  · simp [tf]
  · intro i h1 h2
    simp [tf]
theorem tf_all (n : Nat) : tf n n = List.replicate n true := by
  apply List.ext_getElem
  · simp [tf]
  · intro i h1 h2
    simp only [tf, List.getElem_map, List.getElem_range, List.getElem_replicate]
    simp [tf] at h1
    simp [h1]
theorem tf_put (n k : Nat) : (tf n k).set k true = tf n (k + 1) := by
  apply List.ext_getElem
  · simp [tf]
  · intro i h1 h2
    rw [List.getElem_set]
    split
    · rename_i e
      subst e
      simp [tf]
    · simp only [tf, List.getElem_map, List.getElem_range]
      apply decide_eq_decide.2
      omega
end Go.Proofs.Ytmiamnaholnnoaa
