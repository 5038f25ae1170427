/- Words: make in a region, blocks of two cells, tensors, slices, formats as data. No conditions. -/
import Derived.Test.YtldblcolnjkcaaaBase
import Derived.Outline
import Derived.Deep.RegionHeld3
namespace Go.Proofs.Ytldblcolnjkcaaa
open Go.RowKit

theorem allocView (w : World) : (Instr.alloc 43 true (.tuple #[])).run Try.prog w = .ok (.pointer (some ⟨w.heap.size, 0, none⟩)) (w.alloc (.cells #[.int .i64 0, .slice none 0 0, .slice none 0 0] 43)) := by kernel_rfl
theorem litInts (w : World) : (Instr.buildSlice 23 0 #[]).run Try.prog w = .ok (.slice (some ⟨w.heap.size, 0, none⟩) 0 0) (w.alloc (.cells #[] 3)) := by kernel_rfl

theorem run_app_lit (w : World) (ty : TypeId) (B g : Nat) (hE : Own w B (.slice (some ⟨g, 0, none⟩) 0 0) []) (A : Option Addr) (m c : Nat) (news : List Int) (hx : Ints w (.slice A m c) news)
    (hlen : news.length ≤ 1000000000000) (hB : B ≤ w.heap.size) :
    ∃ v' w', (Builtin.append_ #[23, 23] ty #[.slice (some ⟨g, 0, none⟩) 0 0, .slice A m c]).run Try.prog w = .ok v' w' ∧ Own w' B v' news ∧ Below w.heap.size w w' ∧ (v'.ownBlock = some g ∨ v'.ownBlock = some w.heap.size) := by
  obtain ⟨i0, hi, hz0, hz1, hz2⟩ := info_parts Try.infoInt
  obtain ⟨A', c', hv, h1, h2, h3⟩ := hx
  simp only [Value.slice.injEq] at hv
  obtain ⟨rfl, rfl, rfl⟩ := hv
  rcases Nat.eq_zero_or_pos news.length with h0 | h0
  · have hn : news = [] := List.eq_nil_of_length_eq_zero h0
    subst hn
    refine ⟨.slice (some ⟨g, 0, none⟩) 0 0, w, ?_, hE, Below.refl _ _, .inl rfl⟩
    cases A <;> simp [Builtin.append_, run_underlying Try.underlying23, sizeOf, typeInfo, hi, Builtin.lenOf, Builtin.firstCells, storeCells, loadCells, loadCellsFrom]
  · obtain ⟨b, off, e, hlt, hc⟩ := h3 h0
    subst e
    have hby : i0.bytes = 8 := by rw [hz2]
    have hrun := run_append_grow (P := Try.prog) (w := w) 23 ty 3 i0 (.int .i64 0) Try.underlying23 hi hz0 ⟨g, 0, none⟩ 0 0 [] (by simp) (by simp) ⟨b, off, none⟩ news.length c (news.map (Value.int .i64)) (by rw [hz1]; simp)
      (by
        intro j u hj
        have hjl : j < news.length := by have := (List.getElem?_eq_some_iff.1 hj).1; simpa using this
        have e2 : (⟨b, off, none⟩ : Addr).add j = ⟨b, off + j, none⟩ := by unfold Addr.add; split <;> simp_all
        rw [e2]
        rw [List.getElem?_map, List.getElem?_eq_getElem hjl] at hj
        simp at hj
        subst hj
        exact hc j _ (by simp [hjl]))
      (by omega) (by omega) (by rw [nextslicecap_zero (by omega), hby]; omega)
    have hge := grownCap_ge w (0 + news.length) 0 3
    have hcm : grownCap w (0 + news.length) 0 3 ≤ maxLen := grownCap_le_maxLen w (0 + news.length) 0 3 (by unfold maxLen; omega)
    simp only [Nat.zero_add] at hrun hge hcm
    refine ⟨_, _, hrun, ?_, (Below.refl _ _).drew.alloc (by simp) _, .inr rfl⟩
    refine ⟨by simp, .inr ⟨w.heap.size, _, _, rfl, hB, heap_alloc_new w.drew _, hge, hcm, ?_, ?_⟩⟩
    · simp [size_zeroCells, Value.cells]; omega
    · simp

section
variable {ops : Array Oper} {o : Oper} {a : Act} {K : Act → World → Prop} {Q : Exit → Act → World → Prop} {E : Prop}
theorem wanted_of (hgd : o.guard = none) : Region.wanted o (yielded ops a.tmps) = true := by simp [Region.wanted, hgd]
theorem wp_value (w : World) (v : Value) (w' : World) (hrun : (execOp a.eval o).run Try.prog w = .ok (.value v) w') (h : K (a.put o.dst v) w') : o.wp Try.prog a w K Q := by
  unfold Oper.wp
  rw [hrun, Oper.upon_value]
  exact h
/-- A variable's box, in a region: a block of its own. -/
theorem wp_new (w : World) (t : TypeId) (cs : Array Value) (hrun : ∀ w : World, (Instr.alloc t true (.tuple #[])).run Try.prog w = .ok (.pointer (some ⟨w.heap.size, 0, none⟩)) (w.alloc (.cells cs t)))
    (hop : o.op = .alloc t) (h : ∀ g w', Blk w' g t cs → w.heap.size ≤ g → g < w'.heap.size → Below w.heap.size w w' → K (a.put o.dst (.pointer (some ⟨g, 0, none⟩))) w') : o.wp Try.prog a w K Q :=
  wp_value w _ _ (by simp [execOp, hop, hrun]) (h _ _ (Blk.new w t cs) (Nat.le_refl _) (by simp) (below_alloc w _))
theorem step_new (w : World) (hgd : o.guard = none) (t : TypeId) (cs : Array Value) (hrun : ∀ w : World, (Instr.alloc t true (.tuple #[])).run Try.prog w = .ok (.pointer (some ⟨w.heap.size, 0, none⟩)) (w.alloc (.cells cs t)))
    (hop : o.op = .alloc t) (h : ∀ g w', Blk w' g t cs → w.heap.size ≤ g → g < w'.heap.size → Below w.heap.size w w' → K (a.put o.dst (.pointer (some ⟨g, 0, none⟩))) w') :
    if Region.wanted o (yielded ops a.tmps) = true then Oper.wp Try.prog o a w K Q else E := by
  rw [if_pos (wanted_of hgd)]
  exact wp_new w t cs hrun hop h
/-- An empty literal of ints. -/
theorem wp_lit (w : World) (hop : o.op = .buildSlice 23 0 #[]) (h : ∀ g w', Own w' w.heap.size (.slice (some ⟨g, 0, none⟩) 0 0) [] → w.heap.size ≤ g → g < w'.heap.size → Below w.heap.size w w' → K (a.put o.dst (.slice (some ⟨g, 0, none⟩) 0 0)) w') : o.wp Try.prog a w K Q :=
  wp_value w _ _ (by simp [execOp, hop, litInts]) (h _ _ (Own.empty w rfl (Nat.le_refl _)) (Nat.le_refl _) (by simp) (below_alloc w _))
theorem step_lit (w : World) (hgd : o.guard = none) (hop : o.op = .buildSlice 23 0 #[]) (h : ∀ g w', Own w' w.heap.size (.slice (some ⟨g, 0, none⟩) 0 0) [] → w.heap.size ≤ g → g < w'.heap.size → Below w.heap.size w w' → K (a.put o.dst (.slice (some ⟨g, 0, none⟩) 0 0)) w') :
    if Region.wanted o (yielded ops a.tmps) = true then Oper.wp Try.prog o a w K Q else E := by
  rw [if_pos (wanted_of hgd)]
  exact wp_lit w hop h
/-- Append to an empty literal: a row of the call's own, written out. -/
theorem wp_applit (w : World) (s x : Operand) (ho : o.op = .call { callee := .builtin .append, args := #[s, x], argTypes := #[23, 23] })
    (B g : Nat) (hs : a.eval s = .slice (some ⟨g, 0, none⟩) 0 0) (hE : Own w B (.slice (some ⟨g, 0, none⟩) 0 0) []) (A : Option Addr) (m c : Nat) (news : List Int) (hx : a.eval x = .slice A m c) (hn : Ints w (.slice A m c) news)
    (hlen : news.length ≤ 1000000000000) (hB : B ≤ w.heap.size)
    (h : ∀ A' c' w', Own w' B (.slice A' news.length c') news → (∀ k, (Value.slice A' news.length c').ownBlock = some k → (k = g ∨ w.heap.size ≤ k) ∧ k < w'.heap.size) → Below w.heap.size w w' → K (a.put o.dst (.slice A' news.length c')) w') : o.wp Try.prog a w K Q := by
  obtain ⟨v', w', hr, h2, h3, h5⟩ := run_app_lit w o.type B g hE A m c news hn hlen hB
  obtain ⟨A', c', e⟩ := h2.form
  subst e
  unfold Oper.wp execOp
  simp only [ho, resolve, invoke, builtin, Sem.run_bind, Sem.run_pure, Result.andThen_ok, List.map_toArray, List.map_cons, List.map_nil, hs, hx, hr]
  refine h A' c' w' h2 (fun k hk => ⟨?_, (h2.lt k hk).2⟩) h3
  rcases h5 with h5 | h5 <;> rw [h5] at hk <;> injection hk with hk <;> omega
/-- The step is taken in the world that a fact speaks of. -/
theorem step_at {N : Nat} {w0 w : World} (_h0 : Below N w0 w) (h : if Region.wanted o (yielded ops a.tmps) = true then Oper.wp Try.prog o a w K Q else E) : if Region.wanted o (yielded ops a.tmps) = true then Oper.wp Try.prog o a w K Q else E := h
theorem step_applit (w : World) (hgd : o.guard = none) (s x : Operand) (ho : o.op = .call { callee := .builtin .append, args := #[s, x], argTypes := #[23, 23] })
    (g : Nat) (hE : Own w g (.slice (some ⟨g, 0, none⟩) 0 0) []) (hs : a.eval s = .slice (some ⟨g, 0, none⟩) 0 0) (A : Option Addr) (m c : Nat) (news : List Int) (hn : Ints w (.slice A m c) news) (hx : a.eval x = .slice A m c)
    (hlen : news.length ≤ 1000000000000)
    (h : ∀ A' c' w', Own w' g (.slice A' news.length c') news → (∀ k, (Value.slice A' news.length c').ownBlock = some k → (k = g ∨ w.heap.size ≤ k) ∧ k < w'.heap.size) → Below w.heap.size w w' → K (a.put o.dst (.slice A' news.length c')) w') :
    if Region.wanted o (yielded ops a.tmps) = true then Oper.wp Try.prog o a w K Q else E := by
  rw [if_pos (wanted_of hgd)]
  exact wp_applit w s x ho g g hs hE A m c news hx hn hlen (by have := hE.lt g rfl; omega) h
theorem wp_mk (w : World) (l c : Operand) (hop : o.op = Op.makeSlice 23 l c) (n : Nat)
    (hl : a.eval l = .int .i64 n) (hc : a.eval c = .int .i64 n) (hn : n ≤ 1000000000000)
    (hK : ∀ g w', Own w' w.heap.size (.slice (some ⟨g, 0, none⟩) n n) (List.replicate n 0) → w.heap.size ≤ g → g < w'.heap.size → Below w.heap.size w w' → K (a.put o.dst (.slice (some ⟨g, 0, none⟩) n n)) w') :
    o.wp Try.prog a w K Q := by
  obtain ⟨i0, hi, hz0, hz1, hz2⟩ := info_parts Try.infoInt
  obtain ⟨w', hrun, h1, h2⟩ := run_make_full (P := Try.prog) w w.heap.size 23 3 i0 (.int .i64 0) 1 Try.underlying23 hi hz0 hz1 .i64 .i64 n (by rw [hz2]; omega) (by unfold maxLen; omega) (Nat.le_refl _)
  unfold Oper.wp
  simp [execOp, hop, hl, hc, hrun, Result.andThen]
  have h3 : Own w' w.heap.size (.slice (some ⟨w.heap.size, 0, none⟩) n n) (List.replicate n 0) := by
    have e : (madeCells (Value.cells (.int .i64 0)) (n * 1)).toList = List.replicate n (Value.int .i64 0) := by rw [Nat.mul_one]; exact toList_madeCells_one _ _
    rw [e] at h1
    unfold Own
    rw [List.map_replicate, List.length_replicate]
    exact h1
  refine hK _ w' h3 (Nat.le_refl _) (h3.lt _ rfl).2 ((Below.refl _ _).grown h2 (Nat.le_refl _) (fun k h => by cases h))
set_option maxRecDepth 100000 in
theorem upon_mk {N : Nat} {w0 w : World} (_h0 : Below N w0 w) (n : Nat) (hn : n ≤ 1000000000000)
    (hK : ∀ g w', Own w' w.heap.size (.slice (some ⟨g, 0, none⟩) n n) (List.replicate n 0) → w.heap.size ≤ g → g < w'.heap.size → Below w.heap.size w w' → K (a.put o.dst (.slice (some ⟨g, 0, none⟩) n n)) w') :
    o.upon Try.prog a K Q (((Instr.makeSlice 23 (.int .i64 n) (.int .i64 n)).run Try.prog w).andThen fun v w' => .ok (.value v) w') := by
  obtain ⟨i0, hi, hz0, hz1, hz2⟩ := info_parts Try.infoInt
  obtain ⟨w', hrun, h1, h2⟩ := run_make_full (P := Try.prog) w w.heap.size 23 3 i0 (.int .i64 0) 1 Try.underlying23 hi hz0 hz1 .i64 .i64 n (by rw [hz2]; omega) (by unfold maxLen; omega) (Nat.le_refl _)
  rw [hrun, Result.andThen_ok, Oper.upon_value]
  have h3 : Own w' w.heap.size (.slice (some ⟨w.heap.size, 0, none⟩) n n) (List.replicate n 0) := by
    have e : (madeCells (Value.cells (.int .i64 0)) (n * 1)).toList = List.replicate n (Value.int .i64 0) := by rw [Nat.mul_one]; exact toList_madeCells_one _ _
    rw [e] at h1
    unfold Own
    rw [List.map_replicate, List.length_replicate]
    exact h1
  exact hK _ w' h3 (Nat.le_refl _) (h3.lt _ rfl).2 ((Below.refl _ _).grown h2 (Nat.le_refl _) (fun k h => by cases h))
theorem step_mk (w : World) (hgd : o.guard = none) (l c : Operand) (hop : o.op = Op.makeSlice 23 l c) (n : Nat)
    (hl : a.eval l = .int .i64 n) (hc : a.eval c = .int .i64 n) (hn : n ≤ 1000000000000)
    (hK : ∀ g w', Own w' w.heap.size (.slice (some ⟨g, 0, none⟩) n n) (List.replicate n 0) → w.heap.size ≤ g → g < w'.heap.size → Below w.heap.size w w' → K (a.put o.dst (.slice (some ⟨g, 0, none⟩) n n)) w') :
    if Region.wanted o (yielded ops a.tmps) = true then Oper.wp Try.prog o a w K Q else E := by
  rw [if_pos (wanted_of hgd)]
  exact wp_mk w l c hop n hl hc hn hK
end

theorem Own.nx {w w' : World} {B : Nat} {v : Value} {xs : List Int} (h : Own w B v xs) (hb : Below w.heap.size w w') : Own w' B v xs := h.ext hb
theorem Blk.nx {w w' : World} {g : Nat} {t : TypeId} {cs : Array Value} (h : Blk w g t cs) (hb : Below w.heap.size w w') : Blk w' g t cs := h.ext hb h.lt
theorem Ints.nx {w w' : World} {v : Value} {xs : List Int} (h : Ints w v xs) (hb : Below w.heap.size w w') : Ints w' v xs := h.ext hb
theorem ViewV.nx {w w' : World} {v : Value} {V : VL} (h : ViewV w v V) (hb : Below w.heap.size w w') : ViewV w' v V := h.ext hb
theorem _root_.Go.RowKit.Below.nx {N : Nat} {w0 w w' : World} (h : Below N w0 w) (hb : Below w.heap.size w w') (hN : N ≤ w.heap.size) : Below N w0 w' := h.trans (hb.mono hN)
theorem _root_.Go.RowKit.Below.nxt {w0 w w' : World} (h : Below w0.heap.size w0 w) (hb : Below w.heap.size w w') : Below w0.heap.size w0 w' := h.trans (hb.mono h.size)
theorem Blk.far3 {w : World} {g g' : Nat} {t : TypeId} {cs : Array Value} (h : Blk w g t cs) (hne : g ≠ g') (a b c : Value) : Blk (((w.setCell ⟨g', 0, none⟩ a).setCell ⟨g', 1, none⟩ b).setCell ⟨g', 2, none⟩ c) g t cs :=
  ((h.far hne a).far hne b).far hne c
theorem Blk.far2 {w : World} {g g' : Nat} {t : TypeId} {cs : Array Value} (h : Blk w g t cs) (hne : g ≠ g') (a b : Value) : Blk ((w.setCell ⟨g', 0, none⟩ a).setCell ⟨g', 1, none⟩ b) g t cs :=
  (h.far hne a).far hne b
/-- The same of the world that a fact speaks of, and one block more. -/
theorem Blk.newAt {N : Nat} {w0 w : World} (_h : Below N w0 w) (t : TypeId) (cs : Array Value) : Blk (w.alloc (.cells cs t)) w.heap.size t cs := Blk.new w t cs
theorem Own.litAt {N : Nat} {w0 w : World} (_h : Below N w0 w) : Own (w.alloc (.cells #[] 3)) w.heap.size (.slice (some ⟨w.heap.size, 0, none⟩) 0 0) [] := Own.empty w rfl (Nat.le_refl _)
theorem lit_lt {N : Nat} {w0 w : World} (_h : Below N w0 w) : w.heap.size < (w.alloc (.cells #[] 3)).heap.size := by simp
theorem below_drewAt {N : Nat} {w0 w : World} (_h : Below N w0 w) : Below w.heap.size w w.drew := below_drew w
theorem below_at {N : Nat} {w0 w : World} (_h : Below N w0 w) (o : Obj) : Below w.heap.size w (w.alloc o) := below_alloc w o
theorem Blk.grown {w w' : World} {g g' : Nat} {t : TypeId} {cs : Array Value} (h : Blk w g t cs) (hb : w.grownBy w' (some g')) (hne : g ≠ g') : Blk w' g t cs := (hb.block g h.lt (fun e => hne (by injection e))).trans h
theorem Blk.drew7 {w w' : World} {g : Nat} {t : TypeId} {cs : Array Value} (h : Blk w g t cs) (hb : Below w.drew.heap.size w.drew w') : Blk w' g t cs := (hb.block g h.lt).trans h
theorem Blk.store3 {w : World} {g : Nat} {t : TypeId} {a b c : Value} (h : Blk w g t #[a, b, c]) (x y z : Value) : Blk (((w.setCell ⟨g, 0, none⟩ x).setCell ⟨g, 1, none⟩ y).setCell ⟨g, 2, none⟩ z) g t #[x, y, z] := by
  have := ((h.set_ 0 x).set_ 1 y).set_ 2 z
  simpa using this
theorem Blk.store2 {w : World} {g : Nat} {t : TypeId} {a b : Value} (h : Blk w g t #[a, b]) (x y : Value) : Blk ((w.setCell ⟨g, 0, none⟩ x).setCell ⟨g, 1, none⟩ y) g t #[x, y] := by
  have := (h.set_ 0 x).set_ 1 y
  simpa using this
theorem Own.off {w : World} {B : Nat} {v : Value} {xs : List Int} (h : Own w B v xs) {p : Addr} (hp : ∀ k, v.ownBlock = some k → k ≠ p.block) (u : Value) : Own (w.setCell p u) B v xs :=
  h.grown (grown_set w p u) (by
    cases hv : v.ownBlock with
    | none => exact .inl rfl
    | some k => exact .inr fun e => hp k hv (by injection e))
theorem own3 {W : World} {B : Nat} {v : Value} {xs : List Int} (h : Own W B v xs) {g lo hi : Nat} (hs : Seg v lo hi) (hd : g < lo ∨ hi ≤ g) (a b c : Value) :
    Own (((W.setCell ⟨g, 0, none⟩ a).setCell ⟨g, 1, none⟩ b).setCell ⟨g, 2, none⟩ c) B v xs :=
  ((h.off (fun k e => by have := hs k e; simp; omega) a).off (fun k e => by have := hs k e; simp; omega) b).off (fun k e => by have := hs k e; simp; omega) c
theorem own3b {W : World} {B : Nat} {v : Value} {xs : List Int} (h : Own W B v xs) {g : Nat} (hg : g < B) (a b c : Value) :
    Own (((W.setCell ⟨g, 0, none⟩ a).setCell ⟨g, 1, none⟩ b).setCell ⟨g, 2, none⟩ c) B v xs := ((h.far (p := ⟨g, 0, none⟩) hg a).far (p := ⟨g, 1, none⟩) hg b).far (p := ⟨g, 2, none⟩) hg c
theorem below3 {W W' : World} {N : Nat} (h : Below N W W') {g : Nat} (hg : N ≤ g) (a b c : Value) : Below N W (((W'.setCell ⟨g, 0, none⟩ a).setCell ⟨g, 1, none⟩ b).setCell ⟨g, 2, none⟩ c) :=
  ((h.setCell (p := ⟨g, 0, none⟩) hg a).setCell (p := ⟨g, 1, none⟩) hg b).setCell (p := ⟨g, 2, none⟩) hg c

/-- A tensor, as data. -/
structure TL where
  shape : List Int
  values : List Int
/-- What a function that returns a new tensor and a bool leaves. -/
def RetTensorB (w : World) (T : TL) (b : Bool) (e : Ending) (w' : World) : Prop := ∃ sv tv, e = .returned (.tuple #[.agg #[sv, tv], .bool b]) ∧
  Own w' w.heap.size sv T.shape ∧ Own w' w.heap.size tv T.values ∧ Sep sv tv ∧ Below w.heap.size w w'
theorem Blk.all2 {w : World} {g : Nat} {t : TypeId} {a b : Value} (h : Blk w g t #[a, b]) : (w.cell? ⟨g, 0, none⟩ = some a ∧ w.cell? ⟨g, 1, none⟩ = some b) ∧
    w.frozen? ⟨g, 0, none⟩ = false ∧ w.frozen? ⟨g, 1, none⟩ = false :=
  ⟨⟨h.cell 0, h.cell 1⟩, h.free 0, h.free 1⟩
theorem own2 {W : World} {B : Nat} {v : Value} {xs : List Int} (h : Own W B v xs) {g lo hi : Nat} (hs : Seg v lo hi) (hd : g < lo ∨ hi ≤ g) (a b : Value) :
    Own ((W.setCell ⟨g, 0, none⟩ a).setCell ⟨g, 1, none⟩ b) B v xs :=
  (h.off (fun k e => by have := hs k e; simp; omega) a).off (fun k e => by have := hs k e; simp; omega) b
theorem below2 {W W' : World} {N : Nat} (h : Below N W W') {g : Nat} (hg : N ≤ g) (a b : Value) : Below N W ((W'.setCell ⟨g, 0, none⟩ a).setCell ⟨g, 1, none⟩ b) :=
  (h.setCell (p := ⟨g, 0, none⟩) hg a).setCell (p := ⟨g, 1, none⟩) hg b
/-- The value v reads as the tensor T in w. -/
def TensorV (w : World) (v : Value) (T : TL) : Prop := ∃ sv tv, v = .agg #[sv, tv] ∧ Ints w sv T.shape ∧ Ints w tv T.values
theorem TensorV.ext {w w' : World} {v : Value} {T : TL} (h : TensorV w v T) (hb : Below w.heap.size w w') : TensorV w' v T := by
  obtain ⟨sv, tv, hv, h1, h2⟩ := h
  exact ⟨sv, tv, hv, h1.ext hb, h2.ext hb⟩
theorem Own.tensor {w : World} {B1 B2 : Nat} {sv tv : Value} {T : TL} (h1 : Own w B1 sv T.shape) (h2 : Own w B2 tv T.values) : TensorV w (.agg #[sv, tv]) T := ⟨_, _, rfl, h1.ints, h2.ints⟩
/-- What a function that returns a new tensor leaves. -/
def RetTensor (w : World) (T : TL) (e : Ending) (w' : World) : Prop := ∃ sv tv, e = .returned (.agg #[sv, tv]) ∧
  Own w' w.heap.size sv T.shape ∧ Own w' w.heap.size tv T.values ∧ Sep sv tv ∧ Below w.heap.size w w'
/-- A slice (of a range), as data. -/
structure SL where
  from_ : Int
  to_ : Int
  by_ : Int
  hasFrom : Bool
  hasTo : Bool
def inI64 (n : Int) : Prop := -9223372036854775808 ≤ n ∧ n ≤ 9223372036854775807
def SL.ok (s : SL) : Prop := inI64 s.from_ ∧ inI64 s.to_ ∧ inI64 s.by_
def SL.val (s : SL) : Value := .agg #[.int .i64 s.from_, .int .i64 s.to_, .int .i64 s.by_, .bool s.hasFrom, .bool s.hasTo]
def SliceV (_w : World) (v : Value) (s : SL) : Prop := v = s.val ∧ s.ok
theorem SliceV.ext {w w' : World} {v : Value} {s : SL} (h : SliceV w v s) (_hb : Below w.heap.size w w') : SliceV w' v s := h
theorem Blk.all5 {w : World} {g : Nat} {t : TypeId} {a b c d e : Value} (h : Blk w g t #[a, b, c, d, e]) : (w.cell? ⟨g, 0, none⟩ = some a ∧ w.cell? ⟨g, 1, none⟩ = some b ∧ w.cell? ⟨g, 2, none⟩ = some c ∧ w.cell? ⟨g, 3, none⟩ = some d ∧ w.cell? ⟨g, 4, none⟩ = some e) ∧
    w.frozen? ⟨g, 0, none⟩ = false ∧ w.frozen? ⟨g, 1, none⟩ = false ∧ w.frozen? ⟨g, 2, none⟩ = false ∧ w.frozen? ⟨g, 3, none⟩ = false ∧ w.frozen? ⟨g, 4, none⟩ = false :=
  ⟨⟨h.cell 0, h.cell 1, h.cell 2, h.cell 3, h.cell 4⟩, h.free 0, h.free 1, h.free 2, h.free 3, h.free 4⟩
/-- A format, as data. -/
structure FL where
  sizes : List Int
  big : Bool
  aligned : Bool
def FormatV (w : World) (v : Value) (F : FL) : Prop := ∃ sv, v = .agg #[sv, .bool F.big, .bool F.aligned] ∧ Ints w sv F.sizes
theorem FormatV.ext {w w' : World} {v : Value} {F : FL} (h : FormatV w v F) (hb : Below w.heap.size w w') : FormatV w' v F := by
  obtain ⟨sv, hv, h1⟩ := h
  exact ⟨sv, hv, h1.ext hb⟩
theorem Own.format {w : World} {B1 : Nat} {sv : Value} {F : FL} (h1 : Own w B1 sv F.sizes) : FormatV w (.agg #[sv, .bool F.big, .bool F.aligned]) F := ⟨_, rfl, h1.ints⟩

end Go.Proofs.Ytldblcolnjkcaaa
