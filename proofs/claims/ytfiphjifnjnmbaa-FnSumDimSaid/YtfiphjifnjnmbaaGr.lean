/- The region rule's entries for rows that a call makes and that the region reads. No conditions. -/
import Derived.Test.YtfiphjifnjnmbaaGw
import Derived.Test.YtfiphjifnjnmbaaT0
namespace Go.Proofs.Ytfiphjifnjnmbaa
open Go.RowKit

/-- A row that is not empty, within a value. -/
def Ent.row (f : Value → Value) (N : Nat) (xs : List Int) : Ent :=
  ⟨fun _ w v => ∃ g c, v = f (.slice (some ⟨g, 0, none⟩) xs.length c) ∧ N ≤ g ∧ Own w N (.slice (some ⟨g, 0, none⟩) xs.length c) xs,
   fun v => ∃ g c, v = f (.slice (some ⟨g, 0, none⟩) xs.length c) ∧ N ≤ g, fun v b => ∃ c, v = f (.slice (some ⟨b, 0, none⟩) xs.length c)⟩
theorem Ent.row_good (f : Value → Value) (hf : ∀ a b, f a = f b → a = b) (N : Nat) (xs : List Int) : Good (Ent.row f N xs) := by
  refine ⟨fun _ _ _ _ hb ⟨g, c, h1, h2, h3⟩ => ⟨g, c, h1, h2, Own.ext h3 hb⟩, fun _ _ _ ⟨g, c, h1, h2, _⟩ => ⟨g, c, h1, h2⟩, ⟨_, N, 0, rfl, Nat.le_refl _⟩, fun _ w v b ⟨g, c, h1, h2, h3⟩ ⟨c', hb⟩ => ?_⟩
  have e := hf _ _ (h1.symm.trans hb)
  simp only [Value.slice.injEq, Option.some.injEq, Addr.mk.injEq, and_true, true_and] at e
  obtain ⟨rfl, rfl⟩ := e
  exact (Own.lt h3 g rfl).2
/-- A value that is known, with a fact that lasts. -/
def Ent.fact (c : Value) (G : World → Prop) : Ent := ⟨fun _ w v => v = c ∧ G w, fun v => v = c, fun _ _ => False⟩
theorem Ent.fact_good (c : Value) {G : World → Prop} (hG : ∀ w w', Below w.heap.size w w' → G w → G w') : Good (Ent.fact c G) :=
  ⟨fun _ _ _ _ hb h => ⟨h.1, hG _ _ hb h.2⟩, fun _ _ _ h => h.1, ⟨c, rfl⟩, fun _ _ _ _ _ h => h.elim⟩
/-- A cell that is there. -/
def HasCell (g i : Nat) (u : Value) (w : World) : Prop := w.cell? ⟨g, i, none⟩ = some u ∧ g < w.heap.size
theorem HasCell.nx (g i : Nat) (u : Value) (w w' : World) (hb : Below w.heap.size w w') (h : HasCell g i u w) : HasCell g i u w' :=
  ⟨(hb.cell (p := ⟨g, i, none⟩) h.2).trans h.1, Nat.lt_of_lt_of_le h.2 hb.size⟩
/-- A pointer to a cell that is there. -/
def Ent.cellAt (i : Nat) (u : Value) : Ent := ⟨fun _ w v => ∃ g, v = .pointer (some ⟨g, i, none⟩) ∧ HasCell g i u w, fun v => ∃ g, v = .pointer (some ⟨g, i, none⟩), fun _ _ => False⟩
theorem Ent.cellAt_good (i : Nat) (u : Value) : Good (Ent.cellAt i u) :=
  ⟨fun _ _ _ _ hb ⟨g, h1, h2⟩ => ⟨g, h1, HasCell.nx g i u _ _ hb h2⟩, fun _ _ _ ⟨g, h1, _⟩ => ⟨g, h1⟩, ⟨_, 0, rfl⟩, fun _ _ _ _ _ h => h.elim⟩
theorem HasCell.of_own {w : World} {N g c n : Nat} {xs : List Int} (h : Own w N (.slice (some ⟨g, 0, none⟩) n c) xs) {k : Nat} {x : Int} (hk : xs[k]? = some x) : HasCell g k (.int .i64 x) w := by
  obtain ⟨hk1, rfl⟩ := List.getElem?_eq_some_iff.1 hk
  exact ⟨h.cell k hk1, (h.lt g rfl).2⟩

section
variable {P : Program} {ops : Array Oper} {W : World} {R : Act → World → Prop} {k : Nat} {Es : List Ent} {o : Oper} {rest : List Oper} {a : Act} {s : Seen}
theorem idf_inj (x y : Value) (h : (fun v : Value => v) x = (fun v : Value => v) y) : x = y := h
theorem grow_rowF (f : Value → Value) (hf : ∀ a b, f a = f b → a = b) (xs : List Int) (hl : 0 < xs.length) (hw : Region.wanted o (yielded ops a.tmps) = true)
    (h : ∀ x : ExtW W, (∀ j, (autoDeps ops k).contains j = true → s.fact j x.v) → ∀ (K : Act → World → Prop) (Q : Exit → Act → World → Prop), (∀ v w', Below x.v.heap.size x.v w' → Own w' x.v.heap.size v xs → K (a.put o.dst (f v)) w') → o.wp P a x.v K Q)
    (hr : ∀ g c, W.heap.size ≤ g → ∀ (F : World → Prop) (O : Nat → Prop), (∀ w, F w → Own w W.heap.size (.slice (some ⟨g, 0, none⟩) xs.length c) xs) → O g →
      wpGrow P ops W R (k + 1) Es rest (a.put o.dst (f (.slice (some ⟨g, 0, none⟩) xs.length c))) (s.push (f (.slice (some ⟨g, 0, none⟩) xs.length c)) F O)) :
    wpGrow P ops W R k (Ent.row f W.heap.size xs :: Es) (o :: rest) a s := by
  refine grow_mk _ (Ent.row_good f hf _ _) hw (fun x hF _ K Q hK => h x hF K Q fun v w' hb ho => ?_) fun v hV F O hF hO => ?_
  · obtain ⟨g, c, e, h1, h2⟩ := ho.row hl
    subst e
    refine hK _ w' hb ⟨g, c, rfl, Nat.le_trans x.h.size h1, ho.mono x.h.size⟩ fun b ⟨c', hb'⟩ => ?_
    have e := hf _ _ hb'
    simp only [Value.slice.injEq, Option.some.injEq, Addr.mk.injEq, and_true, true_and] at e
    omega
  · obtain ⟨g, c, rfl, hg⟩ := hV
    refine hr g c hg F O (fun w hw => ?_) (hO g ⟨c, rfl⟩)
    obtain ⟨g', c', e, _, h2⟩ := hF w hw
    have e := hf _ _ e
    simp only [Value.slice.injEq, Option.some.injEq, Addr.mk.injEq, and_true, true_and] at e
    obtain ⟨rfl, rfl⟩ := e
    exact h2
theorem grow_idx (g1 i : Nat) (u : Value) (hw : Region.wanted o (yielded ops a.tmps) = true)
    (h : ∀ x : ExtW W, (∀ j, (autoDeps ops k).contains j = true → s.fact j x.v) → (execOp a.eval o).run P x.v = .ok (.value (.pointer (some ⟨g1, i, none⟩))) x.v ∧ HasCell g1 i u x.v)
    (hr : ∀ g, ∀ F : World → Prop, (∀ w, F w → HasCell g i u w) → wpGrow P ops W R (k + 1) Es rest (a.put o.dst (.pointer (some ⟨g, i, none⟩))) (s.push (.pointer (some ⟨g, i, none⟩)) F (fun _ => False))) :
    wpGrow P ops W R k (Ent.cellAt i u :: Es) (o :: rest) a s := by
  refine ⟨Ent.cellAt_good i u, fun w hC hF _ K Q hK => ?_, fun v hV => ?_⟩
  · rw [if_pos hw]
    obtain ⟨h1, h2⟩ := h ⟨w, hC⟩ hF
    unfold Oper.wp
    rw [h1]
    exact hK _ w ⟨Below.refl _ _, ⟨g1, rfl, h2⟩, fun b hb => hb.elim⟩
  · obtain ⟨g, rfl⟩ := hV
    exact hr g _ fun w ⟨g', e, h⟩ => by
      simp only [Value.pointer.injEq, Option.some.injEq, Addr.mk.injEq, and_true] at e
      exact e ▸ h
/-- What is read under the facts of what it looks at. -/
theorem grow_read (c : Value) (hw : Region.wanted o (yielded ops a.tmps) = true)
    (h : ∀ x : ExtW W, (∀ j, (autoDeps ops k).contains j = true → s.fact j x.v) → (execOp a.eval o).run P x.v = .ok (.value c) x.v)
    (hr : wpGrow P ops W R (k + 1) Es rest (a.put o.dst c) (s.push c (fun _ => c = c ∧ True) (fun _ => False))) :
    wpGrow P ops W R k (Ent.fact c (fun _ => True) :: Es) (o :: rest) a s := by
  refine ⟨Ent.fact_good c fun _ _ _ h => h, fun w hC hF _ K Q hK => ?_, fun v hV => ?_⟩
  · rw [if_pos hw]
    have h1 := h ⟨w, hC⟩ hF
    unfold Oper.wp
    rw [h1]
    exact hK c w ⟨Below.refl _ _, ⟨rfl, trivial⟩, fun b hb => hb.elim⟩
  · cases hV
    exact hr
end

theorem run_lit1 (w : World) (x : Int) : (Instr.buildSlice 23 1 #[(0, .int .i64 x)]).run Try.prog w = .ok (.slice (some ⟨w.heap.size, 0, none⟩) 1 1) (w.alloc (.cells #[.int .i64 x] 3)) := by kernel_rfl
theorem run_lit2 (w : World) (x y : Int) : (Instr.buildSlice 23 2 #[(0, .int .i64 x), (1, .int .i64 y)]).run Try.prog w = .ok (.slice (some ⟨w.heap.size, 0, none⟩) 2 2) (w.alloc (.cells #[.int .i64 x, .int .i64 y] 3)) := by kernel_rfl
theorem Own.lit1 (w : World) (x : Int) : Own (w.alloc (.cells #[.int .i64 x] 3)) w.heap.size (.slice (some ⟨w.heap.size, 0, none⟩) 1 1) [x] :=
  ⟨by simp, .inr ⟨w.heap.size, 1, #[.int .i64 x], rfl, Nat.le_refl _, heap_alloc_new w _, Nat.le_refl _, by unfold maxLen; omega, rfl, rfl⟩⟩
theorem Own.lit2 (w : World) (x y : Int) : Own (w.alloc (.cells #[.int .i64 x, .int .i64 y] 3)) w.heap.size (.slice (some ⟨w.heap.size, 0, none⟩) 2 2) [x, y] :=
  ⟨by simp, .inr ⟨w.heap.size, 2, #[.int .i64 x, .int .i64 y], rfl, Nat.le_refl _, heap_alloc_new w _, Nat.le_refl _, by unfold maxLen; omega, rfl, rfl⟩⟩
section
variable {ops : Array Oper} {W : World} {R : Act → World → Prop} {k : Nat} {Es : List Ent} {o : Oper} {rest : List Oper} {a : Act} {s : Seen}
theorem grow_lit1 (e : Operand) (x : Int) (hop : o.op = .buildSlice 23 1 #[(0, e)]) (he : a.eval e = .int .i64 x) (hw : Region.wanted o (yielded ops a.tmps) = true)
    (hr : ∀ g c, W.heap.size ≤ g → ∀ (F : World → Prop) (O : Nat → Prop), (∀ w, F w → Own w W.heap.size (.slice (some ⟨g, 0, none⟩) 1 c) [x]) → O g →
      wpGrow Try.prog ops W R (k + 1) Es rest (a.put o.dst (.slice (some ⟨g, 0, none⟩) 1 c)) (s.push (.slice (some ⟨g, 0, none⟩) 1 c) F O)) :
    wpGrow Try.prog ops W R k (Ent.row (fun v => v) W.heap.size [x] :: Es) (o :: rest) a s :=
  grow_rowF (fun v => v) idf_inj [x] (by simp) hw (fun x' _ K Q hK => wp_value x'.v _ _ (by simp [execOp, hop, he, run_lit1]) (hK _ _ (below_alloc _ _) (Own.lit1 _ _))) hr
theorem grow_lit2 (e f : Operand) (x y : Int) (hop : o.op = .buildSlice 23 2 #[(0, e), (1, f)]) (he : a.eval e = .int .i64 x) (hf : a.eval f = .int .i64 y) (hw : Region.wanted o (yielded ops a.tmps) = true)
    (hr : ∀ g c, W.heap.size ≤ g → ∀ (F : World → Prop) (O : Nat → Prop), (∀ w, F w → Own w W.heap.size (.slice (some ⟨g, 0, none⟩) 2 c) [x, y]) → O g →
      wpGrow Try.prog ops W R (k + 1) Es rest (a.put o.dst (.slice (some ⟨g, 0, none⟩) 2 c)) (s.push (.slice (some ⟨g, 0, none⟩) 2 c) F O)) :
    wpGrow Try.prog ops W R k (Ent.row (fun v => v) W.heap.size [x, y] :: Es) (o :: rest) a s :=
  grow_rowF (fun v => v) idf_inj [x, y] (by simp) hw (fun x' _ K Q hK => wp_value x'.v _ _ (by simp [execOp, hop, he, hf, run_lit2]) (hK _ _ (below_alloc _ _) (Own.lit2 _ _ _))) hr
end

end Go.Proofs.Ytfiphjifnjnmbaa
