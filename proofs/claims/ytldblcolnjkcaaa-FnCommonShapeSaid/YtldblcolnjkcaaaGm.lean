/- The region rule's entries for literals, appends to them, made slices. No conditions. -/
import Derived.Test.YtldblcolnjkcaaaGw
import Derived.Test.YtldblcolnjkcaaaHp
namespace Go.Proofs.Ytldblcolnjkcaaa
open Go.RowKit

/-- As run_app_lit; a row that is not empty lies in a new block. -/
theorem run_app_lit2 (w : World) (ty : TypeId) (B g : Nat) (hE : Own w B (.slice (some ⟨g, 0, none⟩) 0 0) []) (A : Option Addr) (m c : Nat) (news : List Int) (hx : Ints w (.slice A m c) news)
    (hlen : news.length ≤ 1000000000000) (hB : B ≤ w.heap.size) :
    ∃ v' w', (Builtin.append_ #[23, 23] ty #[.slice (some ⟨g, 0, none⟩) 0 0, .slice A m c]).run Try.prog w = .ok v' w' ∧ Own w' B v' news ∧ Below w.heap.size w w' ∧
      (0 < news.length → v'.ownBlock = some w.heap.size) ∧ (news.length = 0 → v' = .slice (some ⟨g, 0, none⟩) 0 0) := by
  obtain ⟨i0, hi, hz0, hz1, hz2⟩ := info_parts Try.infoInt
  rcases Nat.eq_zero_or_pos news.length with h0 | h0
  · obtain ⟨A', c', hv, h1, h2, h3⟩ := hx
    simp only [Value.slice.injEq] at hv
    obtain ⟨rfl, rfl, rfl⟩ := hv
    have hn : news = [] := List.eq_nil_of_length_eq_zero h0
    subst hn
    refine ⟨.slice (some ⟨g, 0, none⟩) 0 0, w, ?_, hE, Below.refl _ _, fun h => absurd h (by simp), fun _ => rfl⟩
    cases A <;> simp [Builtin.append_, run_underlying Try.underlying23, sizeOf, typeInfo, hi, Builtin.lenOf, Builtin.firstCells, storeCells, loadCells, loadCellsFrom]
  · obtain ⟨A', c', hv, h1, h2, h3⟩ := hx
    simp only [Value.slice.injEq] at hv
    obtain ⟨rfl, rfl, rfl⟩ := hv
    obtain ⟨b, off, e, hlt, hc⟩ := h3 h0
    subst e
    have hby : i0.bytes = 8 := by rw [hz2]
    have hrun := run_append_grow (P := Try.prog) (w := w) 23 ty 3 i0 (.int .i64 0) Try.underlying23 hi hz0 ⟨g, 0, none⟩ 0 0 [] (by simp) (by simp) ⟨b, off, none⟩ news.length c (news.map (Value.int .i64)) (by rw [hz1]; simp)
      (by
        intro j u hj
        have hjl : j < news.length := by have := (List.getElem?_eq_some_iff.1 hj).1; simpa using this
        have e2 : (⟨b, off, none⟩ : Addr).add j = ⟨b, off + j, none⟩ := by unfold Addr.add; split <;> simp_all
        rw [e2]
        rw [List.getElem?_map, List.getElem?_eq_getElem hjl] at hj
        simp at hj
        subst hj
        exact hc j _ (by simp [hjl]))
      (by omega) (by omega) (by rw [nextslicecap_zero (by omega), hby]; omega)
    have hge := grownCap_ge w (0 + news.length) 0 3
    have hcm : grownCap w (0 + news.length) 0 3 ≤ maxLen := grownCap_le_maxLen w (0 + news.length) 0 3 (by unfold maxLen; omega)
    simp only [Nat.zero_add] at hrun hge hcm
    refine ⟨_, _, hrun, ?_, (Below.refl _ _).drew.alloc (by simp) _, fun _ => rfl, fun h => by omega⟩
    refine ⟨by simp, .inr ⟨w.heap.size, _, _, rfl, hB, heap_alloc_new w.drew _, hge, hcm, ?_, ?_⟩⟩
    · simp [size_zeroCells, Value.cells]; omega
    · simp

def Ent.lit (N : Nat) : Ent := ⟨fun _ w v => ∃ g, v = .slice (some ⟨g, 0, none⟩) 0 0 ∧ N ≤ g ∧ Own w N v [], fun v => ∃ g, v = .slice (some ⟨g, 0, none⟩) 0 0 ∧ N ≤ g, fun v b => v = .slice (some ⟨b, 0, none⟩) 0 0⟩
theorem Ent.lit_good (N : Nat) : Good (Ent.lit N) :=
  ⟨fun _ _ _ _ hb ⟨g, h1, h2, h3⟩ => ⟨g, h1, h2, Own.ext h3 hb⟩, fun _ _ _ ⟨g, h1, h2, _⟩ => ⟨g, h1, h2⟩, ⟨_, N, rfl, Nat.le_refl _⟩, fun _ _ _ b ⟨_, _, _, h3⟩ hb => (Own.lt h3 b (by rw [show _ = Value.slice (some ⟨b, 0, none⟩) 0 0 from hb]; rfl)).2⟩
/-- What an append to a literal leaves: where it is empty, the literal itself. -/
def Ent.app (N : Nat) (xs : List Int) : Ent := ⟨fun d w v => Own w N v xs ∧ (xs.length = 0 → v = d.getD 0 undef), fun v => ∃ A c, v = .slice A xs.length c, fun v b => 0 < xs.length ∧ v.ownBlock = some b⟩
theorem Ent.app_good (N : Nat) (xs : List Int) : Good (Ent.app N xs) :=
  ⟨fun _ _ _ _ hb h => ⟨h.1.ext hb, h.2⟩, fun _ _ _ h => h.1.form, ⟨.slice none xs.length 0, none, 0, rfl⟩, fun _ _ _ b h hb => (h.1.lt b hb.2).2⟩
/-- A slice made with n zeros. -/
def Ent.made (N n : Nat) : Ent := ⟨fun _ w v => ∃ g, v = .slice (some ⟨g, 0, none⟩) n n ∧ N ≤ g ∧ Own w N v (List.replicate n 0), fun v => ∃ g, v = .slice (some ⟨g, 0, none⟩) n n ∧ N ≤ g, fun v b => v = .slice (some ⟨b, 0, none⟩) n n⟩
theorem Ent.made_good (N n : Nat) : Good (Ent.made N n) :=
  ⟨fun _ _ _ _ hb ⟨g, h1, h2, h3⟩ => ⟨g, h1, h2, Own.ext h3 hb⟩, fun _ _ _ ⟨g, h1, h2, _⟩ => ⟨g, h1, h2⟩, ⟨_, N, rfl, Nat.le_refl _⟩, fun _ _ _ b ⟨_, _, _, h3⟩ hb => (Own.lt h3 b (by rw [show _ = Value.slice (some ⟨b, 0, none⟩) n n from hb]; rfl)).2⟩

section
variable {ops : Array Oper} {W : World} {R : Act → World → Prop} {k : Nat} {Es : List Ent} {o : Oper} {rest : List Oper} {a : Act} {s : Seen}
theorem grow_lit (hop : o.op = .buildSlice 23 0 #[]) (hw : Region.wanted o (yielded ops a.tmps) = true)
    (hr : ∀ g, W.heap.size ≤ g → ∀ (F : World → Prop) (O : Nat → Prop), (∀ w, F w → Own w W.heap.size (.slice (some ⟨g, 0, none⟩) 0 0) []) → O g → wpGrow Try.prog ops W R (k + 1) Es rest (a.put o.dst (.slice (some ⟨g, 0, none⟩) 0 0)) (s.push (.slice (some ⟨g, 0, none⟩) 0 0) F O)) :
    wpGrow Try.prog ops W R k (Ent.lit W.heap.size :: Es) (o :: rest) a s := by
  refine grow_mk _ (Ent.lit_good _) hw (fun x _ _ K Q hK => ?_) fun v hV F O hF hO => ?_
  · refine wp_lit x.v hop fun g w' ho hg _ hb => hK _ w' hb ⟨g, rfl, Nat.le_trans x.h.size hg, ho.mono x.h.size⟩ fun b hb => ?_
    have e : Value.slice (some ⟨g, 0, none⟩) 0 0 = .slice (some ⟨b, 0, none⟩) 0 0 := hb
    simp only [Value.slice.injEq, Option.some.injEq, Addr.mk.injEq, and_true] at e
    omega
  · obtain ⟨g, rfl, hg⟩ := hV
    exact hr g hg F O (fun w hw => by obtain ⟨_, _, _, h⟩ := hF w hw; exact h) (hO g rfl)
theorem grow_made (n : Nat) (l c : Operand) (hop : o.op = Op.makeSlice 23 l c) (hl : a.eval l = .int .i64 n) (hc : a.eval c = .int .i64 n) (hn : n ≤ 1000000000000) (hw : Region.wanted o (yielded ops a.tmps) = true)
    (hr : ∀ g, W.heap.size ≤ g → ∀ (F : World → Prop) (O : Nat → Prop), (∀ w, F w → Own w W.heap.size (.slice (some ⟨g, 0, none⟩) n n) (List.replicate n 0)) → O g → wpGrow Try.prog ops W R (k + 1) Es rest (a.put o.dst (.slice (some ⟨g, 0, none⟩) n n)) (s.push (.slice (some ⟨g, 0, none⟩) n n) F O)) :
    wpGrow Try.prog ops W R k (Ent.made W.heap.size n :: Es) (o :: rest) a s := by
  refine grow_mk _ (Ent.made_good _ _) hw (fun x _ _ K Q hK => ?_) fun v hV F O hF hO => ?_
  · refine wp_mk x.v l c hop n hl hc hn fun g w' ho hg _ hb => hK _ w' hb ⟨g, rfl, Nat.le_trans x.h.size hg, ho.mono x.h.size⟩ fun b hb => ?_
    have e : Value.slice (some ⟨g, 0, none⟩) n n = .slice (some ⟨b, 0, none⟩) n n := hb
    simp only [Value.slice.injEq, Option.some.injEq, Addr.mk.injEq, and_true] at e
    omega
  · obtain ⟨g, rfl, hg⟩ := hV
    exact hr g hg F O (fun w hw => by obtain ⟨_, _, _, h⟩ := hF w hw; exact h) (hO g rfl)
/-- Append to a literal that the region has made. -/
theorem grow_app (j : Nat) (t x : Operand) (ho : o.op = .call { callee := .builtin .append, args := #[t, x], argTypes := #[23, 23] }) (xs : List Int) (hlen : xs.length ≤ 1000000000000)
    (g : Nat) (ht : a.eval t = .slice (some ⟨g, 0, none⟩) 0 0) (A : Option Addr) (m c : Nat) (hx : a.eval x = .slice A m c) (hw : Region.wanted o (yielded ops a.tmps) = true)
    (hd : ((autoDeps ops k).map s.val).getD 0 undef = .slice (some ⟨g, 0, none⟩) 0 0) (hj : (autoDeps ops k).contains j = true)
    (hlit : ∀ w, s.fact j w → Own w W.heap.size (.slice (some ⟨g, 0, none⟩) 0 0) []) (hn : ∀ x : ExtW W, Ints x.v (.slice A m c) xs)
    (hr : ∀ A c, ∀ (F : World → Prop) (O : Nat → Prop), (∀ w, F w → Own w W.heap.size (.slice A xs.length c) xs ∧ ∀ b, (Value.slice A xs.length c).ownBlock = some b → b = g ∨ O b) →
      wpGrow Try.prog ops W R (k + 1) Es rest (a.put o.dst (.slice A xs.length c)) (s.push (.slice A xs.length c) F O)) :
    wpGrow Try.prog ops W R k (Ent.app W.heap.size xs :: Es) (o :: rest) a s := by
  refine ⟨Ent.app_good _ _, fun w hC hF _ K Q hK => ?_, fun v hV => ?_⟩
  · rw [if_pos hw]
    obtain ⟨v', w', hr', h2, h3, h4, h5⟩ := run_app_lit2 w o.type W.heap.size g (hlit w (hF j hj)) A m c xs (hn ⟨w, hC⟩) hlen hC.size
    unfold Oper.wp execOp
    simp only [ho, resolve, invoke, builtin, Sem.run_bind, Sem.run_pure, Result.andThen_ok, List.map_toArray, List.map_cons, List.map_nil, ht, hx, hr']
    refine hK v' w' ⟨h3, ⟨h2, fun h0 => by rw [h5 h0, hd]⟩, fun b hb => ?_⟩
    have e := h4 hb.1
    rw [hb.2] at e
    injection e with e
    omega
  · obtain ⟨A', c', rfl⟩ := hV
    refine hr A' c' _ _ fun w h => ⟨h.1, fun b hb => ?_⟩
    by_cases h0 : 0 < xs.length
    · exact .inr ⟨h0, hb⟩
    · refine .inl ?_
      rw [h.2 (by omega), hd] at hb
      injection hb with hb
      exact hb.symm
end

end Go.Proofs.Ytldblcolnjkcaaa
