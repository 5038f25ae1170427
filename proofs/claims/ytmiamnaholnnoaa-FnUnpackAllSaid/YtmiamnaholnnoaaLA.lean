/- Append of a row to a row of rows; the region rule's entry for its literal. No conditions. -/
import Derived.Test.YtmiamnaholnnoaaLL
import Derived.Test.YtmiamnaholnnoaaGr
namespace Go.Proofs.Ytmiamnaholnnoaa
open Go.RowKit

section
variable {ops : Array Oper} {rest : List Oper} {o : Oper} {a : Act} {K : Act → World → Prop} {Q : Exit → Act → World → Prop} {E : Prop}
theorem wp_appL (w : World) (s x : Operand) (ho : o.op = .call { callee := .builtin .append, args := #[s, x], argTypes := #[39, 39] })
    (B : Nat) (v : Value) (us : List Value) (xss : List (List Int)) (hs : a.eval s = v) (hown : OwnL w B v us xss) (ad : Addr) (c : Nat) (A0 : Option Addr) (n0 c0 : Nat) (ys : List Int) (hx : a.eval x = .slice (some ad) 1 c) (hc : w.cell? ad = some (.slice A0 n0 c0))
    (hu : Own w B (.slice A0 n0 c0) ys) (hv : Sep v (.slice A0 n0 c0)) (hsu : ∀ (j : Nat) (u' : Value), us[j]? = some u' → Sep u' (.slice A0 n0 c0))
    (hlen : xss.length ≤ 1000000000) (hB : B ≤ w.heap.size)
    (h : ∀ v' w', OwnL w' B v' (us ++ [.slice A0 n0 c0]) (xss ++ [ys]) → w.grownBy w' v.ownBlock → (v'.ownBlock = v.ownBlock ∨ v'.ownBlock = some w.heap.size) → K (a.put o.dst v') w') : o.wp Try.prog a w K Q := by
  obtain ⟨i0, hi, hz0, hz1, hz2⟩ := info_parts Try.infoRow
  have hul : us.length ≤ 1000000000 := by rw [hown.len]; exact hlen
  obtain ⟨v', w', hr, h2, h3, _, h5⟩ := run_append_own_at (P := Try.prog) w B 39 o.type 23 i0 (.slice none 0 0) 1 24 Try.underlying39 hi hz0 hz1 hz2 rfl (by decide) v us.length _ hown.row ad 1 c [.slice A0 n0 c0] rfl
    (by intro j u hj; match j, hj with | 0, hj => simp at hj; subst hj; simpa [Addr.add] using hc) (by intro u hu; simp at hu; subst hu; rfl) (by unfold maxLen; omega) (by omega) hB
  unfold Oper.wp execOp
  simp only [ho, resolve, invoke, builtin, Sem.run_bind, Sem.run_pure, Result.andThen_ok, List.map_toArray, List.map_cons, List.map_nil, hs, hx, hr]
  have hsep : ∀ (j : Nat) (u : Value), (us ++ [.slice A0 n0 c0])[j]? = some u → Sep v u ∧ (∀ k, u.ownBlock = some k → k < w.heap.size) := fun j u hj => by
    rcases Nat.lt_or_ge j us.length with hjl | hjl
    · rw [List.getElem?_append_left hjl] at hj
      obtain ⟨xs, _, ho⟩ := hown.at_ hj
      exact ⟨hown.off j u hj, fun k hk => (ho.lt k hk).2⟩
    · rw [List.getElem?_append_right hjl] at hj
      have hj0 : j - us.length = 0 := by have := (List.getElem?_eq_some_iff.1 hj).1; simp at this; omega
      rw [hj0] at hj
      simp at hj
      subst hj
      exact ⟨hv, fun k hk => (hu.lt k hk).2⟩
  refine h v' w' ⟨by simp [hown.len], by simpa using h2, fun j u xs hj hx => ?_, fun i j u u' hij hi' hj' => ?_, fun j u hj => ?_⟩ h3 h5
  · rcases Nat.lt_or_ge j us.length with hjl | hjl
    · rw [List.getElem?_append_left hjl] at hj
      rw [List.getElem?_append_left (by rw [← hown.len]; exact hjl)] at hx
      exact (hown.rows j u xs hj hx).grown h3 (hown.off j u hj).symm.ne
    · have hj2 := hj
      rw [List.getElem?_append_right hjl] at hj
      have hj0 : j - us.length = 0 := by have := (List.getElem?_eq_some_iff.1 hj).1; simp at this; omega
      rw [hj0] at hj
      rw [List.getElem?_append_right (by rw [← hown.len]; exact hjl), ← hown.len, hj0] at hx
      simp at hj hx
      subst hj hx
      exact hu.grown h3 hv.symm.ne
  · rcases Nat.lt_or_ge i us.length with hil | hil
    · rw [List.getElem?_append_left hil] at hi'
      rcases Nat.lt_or_ge j us.length with hjl | hjl
      · rw [List.getElem?_append_left hjl] at hj'
        exact hown.apart i j u u' hij hi' hj'
      · rw [List.getElem?_append_right hjl] at hj'
        have hj0 : j - us.length = 0 := by have := (List.getElem?_eq_some_iff.1 hj').1; simp at this; omega
        rw [hj0] at hj'
        simp at hj'
        subst hj'
        exact hsu i u hi'
    · rw [List.getElem?_append_right hil] at hi'
      have hi0 : i - us.length = 0 := by have := (List.getElem?_eq_some_iff.1 hi').1; simp at this; omega
      rw [hi0] at hi'
      simp at hi'
      subst hi'
      rcases Nat.lt_or_ge j us.length with hjl | hjl
      · rw [List.getElem?_append_left hjl] at hj'
        exact (hsu j u' hj').symm
      · have hjl2 : j < us.length + 1 := by have := (List.getElem?_eq_some_iff.1 hj').1; simpa using this
        omega
  · obtain ⟨h6, h7⟩ := hsep j u hj
    rcases h5 with h5 | h5
    · intro k hk hk'
      exact h6 k (by rw [← h5]; exact hk) hk'
    · intro k hk hk'
      rw [h5] at hk
      injection hk with hk
      have := h7 k hk'
      omega
theorem appL (w : World) (hgd : o.guard = none) (s x : Operand) (ho : o.op = .call { callee := .builtin .append, args := #[s, x], argTypes := #[39, 39] })
    (B : Nat) (v : Value) (us : List Value) (xss : List (List Int)) (hs : a.eval s = v) (hown : OwnL w B v us xss) (ad : Addr) (c : Nat) (A0 : Option Addr) (n0 c0 : Nat) (ys : List Int) (hx : a.eval x = .slice (some ad) 1 c) (hc : w.cell? ad = some (.slice A0 n0 c0))
    (hu : Own w B (.slice A0 n0 c0) ys) (hv : Sep v (.slice A0 n0 c0)) (hsu : ∀ (j : Nat) (u' : Value), us[j]? = some u' → Sep u' (.slice A0 n0 c0))
    (hlen : xss.length ≤ 1000000000) (hB : B ≤ w.heap.size)
    (h : ∀ v' w', OwnL w' B v' (us ++ [.slice A0 n0 c0]) (xss ++ [ys]) → w.grownBy w' v.ownBlock → (v'.ownBlock = v.ownBlock ∨ v'.ownBlock = some w.heap.size) → wpList Try.prog ops Q rest (a.put o.dst v') w') : wpList Try.prog ops Q (o :: rest) a w :=
  wpList_plain hgd fun _ hK => wp_appL w s x ho B v us xss hs hown ad c A0 n0 c0 ys hx hc hu hv hsu hlen hB fun v' w' h1 h2 h3 => hK _ _ (h v' w' h1 h2 h3)
end
theorem OwnL.empty (w : World) : OwnL (w.alloc (.cells #[] 23)) w.heap.size (.slice (some ⟨w.heap.size, 0, none⟩) 0 0) [] [] :=
  ⟨rfl, ⟨by simp, .inr ⟨w.heap.size, 0, #[], rfl, Nat.le_refl _, heap_alloc_new w _, Nat.le_refl _, by unfold maxLen; omega, rfl, rfl⟩⟩, fun _ _ _ h => by simp at h, fun _ _ _ _ _ h => by simp at h, fun _ _ h => by simp at h⟩
theorem OwnL.nil (w : World) (B : Nat) : OwnL w B (.slice none 0 0) [] [] :=
  ⟨rfl, World.ownsRow_nil w B _ _, fun _ _ _ h => by simp at h, fun _ _ _ _ _ h => by simp at h, fun _ _ h => by simp at h⟩
theorem OwnL.under {w w' : World} {B : Nat} {v : Value} {us : List Value} {xss : List (List Int)} (h : OwnL w B v us xss) (hg : w.grownBy w' v.ownBlock) (hB : B ≤ w.heap.size) : Below B w w' :=
  Own.below hg hB fun k hk => (h.seg.1 k hk).1
theorem run_litR (w : World) (A : Option Addr) (n c : Nat) : (Instr.buildSlice 39 1 #[(0, .slice A n c)]).run Try.prog w = .ok (.slice (some ⟨w.heap.size, 0, none⟩) 1 1) (w.alloc (.cells #[.slice A n c] 23)) := by kernel_rfl
/-- A literal of one row. -/
def Ent.litR (N : Nat) : Ent := ⟨fun d w v => ∃ g, v = .slice (some ⟨g, 0, none⟩) 1 1 ∧ N ≤ g ∧ HasCell g 0 (d.getD 0 undef) w, fun v => ∃ g, v = .slice (some ⟨g, 0, none⟩) 1 1 ∧ N ≤ g, fun v b => v = .slice (some ⟨b, 0, none⟩) 1 1⟩
theorem Ent.litR_good (N : Nat) : Good (Ent.litR N) :=
  ⟨fun _ _ _ _ hb ⟨g, h1, h2, h3⟩ => ⟨g, h1, h2, HasCell.nx _ _ _ _ _ hb h3⟩, fun _ _ _ ⟨g, h1, h2, _⟩ => ⟨g, h1, h2⟩, ⟨_, N, rfl, Nat.le_refl _⟩, fun _ _ v b ⟨g, h1, _, h3⟩ hb => by
    have hb : v = .slice (some ⟨b, 0, none⟩) 1 1 := hb
    rw [h1] at hb
    simp only [Value.slice.injEq, Option.some.injEq, Addr.mk.injEq, and_true] at hb
    exact hb ▸ h3.2⟩
section
variable {ops : Array Oper} {W : World} {R : Act → World → Prop} {k : Nat} {Es : List Ent} {o : Oper} {rest : List Oper} {a : Act} {s : Seen}
theorem grow_litR (e : Operand) (A : Option Addr) (n c : Nat) (hop : o.op = .buildSlice 39 1 #[(0, e)]) (he : a.eval e = .slice A n c) (hd : ((autoDeps ops k).map s.val).getD 0 undef = .slice A n c) (hw : Region.wanted o (yielded ops a.tmps) = true)
    (hr : ∀ g, W.heap.size ≤ g → ∀ (F : World → Prop) (O : Nat → Prop), (∀ w, F w → HasCell g 0 (.slice A n c) w) → O g →
      wpGrow Try.prog ops W R (k + 1) Es rest (a.put o.dst (.slice (some ⟨g, 0, none⟩) 1 1)) (s.push (.slice (some ⟨g, 0, none⟩) 1 1) F O)) :
    wpGrow Try.prog ops W R k (Ent.litR W.heap.size :: Es) (o :: rest) a s := by
  refine grow_mk _ (Ent.litR_good _) hw (fun x _ _ K Q hK => ?_) fun v hV F O hF hO => ?_
  · refine wp_value x.v _ _ (by simp [execOp, hop, he, run_litR]) (hK _ _ (below_alloc x.v (.cells #[.slice A n c] 23)) ⟨x.v.heap.size, rfl, x.h.size, by rw [hd]; exact ⟨cell_new1 _ _ _, by simp⟩⟩ fun b hb => ?_)
    have e : Value.slice (some ⟨x.v.heap.size, 0, none⟩) 1 1 = .slice (some ⟨b, 0, none⟩) 1 1 := hb
    simp only [Value.slice.injEq, Option.some.injEq, Addr.mk.injEq, and_true] at e
    omega
  · obtain ⟨g, rfl, hg⟩ := hV
    refine hr g hg F O (fun w hw => ?_) (hO g rfl)
    obtain ⟨g', e, _, h3⟩ := hF w hw
    simp only [Value.slice.injEq, Option.some.injEq, Addr.mk.injEq, and_true] at e
    rw [hd] at h3
    exact e ▸ h3
end

end Go.Proofs.Ytmiamnaholnnoaa
