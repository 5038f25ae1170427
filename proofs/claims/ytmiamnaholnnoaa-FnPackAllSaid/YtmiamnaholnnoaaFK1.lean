/- Words: a row of lists that are only read; append of one more. No conditions. -/
import Derived.Test.YtmiamnaholnnoaaFI2
import Derived.Test.YtmiamnaholnnoaaLL
namespace Go.Proofs.Ytmiamnaholnnoaa
open Go.RowKit

theorem ints_lt {w : World} {v : Value} {xs : List Int} (h : Ints w v xs) (hn : 0 < xs.length) : ∃ k, v.ownBlock = some k ∧ k < w.heap.size := by
  obtain ⟨A, c, rfl, -, -, h3⟩ := h
  obtain ⟨b, off, rfl, hb, -⟩ := h3 hn
  exact ⟨b, rfl, hb⟩
theorem Ints.off {w w' : World} {v : Value} {xs : List Int} (h : Ints w v xs) {row : Option Nat} (hg : w.grownBy w' row) (hn : 0 < xs.length → ∀ k, v.ownBlock = some k → row ≠ some k) : Ints w' v xs := by
  rcases Nat.eq_zero_or_pos xs.length with h0 | h0
  · obtain ⟨A, c, e, h1, h2, -⟩ := h
    exact ⟨A, c, e, h1, h2, fun h => by omega⟩
  · exact h.away hg (hn h0)
/-- A row of lists; the lists lie from block B on, and not in the row's own block. -/
structure LN (w : World) (B : Nat) (v : Value) (us : List Value) (xss : List (List Int)) : Prop where
  len : us.length = xss.length
  row : w.ownsRow B 23 1 v us.length us
  rows : ∀ (j : Nat) (u : Value) (xs : List Int), us[j]? = some u → xss[j]? = some xs → Ints w u xs ∧ (0 < xs.length → ∀ k, u.ownBlock = some k → B ≤ k ∧ v.ownBlock ≠ some k)
section
variable {w w' : World} {B : Nat} {v : Value} {us : List Value} {xss : List (List Int)}
theorem LN.lt (h : LN w B v us xss) : ∀ k, v.ownBlock = some k → B ≤ k ∧ k < w.heap.size := World.ownsRow.lt h.row
theorem LN.grown (h : LN w B v us xss) {g : Nat} (hg : w.grownBy w' (some g)) (hB : g < B) : LN w' B v us xss := by
  refine ⟨h.len, World.ownsRow.kept h.row hg (.inr fun e => by have := (h.lt g e).1; omega), fun j u xs hj hx => ?_⟩
  obtain ⟨h1, h2⟩ := h.rows j u xs hj hx
  exact ⟨h1.off hg (fun hn k e e2 => by have := (h2 hn k e).1; injection e2 with e2; omega), h2⟩
theorem LN.nx (h : LN w B v us xss) (hb : Below w.heap.size w w') : LN w' B v us xss := by
  refine ⟨h.len, World.ownsRow.kept (row := none) h.row ⟨hb.os, hb.tape, hb.output, hb.size, fun k hk _ => hb.block k hk⟩ (by cases hv : v.ownBlock <;> simp), fun j u xs hj hx => ?_⟩
  obtain ⟨h1, h2⟩ := h.rows j u xs hj hx
  exact ⟨h1.nx hb, h2⟩
theorem LN.form (h : LN w B v us xss) : ∃ A c, v = .slice A xss.length c := by
  rcases h.row.2 with ⟨e, h0⟩ | ⟨g, cap, cur, e, _⟩
  · exact ⟨none, 0, by rw [e, ← h.len, h0]⟩
  · exact ⟨_, _, by rw [e, h.len]⟩
theorem LN.ints (h : LN w B v us xss) : IntsS w v xss := by
  have hrow := h.row
  rcases h.row.2 with ⟨e, h0⟩ | ⟨g, cap, cur, e, hg, hh, hn, hc, hs, ht⟩
  · exact ⟨none, 0, by rw [e, ← h.len, h0], by rw [← h.len]; omega, by unfold maxLen; omega, fun h1 => by rw [← h.len] at h1; omega⟩
  · subst e
    refine ⟨_, _, by rw [h.len], by rw [← h.len]; exact hn, hc, fun h0 => ⟨g, 0, rfl, (Array.getElem?_eq_some_iff.1 hh).1, fun j xs hx => ?_⟩⟩
    have hj : j < us.length := by have := (List.getElem?_eq_some_iff.1 hx).1; rw [h.len]; exact this
    refine ⟨us[j], ?_, (h.rows j _ xs (List.getElem?_eq_getElem hj) hx).1⟩
    rw [Nat.zero_add, hrow.cellAt j (by omega)]
    exact List.getElem?_eq_getElem hj
theorem LN.empty (w : World) {B g : Nat} (hg : g = w.heap.size) (hB : B ≤ g) : LN (w.alloc (.cells #[] 23)) B (.slice (some ⟨g, 0, none⟩) 0 0) [] [] := by
  subst hg
  exact ⟨rfl, ⟨by simp, .inr ⟨w.heap.size, 0, #[], rfl, hB, heap_alloc_new w _, Nat.le_refl _, by unfold maxLen; omega, rfl, rfl⟩⟩, fun j u xs hj => by simp at hj⟩
end
section
variable {ops : Array Oper} {rest : List Oper} {o : Oper} {a : Act} {Q : Exit → Act → World → Prop}
theorem appN (w : World) (hgd : o.guard = none) (s x : Operand) (ho : o.op = .call { callee := .builtin .append, args := #[s, x], argTypes := #[39, 39] })
    (B : Nat) (v : Value) (us : List Value) (xss : List (List Int)) (hs : a.eval s = v) (hown : LN w B v us xss) (ad : Addr) (c : Nat) (A0 : Option Addr) (n0 c0 : Nat) (ys : List Int) (hx : a.eval x = .slice (some ad) 1 c) (hc : w.cell? ad = some (.slice A0 n0 c0))
    (hu : Ints w (.slice A0 n0 c0) ys) (hv : 0 < ys.length → ∀ k, (Value.slice A0 n0 c0).ownBlock = some k → B ≤ k ∧ v.ownBlock ≠ some k)
    (hlen : xss.length ≤ 1000000000) (hB : B ≤ w.heap.size)
    (h : ∀ v' w', LN w' B v' (us ++ [.slice A0 n0 c0]) (xss ++ [ys]) → w.grownBy w' v.ownBlock → (v'.ownBlock = v.ownBlock ∨ v'.ownBlock = some w.heap.size) → wpList Try.prog ops Q rest (a.put o.dst v') w') : wpList Try.prog ops Q (o :: rest) a w := by
  refine wpList_plain hgd fun K hK => ?_
  obtain ⟨i0, hi, hz0, hz1, hz2⟩ := info_parts Try.infoRow
  have hul : us.length ≤ 1000000000 := by rw [hown.len]; exact hlen
  obtain ⟨v', w', hr, h2, h3, _, h5⟩ := run_append_own_at (P := Try.prog) w B 39 o.type 23 i0 (.slice none 0 0) 1 24 Try.underlying39 hi hz0 hz1 hz2 rfl (by decide) v us.length _ hown.row ad 1 c [.slice A0 n0 c0] rfl
    (by intro j u hj; match j, hj with | 0, hj => simp at hj; subst hj; simpa [Addr.add] using hc) (by intro u hu; simp at hu; subst hu; rfl) (by unfold maxLen; omega) (by omega) hB
  unfold Oper.wp execOp
  simp only [ho, resolve, invoke, builtin, Sem.run_bind, Sem.run_pure, Result.andThen_ok, List.map_toArray, List.map_cons, List.map_nil, hs, hx, hr]
  have hkeep : ∀ (u : Value) (xs : List Int), Ints w u xs → (0 < xs.length → ∀ k, u.ownBlock = some k → B ≤ k ∧ v.ownBlock ≠ some k) → Ints w' u xs ∧ (0 < xs.length → ∀ k, u.ownBlock = some k → B ≤ k ∧ v'.ownBlock ≠ some k) := fun u xs h1 h2' => by
    refine ⟨h1.off h3 (fun hn k e => (h2' hn k e).2), fun hn k e => ⟨(h2' hn k e).1, ?_⟩⟩
    rcases h5 with h5 | h5
    · rw [h5]; exact (h2' hn k e).2
    · rw [h5]
      obtain ⟨k', e', hlt⟩ := ints_lt h1 hn
      rw [e] at e'
      injection e' with e'
      intro e2
      injection e2 with e2
      omega
  refine hK _ _ (h v' w' ⟨by simp [hown.len], by simpa using h2, fun j u xs hj hx => ?_⟩ h3 h5)
  rcases Nat.lt_or_ge j us.length with hjl | hjl
  · rw [List.getElem?_append_left hjl] at hj
    rw [List.getElem?_append_left (by rw [← hown.len]; exact hjl)] at hx
    exact hkeep u xs (hown.rows j u xs hj hx).1 (hown.rows j u xs hj hx).2
  · rw [List.getElem?_append_right hjl] at hj
    have hj0 : j - us.length = 0 := by have := (List.getElem?_eq_some_iff.1 hj).1; simp at this; omega
    rw [hj0] at hj
    rw [List.getElem?_append_right (by rw [← hown.len]; exact hjl), ← hown.len, hj0] at hx
    simp at hj hx
    subst hj hx
    exact hkeep _ _ hu hv
end

end Go.Proofs.Ytmiamnaholnnoaa
