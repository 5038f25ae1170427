/- The normal form of a slice's indices: plain; a call with facts in a drawn region. No conditions. -/
import Derived.Test.YtldblcolnjkcaaaY6
import Derived.Test.YtldblcolnjkcaaaGw
namespace Go.Proofs.Ytldblcolnjkcaaa
open Go.RowKit

theorem mem_getD {xs : List Int} {k : Nat} (h : k < xs.length) : xs.getD k 0 ∈ xs := by
  have e : xs.getD k 0 = xs[k] := by simp [h]
  rw [e]; exact List.getElem_mem h
theorem norm_idx {n : Int} (hn : 0 ≤ n ∧ n ≤ 60) {s : SL} (hs : s.by_ ≠ 0) (hb : -200 ≤ s.by_ ∧ s.by_ ≤ 200) :
    (0 ≤ (normL (idxL n s)).a ∧ (normL (idxL n s)).a ≤ 60) ∧ (-2 ≤ (normL (idxL n s)).b ∧ (normL (idxL n s)).b ≤ 61) ∧ (-200 ≤ (normL (idxL n s)).s ∧ (normL (idxL n s)).s ≤ 200) ∧ (normL (idxL n s)).s ≠ 0 := by
  have hin := idx_in hn hs
  have hl := numsL_length (fromL n s) (toL n s) s.by_
  obtain ⟨xs, hxs⟩ : ∃ xs, xs = idxL n s := ⟨_, rfl⟩
  rw [← hxs] at hin ⊢
  have hst : 1 < xs.length → xs.getD 1 0 - xs.getD 0 0 = s.by_ := fun h => by
    rw [hxs] at h ⊢
    unfold idxL at h ⊢
    rw [nums_getD (by omega), nums_getD (by omega)]
    simp; omega
  unfold normL
  split
  · simp
  · rename_i h0
    have h1 := hin _ (mem_getD (show 0 < xs.length by omega))
    split
    · simp only; omega
    · rename_i h2
      have h3 := hin _ (mem_getD (show xs.length - 1 < xs.length by omega))
      have h4 : lastD xs = xs.getD (xs.length - 1) 0 := rfl
      rw [hst (by omega)]
      split
      · simp only; omega
      · simp only; omega
theorem norm_start {xs : List Int} {st : Int} : (normL xs).a * st = cutB st xs := by
  unfold normL cutB
  split
  · simp
  · split
    · exact Int.mul_comm _ _
    · split <;> exact Int.mul_comm _ _
theorem norm_step {xs : List Int} {st : Int} (h : 1 < xs.length) : (normL xs).s * st = cutS st xs := by
  unfold normL cutS
  simp only [show ¬ xs.length = 0 by omega, show ¬ xs.length = 1 by omega, show ¬ xs.length ≤ 1 by omega, if_false]
  split <;> exact Int.mul_comm _ _
theorem nums_idx {n : Int} {s : SL} (hs : s.by_ ≠ 0) : numsR (normL (idxL n s)) = idxL n s := nums_norm hs

section
variable {P : Program} {ops : Array Oper} {W : World} {R : Act → World → Prop} {k : Nat} {Es : List Ent} {o : Oper} {rest : List Oper} {a : Act} {s : Seen}
/-- A call that yields one value, under the facts of what it looks at. -/
theorem grow_callF {c : Value} (hw : Region.wanted o (yielded ops a.tmps) = true) (h : ∀ x : ExtW W, (∀ j, (autoDeps ops k).contains j = true → s.fact j x.v) → ∀ (K : Act → World → Prop) (Q : Exit → Act → World → Prop), (∀ w', Below x.v.heap.size x.v w' → K (a.put o.dst c) w') → o.wp P a x.v K Q)
    (hr : wpGrow P ops W R (k + 1) Es rest (a.put o.dst c) (s.push c (fun _ => True) (fun _ => False))) : wpGrow P ops W R k (Ent.is c :: Es) (o :: rest) a s := by
  refine ⟨Ent.is_good c, fun w hC hF _ K Q hK => ?_, fun v hv => ?_⟩
  · rw [if_pos hw]
    exact h ⟨w, hC⟩ hF K Q fun w' hb => hK c w' ⟨hb, rfl, fun b h => h.elim⟩
  · cases hv
    have e : (fun _ : World => True) = (fun w => (Ent.is c).Φ ((autoDeps ops k).map s.val) w c) := by funext w; simp [Ent.is]
    rw [e] at hr
    exact hr
end

end Go.Proofs.Ytldblcolnjkcaaa
