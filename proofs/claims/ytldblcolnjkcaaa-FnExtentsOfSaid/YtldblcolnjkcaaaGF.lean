/- The region rule: a call that yields one value, under the facts of what it looks at. No conditions. -/
import Derived.Test.YtldblcolnjkcaaaGw
namespace Go.Proofs.Ytldblcolnjkcaaa
open Go.RowKit

section
variable {P : Program} {ops : Array Oper} {W : World} {R : Act → World → Prop} {k : Nat} {Es : List Ent} {o : Oper} {rest : List Oper} {a : Act} {s : Seen}
/-- A call that yields one value, under the facts of what it looks at. -/
theorem grow_callG {c : Value} (hw : Region.wanted o (yielded ops a.tmps) = true) (h : ∀ x : ExtW W, (∀ j, (autoDeps ops k).contains j = true → s.fact j x.v) → ∀ (K : Act → World → Prop) (Q : Exit → Act → World → Prop), (∀ w', Below x.v.heap.size x.v w' → K (a.put o.dst c) w') → o.wp P a x.v K Q)
    (hr : wpGrow P ops W R (k + 1) Es rest (a.put o.dst c) (s.push c (fun _ => True) (fun _ => False))) : wpGrow P ops W R k (Ent.is c :: Es) (o :: rest) a s := by
  refine ⟨Ent.is_good c, fun w hC hF _ K Q hK => ?_, fun v hv => ?_⟩
  · rw [if_pos hw]
    exact h ⟨w, hC⟩ hF K Q fun w' hb => hK c w' ⟨hb, rfl, fun b h => h.elim⟩
  · cases hv
    have e : (fun _ : World => True) = (fun w => (Ent.is c).Φ ((autoDeps ops k).map s.val) w c) := by funext w; simp [Ent.is]
    rw [e] at hr
    exact hr
end

end Go.Proofs.Ytldblcolnjkcaaa
