/- The region rule's entry for a view that the region builds of rows of its own and hands on. No conditions. -/
import Derived.Test.YtldblcolnjkcaaaGv
namespace Go.Proofs.Ytldblcolnjkcaaa
open Go.RowKit

def Ent.vw (V : VL) : Ent :=
  ⟨fun _ w v => (∃ A c A' c', v = .agg #[.int .i64 V.base, .slice A V.shape.length c, .slice A' V.strides.length c']) ∧ ViewV w v V,
   fun v => ∃ A c A' c', v = .agg #[.int .i64 V.base, .slice A V.shape.length c, .slice A' V.strides.length c'], fun _ _ => False⟩
theorem Ent.vw_good (V : VL) : Good (Ent.vw V) :=
  ⟨fun _ _ _ _ hb h => ⟨h.1, h.2.ext hb⟩, fun _ _ _ h => h.1, ⟨_, none, 0, none, 0, rfl⟩, fun _ _ _ _ _ h => h.elim⟩
section
variable {P : Program} {ops : Array Oper} {W : World} {R : Act → World → Prop} {k : Nat} {Es : List Ent} {o : Oper} {rest : List Oper} {a : Act} {s : Seen}
theorem grow_buildV (V : VL) (hw : Region.wanted o (yielded ops a.tmps) = true)
    (h : ∀ x : ExtW W, (∀ j, (autoDeps ops k).contains j = true → s.fact j x.v) → ∃ v, (execOp a.eval o).run P x.v = .ok (.value v) x.v ∧ (∃ A c A' c', v = .agg #[.int .i64 V.base, .slice A V.shape.length c, .slice A' V.strides.length c']) ∧ ViewV x.v v V)
    (hr : ∀ A c A' c', ∀ F : World → Prop, (∀ w, F w → ViewV w (.agg #[.int .i64 V.base, .slice A V.shape.length c, .slice A' V.strides.length c']) V) →
      wpGrow P ops W R (k + 1) Es rest (a.put o.dst (.agg #[.int .i64 V.base, .slice A V.shape.length c, .slice A' V.strides.length c'])) (s.push (.agg #[.int .i64 V.base, .slice A V.shape.length c, .slice A' V.strides.length c']) F (fun _ => False))) :
    wpGrow P ops W R k (Ent.vw V :: Es) (o :: rest) a s := by
  refine ⟨Ent.vw_good V, fun w hC hF _ K Q hK => ?_, fun v hV => ?_⟩
  · rw [if_pos hw]
    obtain ⟨v, h1, h2, h3⟩ := h ⟨w, hC⟩ hF
    unfold Oper.wp
    rw [h1]
    exact hK v w ⟨Below.refl _ _, ⟨h2, h3⟩, fun b hb => hb.elim⟩
  · obtain ⟨A, c, A', c', rfl⟩ := hV
    exact hr A c A' c' _ fun w h => h.2
end

end Go.Proofs.Ytldblcolnjkcaaa
