/- An argument that is a struct of one-cell fields, read: slices of five plain fields. No conditions. -/
import Derived.Test.YtbcmhjhiofpnlaaOpen
import Derived.Test.YtbcmhjhiofpnlaaT0
namespace Go.Proofs.Ytbcmhjhiofpnlaa
open Go.ChangeShapes Go.WideShapes Go.ChangeAt Go.RowKit Go.Joins Go.Deep

section
variable {H : Type} {enc : TypeId × Value → H} {W : World} {sp : Nat → Bool} {hd : Bool}

set_option maxRecDepth 100000 in
theorem open_fields {P : Program} {r : Reach} {b0 base : Nat} {t : TypeId} {fs : Array Field} {v : Value} {d : DataW H} {p : List MemPlace} (hs : P.underlying t = some (.struct fs)) (hone : oneCellFields P fs = true) (hC : P.cellsOf t = fs.size)
    (hv : Value.okWide P W r b0 t v) (h : DataW.Trod enc P W base sp hd t v d p) :
    ∃ cs : List Value, v = .agg cs.toArray ∧ cs.length = fs.size ∧ ∀ (j : Nat) (f : Field) (u : Value), fs[j]? = some f → cs[j]? = some u → ∃ (n : Nat) (x : DataW H × List MemPlace), DataW.trod enc P W base sp hd n f.type [u] = some x := by
  obtain ⟨⟨cs⟩, rfl, hsz⟩ := okWide_struct hs hv
  have hlen : cs.length = fs.size := by rw [← hC, ← hsz]; simp
  obtain ⟨fuel, hf⟩ := h
  obtain ⟨xs, n, _, _, _, hxl, hfj⟩ := DataW.trod_struct hs hf
  refine ⟨cs, rfl, hlen, fun j f u hj hu => ?_⟩
  obtain ⟨ho, hk⟩ := hone_of hone j f hj
  have h1 := hfj j f hj
  have hjl : j < fs.size := (Array.getElem?_eq_some_iff.1 hj).1
  rw [ho, hk] at h1
  have e : (((Value.agg cs.toArray).cells.toList).drop j).take 1 = [u] := by
    obtain ⟨hjc, rfl⟩ := List.getElem?_eq_some_iff.1 hu
    have e2 : (Value.agg cs.toArray).cells.toList = cs := by simp [Value.cells]
    rw [e2, List.drop_eq_getElem_cons hjc]
    rfl
  rw [e] at h1
  have hx : xs[j]? = some (xs[j]'(by omega)) := List.getElem?_eq_getElem (by omega)
  exact ⟨n, _, h1.trans hx⟩

theorem bool_of_trod {fuel : Nat} {c : Value} {x : DataW H × List MemPlace} (h : DataW.trod enc Try.prog W 0 sp hd fuel 4 [c] = some x) : ∃ b, c = .bool b := by
  obtain ⟨a, e0, _⟩ := DataW.trod_bool Try.underlying4 h
  exact ⟨a, by simpa using e0⟩
set_option maxRecDepth 100000 in
theorem open_slice {r : Reach} {b0 : Nat} {v : Value} {d : DataW H} {p : List MemPlace} (hv : Value.okWide Try.prog W r b0 26 v)
    (h : DataW.Trod enc Try.prog W 0 sp hd 26 v d p) : ∃ s, SliceV W v s := by
  obtain ⟨cs, rfl, hl, hf⟩ := open_fields Try.underlying26 (by kernel_rfl) (by kernel_rfl) hv h
  match cs, hl with
  | [c0, c1, c2, c3, c4], _ =>
    obtain ⟨_, _, h0⟩ := hf 0 _ c0 rfl rfl
    obtain ⟨_, _, h1⟩ := hf 1 _ c1 rfl rfl
    obtain ⟨_, _, h2⟩ := hf 2 _ c2 rfl rfl
    obtain ⟨_, _, h3⟩ := hf 3 _ c3 rfl rfl
    obtain ⟨_, _, h4⟩ := hf 4 _ c4 rfl rfl
    obtain ⟨a0, rfl, w0⟩ := int_of_trod h0
    obtain ⟨a1, rfl, w1⟩ := int_of_trod h1
    obtain ⟨a2, rfl, w2⟩ := int_of_trod h2
    obtain ⟨a3, rfl⟩ := bool_of_trod h3
    obtain ⟨a4, rfl⟩ := bool_of_trod h4
    exact ⟨⟨a0, a1, a2, a3, a4⟩, rfl, i64_of_wf w0, i64_of_wf w1, i64_of_wf w2⟩
end

end Go.Proofs.Ytbcmhjhiofpnlaa
