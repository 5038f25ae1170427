/- An argument that is a tensor, or a list of tensors, read. No conditions. -/
import Derived.Test.YtldblcolnjkcaaaOpR
import Derived.Test.YtldblcolnjkcaaaRT
import Derived.Test.YtldblcolnjkcaaaT0
namespace Go.Proofs.Ytldblcolnjkcaaa
open Go.ChangeShapes Go.WideShapes Go.ChangeAt Go.RowKit Go.Joins Go.Deep

section
variable {H : Type} {enc : TypeId × Value → H} {W : World} {sp : Nat → Bool} {hd : Bool}

set_option maxRecDepth 100000 in
theorem tensor_cells {fuel : Nat} {us : List Value} {x : DataW H × List MemPlace} (hl : us.length = 2) (h : DataW.trod enc Try.prog W 0 sp hd fuel 73 us = some x) : ∃ T : TL, Reads W us (encT T) := by
  match us, hl with
  | [c0, c1], _ =>
    obtain ⟨y0, y1, n, _, _, h0, h1⟩ := trod_struct2 Try.underlying73 h
    have e2 : Try.prog.cellsOf 23 = 1 := by kernel_rfl
    simp only [e2] at h0 h1
    obtain ⟨xs, hx⟩ := ints_of_trod (show DataW.trod enc Try.prog W 0 sp hd n 23 [c0] = some y0 from h0)
    obtain ⟨ys, hy⟩ := ints_of_trod (show DataW.trod enc Try.prog W 0 sp hd n 23 [c1] = some y1 from h1)
    refine ⟨⟨xs, ys⟩, fun j c hc => ?_⟩
    match j, hc with
    | 0, hc => have hc := Option.some.inj (show some (Cl.row xs) = some c from hc); subst hc; exact ⟨_, rfl, hx⟩
    | 1, hc => have hc := Option.some.inj (show some (Cl.row ys) = some c from hc); subst hc; exact ⟨_, rfl, hy⟩
    | j + 2, hc => simp [encT] at hc
set_option maxRecDepth 100000 in
theorem open_tensors {r : Reach} {b0 : Nat} {v : Value} {d : DataW H} {p : List MemPlace} (hv : Value.okWide Try.prog W r b0 81 v)
    (h : DataW.Trod enc Try.prog W 0 sp hd 81 v d p) : ∃ xs, TensorsV W v xs := by
  obtain ⟨A, n, c, rfl⟩ := okWide_slice Try.underlying81 hv
  obtain ⟨fuel, hf⟩ := h
  exact rows_of_trod (s := 2) Try.underlying81 (by kernel_rfl) (by omega) encT_len (fun _ _ _ hl h => tensor_cells hl h) (by simpa [Value.cells] using hf)
set_option maxRecDepth 100000 in
theorem open_tensor {r : Reach} {b0 : Nat} {v : Value} {d : DataW H} {p : List MemPlace} (hv : Value.okWide Try.prog W r b0 73 v)
    (h : DataW.Trod enc Try.prog W 0 sp hd 73 v d p) : ∃ T, TensorV W v T := by
  obtain ⟨c0, c1, y0, y1, n, rfl, _, _, h0, h1⟩ := open_agg2 Try.underlying73 (by kernel_rfl) (by kernel_rfl) hv h
  obtain ⟨xs, hx⟩ := ints_of_trod h0
  obtain ⟨ys, hy⟩ := ints_of_trod h1
  exact ⟨⟨xs, ys⟩, c0, c1, rfl, hx, hy⟩
end

end Go.Proofs.Ytldblcolnjkcaaa
