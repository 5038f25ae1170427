/- An argument that is a list of views, read. No conditions. -/
import Derived.Test.YtldblcolnjkcaaaOpR
import Derived.Test.YtldblcolnjkcaaaRV
namespace Go.Proofs.Ytldblcolnjkcaaa
open Go.ChangeShapes Go.WideShapes Go.ChangeAt Go.RowKit Go.Joins Go.Deep

section
variable {H : Type} {enc : TypeId × Value → H} {W : World} {sp : Nat → Bool} {hd : Bool}

set_option maxRecDepth 100000 in
theorem view_cells {fuel : Nat} {us : List Value} {x : DataW H × List MemPlace} (hl : us.length = 3) (h : DataW.trod enc Try.prog W 0 sp hd fuel 117 us = some x) : ∃ V : VL, Reads W us (encV V) := by
  match us, hl with
  | [c0, c1, c2], _ =>
    obtain ⟨y0, y1, y2, n, _, _, h0, h1, h2⟩ := trod_struct3 Try.underlying117 h
    have e1 : Try.prog.cellsOf 3 = 1 := by kernel_rfl
    have e2 : Try.prog.cellsOf 23 = 1 := by kernel_rfl
    simp only [e1, e2] at h0 h1 h2
    obtain ⟨a, rfl, _⟩ := int_of_trod (show DataW.trod enc Try.prog W 0 sp hd n 3 [c0] = some y0 from h0)
    obtain ⟨xs, hx⟩ := ints_of_trod (show DataW.trod enc Try.prog W 0 sp hd n 23 [c1] = some y1 from h1)
    obtain ⟨ys, hy⟩ := ints_of_trod (show DataW.trod enc Try.prog W 0 sp hd n 23 [c2] = some y2 from h2)
    refine ⟨⟨a, xs, ys⟩, fun j c hc => ?_⟩
    match j, hc with
    | 0, hc => have hc := Option.some.inj (show some (Cl.num a) = some c from hc); subst hc; exact ⟨_, rfl, rfl⟩
    | 1, hc => have hc := Option.some.inj (show some (Cl.row xs) = some c from hc); subst hc; exact ⟨_, rfl, hx⟩
    | 2, hc => have hc := Option.some.inj (show some (Cl.row ys) = some c from hc); subst hc; exact ⟨_, rfl, hy⟩
    | j + 3, hc => simp [encV] at hc
set_option maxRecDepth 100000 in
theorem open_views {r : Reach} {b0 : Nat} {v : Value} {d : DataW H} {p : List MemPlace} (hv : Value.okWide Try.prog W r b0 63 v)
    (h : DataW.Trod enc Try.prog W 0 sp hd 63 v d p) : ∃ xs, ViewsV W v xs := by
  obtain ⟨A, n, c, rfl⟩ := okWide_slice Try.underlying63 hv
  obtain ⟨fuel, hf⟩ := h
  exact rows_of_trod (s := 3) Try.underlying63 (by kernel_rfl) (by omega) encV_len (fun _ _ _ hl h => view_cells hl h) (by simpa [Value.cells] using hf)
end

end Go.Proofs.Ytldblcolnjkcaaa
