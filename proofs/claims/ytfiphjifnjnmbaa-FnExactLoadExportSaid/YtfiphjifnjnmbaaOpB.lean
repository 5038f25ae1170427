/- An argument that is a buffer, read. No conditions. -/
import Derived.Test.YtfiphjifnjnmbaaOpR
import Derived.Test.YtfiphjifnjnmbaaRE
namespace Go.Proofs.Ytfiphjifnjnmbaa
open Go.ChangeShapes Go.WideShapes Go.ChangeAt Go.RowKit Go.Joins Go.Deep

section
variable {H : Type} {enc : TypeId × Value → H} {W : World} {sp : Nat → Bool} {hd : Bool}

set_option maxRecDepth 100000 in
theorem export_cells {fuel : Nat} {us : List Value} {x : DataW H × List MemPlace} (hl : us.length = 5) (h : DataW.trod enc Try.prog W 0 sp hd fuel 86 us = some x) : ∃ E : EL, Reads W us (encE E) := by
  match us, hl with
  | [c0, c1, c2, c3, c4], _ =>
    obtain ⟨y0, y1, y2, n, _, _, h0, h1, h2⟩ := trod_struct3 Try.underlying86 h
    have e1 : Try.prog.cellsOf 3 = 1 := by kernel_rfl
    have e2 : Try.prog.cellsOf 23 = 1 := by kernel_rfl
    have e3 : Try.prog.cellsOf 84 = 3 := by kernel_rfl
    have e4 : Try.prog.cellsOf 4 = 1 := by kernel_rfl
    simp only [e1, e3, e4] at h0 h1 h2
    obtain ⟨z0, z1, z2, m, _, _, k0, k1, k2⟩ := trod_struct3 Try.underlying84 (show DataW.trod enc Try.prog W 0 sp hd n 84 [c1, c2, c3] = some y1 from h1)
    simp only [e1, e2] at k0 k1 k2
    obtain ⟨a, rfl, _⟩ := int_of_trod (show DataW.trod enc Try.prog W 0 sp hd n 3 [c0] = some y0 from h0)
    obtain ⟨b, rfl, _⟩ := int_of_trod (show DataW.trod enc Try.prog W 0 sp hd m 3 [c1] = some z0 from k0)
    obtain ⟨xs, hx⟩ := ints_of_trod (show DataW.trod enc Try.prog W 0 sp hd m 23 [c2] = some z1 from k1)
    obtain ⟨ys, hy⟩ := ints_of_trod (show DataW.trod enc Try.prog W 0 sp hd m 23 [c3] = some z2 from k2)
    obtain ⟨o, rfl⟩ := bool_of_trodR (show DataW.trod enc Try.prog W 0 sp hd n 4 [c4] = some y2 from h2)
    refine ⟨⟨a, ⟨b, xs, ys⟩, o⟩, fun j c hc => ?_⟩
    match j, hc with
    | 0, hc => have hc := Option.some.inj (show some (Cl.num a) = some c from hc); subst hc; exact ⟨_, rfl, rfl⟩
    | 1, hc => have hc := Option.some.inj (show some (Cl.num b) = some c from hc); subst hc; exact ⟨_, rfl, rfl⟩
    | 2, hc => have hc := Option.some.inj (show some (Cl.row xs) = some c from hc); subst hc; exact ⟨_, rfl, hx⟩
    | 3, hc => have hc := Option.some.inj (show some (Cl.row ys) = some c from hc); subst hc; exact ⟨_, rfl, hy⟩
    | 4, hc => have hc := Option.some.inj (show some (Cl.bit o) = some c from hc); subst hc; exact ⟨_, rfl, rfl⟩
    | j + 5, hc => simp [encE] at hc
set_option maxRecDepth 100000 in
theorem open_buffer {r : Reach} {b0 : Nat} {v : Value} {d : DataW H} {p : List MemPlace} (hv : Value.okWide Try.prog W r b0 37 v)
    (h : DataW.Trod enc Try.prog W 0 sp hd 37 v d p) : ∃ U, BufferV W v U := by
  obtain ⟨c0, c1, y0, y1, n, rfl, _, _, h0, h1⟩ := open_agg2 Try.underlying37 (by kernel_rfl) (by kernel_rfl) hv h
  obtain ⟨xs, hx⟩ := ints_of_trod h0
  obtain ⟨es, he⟩ := rows_of_trod (s := 5) Try.underlying35 (by kernel_rfl) (by omega) encE_len (fun _ _ _ hl h => export_cells hl h) h1
  exact ⟨⟨xs, es⟩, c0, c1, rfl, hx, he⟩
end

end Go.Proofs.Ytfiphjifnjnmbaa
