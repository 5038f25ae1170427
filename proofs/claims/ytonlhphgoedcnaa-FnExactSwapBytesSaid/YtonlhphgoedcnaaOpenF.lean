/- An argument that is a format, read. No conditions. -/
import Derived.Test.YtonlhphgoedcnaaOpen
import Derived.Test.YtonlhphgoedcnaaT0
namespace Go.Proofs.Ytonlhphgoedcnaa
open Go.ChangeShapes Go.WideShapes Go.ChangeAt Go.RowKit Go.Joins Go.Deep

section
variable {H : Type} {enc : TypeId × Value → H} {W : World} {sp : Nat → Bool} {hd : Bool}

theorem bool_of_trodF {fuel : Nat} {c : Value} {x : DataW H × List MemPlace} (h : DataW.trod enc Try.prog W 0 sp hd fuel 4 [c] = some x) : ∃ b, c = .bool b := by
  obtain ⟨a, e0, _⟩ := DataW.trod_bool Try.underlying4 h
  exact ⟨a, by simpa using e0⟩
set_option maxRecDepth 100000 in
theorem open_format {r : Reach} {b0 : Nat} {v : Value} {d : DataW H} {p : List MemPlace} (hv : Value.okWide Try.prog W r b0 24 v)
    (h : DataW.Trod enc Try.prog W 0 sp hd 24 v d p) : ∃ F, FormatV W v F := by
  obtain ⟨c0, c1, c2, y0, y1, y2, n, rfl, _, _, h0, h1, h2⟩ := open_agg3 Try.underlying24 (by kernel_rfl) (by kernel_rfl) hv h
  obtain ⟨xs, hx⟩ := ints_of_trod h0
  obtain ⟨a1, rfl⟩ := bool_of_trodF h1
  obtain ⟨a2, rfl⟩ := bool_of_trodF h2
  exact ⟨⟨xs, a1, a2⟩, c0, rfl, hx⟩
end

end Go.Proofs.Ytonlhphgoedcnaa
