/- The arguments of a law, read: lists of ints. No conditions. -/
import Derived.Test.YtmoejdnodhmglaaDoorBase
import Derived.ProofKit
import Derived.OpenShut
import Derived.Lib.SmallJoins
namespace Go.Proofs.YtmoejdnodhmglaaDoor
open Go.ChangeShapes Go.WideShapes Go.ChangeAt Go.RowKit Go.Joins Go.Deep

theorem Tryd.own : ownKnob Tryd.prog.godebug = none := by kernel_rfl
theorem Tryd.laidOut : laidOutB Tryd.prog = true := by kernel_rfl

section
variable {H : Type} {enc : TypeId × Value → H} {W : World} {sp : Nat → Bool} {hd : Bool}

set_option maxRecDepth 100000 in
theorem ints_of_trod {fuel : Nat} {c : Value} {x : DataW H × List MemPlace} (h : DataW.trod enc Tryd.prog W 0 sp hd fuel 22 [c] = some x) : ∃ xs, Ints W c xs := by
  rcases open_ints Tryd.underlying22 Tryd.underlying3 (by kernel_rfl) h with ⟨hcs, _⟩ | ⟨a, l, c', zs, hcs, _, hl, hm, hz, _, hcell, hwz⟩
  · obtain rfl : c = .slice none 0 0 := by simpa using hcs
    exact ⟨[], none, 0, rfl, Nat.le_refl _, by unfold maxLen; omega, fun h => absurd h (by simp)⟩
  · obtain rfl : c = .slice (some a) l c' := by simpa using hcs
    have hzl : l ≤ zs.length := by rw [hz]; split <;> omega
    refine ⟨zs.take l, some a, c', by rw [List.length_take, Nat.min_eq_left hzl], by rw [List.length_take]; omega, hm, fun hn => ?_⟩
    rw [List.length_take] at hn
    obtain ⟨b, off, spot⟩ := a
    have h0 := hcell 0 (by omega)
    have hspot : spot = none := by simpa [Addr.add] using World.cell?_spot h0
    subst hspot
    refine ⟨b, off, rfl, ?_, fun j x hx => ?_⟩
    · have := World.block_lt_of_cell? W _ h0
      simpa [Addr.add] using this
    · rw [List.getElem?_take] at hx
      split at hx
      · have hj := List.getElem?_eq_some_iff.1 hx
        have := hcell j hj.1
        have e : (⟨b, off, none⟩ : Addr).add j = ⟨b, off + j, none⟩ := by unfold Addr.add; split <;> simp_all
        rw [e] at this
        rw [this]
        simp [List.getD, hx]
      · cases hx
set_option maxRecDepth 100000 in
theorem int_of_trod {fuel : Nat} {c : Value} {x : DataW H × List MemPlace} (h : DataW.trod enc Tryd.prog W 0 sp hd fuel 3 [c] = some x) : ∃ n, c = .int .i64 n ∧ (Lit.int .i64 n).wf = true := by
  obtain ⟨a, e0, _, wa⟩ := DataW.trod_int Tryd.underlying3 h
  exact ⟨a, by simpa using e0, wa⟩
theorem i64_of_wf {n : Int} (h : (Lit.int .i64 n).wf = true) : -9223372036854775808 ≤ n ∧ n ≤ 9223372036854775807 := by
  simpa [Lit.wf, IntKind.min, IntKind.max, IntKind.signed, IntKind.bits] using h

set_option maxRecDepth 100000 in
theorem open_list {r : Reach} {b0 : Nat} {v : Value} {d : DataW H} {p : List MemPlace} (hv : Value.okWide Tryd.prog W r b0 22 v)
    (h : DataW.Trod enc Tryd.prog W 0 sp hd 22 v d p) : ∃ xs, Ints W v xs := by
  obtain ⟨A, n, c, rfl⟩ := okWide_slice Tryd.underlying22 hv
  obtain ⟨fuel, hf⟩ := h
  exact ints_of_trod (by simpa [Value.cells] using hf)
end

end Go.Proofs.YtmoejdnodhmglaaDoor
