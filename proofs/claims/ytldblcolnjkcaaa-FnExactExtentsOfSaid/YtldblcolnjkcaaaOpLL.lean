/- An argument that is a list of lists of ints, read. No conditions. -/
import Derived.Test.YtldblcolnjkcaaaOpA
import Derived.Test.YtldblcolnjkcaaaLL
namespace Go.Proofs.Ytldblcolnjkcaaa
open Go.ChangeShapes Go.WideShapes Go.ChangeAt Go.RowKit Go.Joins Go.Deep

section
variable {H : Type} {enc : TypeId × Value → H} {W : World} {sp : Nat → Bool} {hd : Bool}

set_option maxRecDepth 100000 in
theorem lists_of_trod {fuel : Nat} {c : Value} {x : DataW H × List MemPlace} (h : DataW.trod enc Try.prog W 0 sp hd fuel 82 [c] = some x) : ∃ xss, IntsS W c xss := by
  rcases DataW.trod_slice Try.underlying82 h with ⟨hcs, _⟩ | ⟨a, len, cap, elems, rest, n, _, hcs, _, hb, hl, hm, hlen, hel, _, _⟩
  · obtain rfl : c = .slice none 0 0 := by simpa using hcs
    exact ⟨[], none, 0, rfl, Nat.le_refl _, by unfold maxLen; omega, fun h => absurd h (by simp)⟩
  · obtain rfl : c = .slice (some a) len cap := by simpa using hcs
    have hone : Try.prog.cellsOf 23 = 1 := by kernel_rfl
    have each : ∀ i : Fin len, ∃ xs u, W.cell? (a.add i) = some u ∧ Ints W u xs := by
      rintro ⟨i, hi⟩
      have h1 := hel i hi
      rw [hone, Nat.mul_one, List.getElem?_eq_getElem (by omega), Option.bind_eq_some_iff] at h1
      obtain ⟨cs', hcs', hy⟩ := h1
      have h2 := World.cells?_some hcs'
      obtain ⟨u, rfl⟩ : ∃ u, cs' = [u] := List.length_eq_one_iff.1 h2.2.1
      obtain ⟨xs, hx⟩ := ints_of_trod hy
      exact ⟨xs, u, cell_of_cells?_one hcs', hx⟩
    obtain ⟨f, hf⟩ := Classical.axiomOfChoice each
    have hlen2 : (List.ofFn f).length = len := by simp
    refine ⟨List.ofFn f, some a, cap, by rw [hlen2], by rw [hlen2]; exact hl, hm, fun hn => ?_⟩
    rw [hlen2] at hn
    obtain ⟨b, off, spot⟩ := a
    obtain ⟨u0, hc0, _⟩ := hf ⟨0, hn⟩
    have hspot : spot = none := by simpa [Addr.add] using World.cell?_spot hc0
    subst hspot
    refine ⟨b, off, rfl, ?_, fun j xs hx => ?_⟩
    · have := World.block_lt_of_cell? W _ hc0
      simpa [Addr.add] using this
    · obtain ⟨hj, rfl⟩ := List.getElem?_eq_some_iff.1 hx
      rw [hlen2] at hj
      obtain ⟨u, hu, hi⟩ := hf ⟨j, hj⟩
      have e : (⟨b, off, none⟩ : Addr).add j = ⟨b, off + j, none⟩ := by unfold Addr.add; split <;> simp_all
      rw [e] at hu
      exact ⟨u, hu, by simpa using hi⟩
set_option maxRecDepth 100000 in
theorem open_lists {r : Reach} {b0 : Nat} {v : Value} {d : DataW H} {p : List MemPlace} (hv : Value.okWide Try.prog W r b0 82 v)
    (h : DataW.Trod enc Try.prog W 0 sp hd 82 v d p) : ∃ xss, IntsS W v xss := by
  obtain ⟨A, n, c, rfl⟩ := okWide_slice Try.underlying82 hv
  obtain ⟨fuel, hf⟩ := h
  exact lists_of_trod (by simpa [Value.cells] using hf)
end

end Go.Proofs.Ytldblcolnjkcaaa
