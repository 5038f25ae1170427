/- Arguments that are rows of records, read. No conditions. -/
import Derived.Test.YtldblcolnjkcaaaOpA
import Derived.Test.YtldblcolnjkcaaaRR
import Derived.Deep.Strs
namespace Go.Proofs.Ytldblcolnjkcaaa
open Go.ChangeShapes Go.WideShapes Go.ChangeAt Go.RowKit Go.Joins Go.Deep

section
variable {H : Type} {enc : TypeId × Value → H} {W : World} {sp : Nat → Bool} {hd : Bool}

theorem bool_of_trodR {fuel : Nat} {c : Value} {x : DataW H × List MemPlace} (h : DataW.trod enc Try.prog W 0 sp hd fuel 4 [c] = some x) : ∃ b, c = .bool b := by
  obtain ⟨a, e0, _⟩ := DataW.trod_bool Try.underlying4 h
  exact ⟨a, by simpa using e0⟩
theorem add_none (b off j : Nat) : (⟨b, off, none⟩ : Addr).add j = ⟨b, off + j, none⟩ := by unfold Addr.add; split <;> simp_all
/-- What the cells of one record read as. -/
def Reads (W : World) (us : List Value) (cs : List Cl) : Prop := ∀ (j : Nat) (c : Cl), cs[j]? = some c → ∃ u, us[j]? = some u ∧ CellV W u c
set_option maxRecDepth 100000 in
theorem rows_of_trod {α : Type} {rd : α → List Cl} {t e : TypeId} {s : Nat} (ht : Try.prog.underlying t = some (.slice e)) (hs : Try.prog.cellsOf e = s) (h0 : 0 < s) (he : ∀ x, (rd x).length = s)
    (one : ∀ (fuel : Nat) (us : List Value) (x : DataW H × List MemPlace), us.length = s → DataW.trod enc Try.prog W 0 sp hd fuel e us = some x → ∃ V : α, Reads W us (rd V))
    {fuel : Nat} {c : Value} {x : DataW H × List MemPlace} (h : DataW.trod enc Try.prog W 0 sp hd fuel t [c] = some x) : ∃ xs : List α, RowV s W c xs.length (flatR rd xs) := by
  rcases DataW.trod_slice ht h with ⟨hcs, _⟩ | ⟨a, len, cap, elems, rest, n, _, hcs, _, hb, hl, hm, hlen, hel, _, _⟩
  · obtain rfl : c = .slice none 0 0 := by simpa using hcs
    exact ⟨[], by simp [flatR], none, 0, rfl, Nat.le_refl _, by unfold maxLen; omega, fun h => absurd h (by simp)⟩
  · obtain rfl : c = .slice (some a) len cap := by simpa using hcs
    have each : ∀ i : Fin len, ∃ (V : α) (us : List Value), (∀ (j : Nat) (u : Value), us[j]? = some u → W.cell? ((a.add (i * s)).add j) = some u) ∧ us.length = s ∧ Reads W us (rd V) := by
      rintro ⟨i, hi⟩
      have h1 := hel i hi
      rw [hs, List.getElem?_eq_getElem (by omega), Option.bind_eq_some_iff] at h1
      obtain ⟨us, hus, hy⟩ := h1
      have h2 := World.cells?_some hus
      obtain ⟨V, hV⟩ := one _ us _ h2.2.1 hy
      exact ⟨V, us, fun j u hj => by rw [h2.2.2 j (by have := (List.getElem?_eq_some_iff.1 hj).1; omega)]; exact hj, h2.2.1, hV⟩
    obtain ⟨f, hf⟩ := Classical.axiomOfChoice each
    have hlen2 : (List.ofFn f).length = len := by simp
    refine ⟨List.ofFn f, by rw [flatR_length he], some a, cap, by rw [hlen2], by rw [hlen2]; exact hl, hm, fun hn => ?_⟩
    rw [hlen2] at hn
    obtain ⟨b, off, spot⟩ := a
    obtain ⟨us0, hc0, hl0, _⟩ := hf ⟨0, hn⟩
    have hc00 := hc0 0 _ (List.getElem?_eq_getElem (by omega))
    have hspot : spot = none := by
      have := World.cell?_spot hc00
      by_cases h : spot = none
      · exact h
      · exfalso
        cases spot <;> simp_all [Addr.add]
    subst hspot
    refine ⟨b, off, rfl, ?_, fun j c hx => ?_⟩
    · rw [add_none, add_none] at hc00
      exact World.block_lt_of_cell? W _ hc00
    · have hj : j < len * s := by have := (List.getElem?_eq_some_iff.1 hx).1; rw [flatR_length he, hlen2] at this; exact this
      have hq : j / s < len := by rw [Nat.div_lt_iff_lt_mul h0]; exact hj
      have hr : j % s < s := Nat.mod_lt _ h0
      have hjd : j / s * s + j % s = j := by rw [Nat.mul_comm]; exact Nat.div_add_mod j s
      obtain ⟨us, hus, hlu, hR⟩ := hf ⟨j / s, hq⟩
      rw [← hjd, flatR_get he _ _ _ (by rw [hlen2]; exact hq) hr] at hx
      obtain ⟨u, hu, hv⟩ := hR (j % s) c (by simpa using hx)
      refine ⟨u, ?_, hv⟩
      have := hus _ _ hu
      have e : ((⟨b, off, none⟩ : Addr).add (j / s * s)).add (j % s) = ⟨b, off + j, none⟩ := by
        have h3 : off + j / s * s + j % s = off + j := by omega
        rw [add_none, add_none, h3]
      rw [← e]
      exact this
end

end Go.Proofs.Ytldblcolnjkcaaa
