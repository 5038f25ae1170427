/- A number of a list, by its place. No conditions. -/
import Derived.Test.YtmoejdnodhmglaaDoorBase
namespace Go.Proofs.YtmoejdnodhmglaaDoor
open Go.RowKit

theorem Ints.elem {W : World} {A : Option Addr} {c n : Nat} {xs : List Int} (h : Ints W (.slice A n c) xs) (k : Nat) (hk : k < xs.length) :
    ∃ b off, A = some ⟨b, off, none⟩ ∧ W.cell? ⟨b, off + k, none⟩ = some (.int .i64 xs[k]) := by
  obtain ⟨A', c', e, -, -, h3⟩ := h
  simp only [Value.slice.injEq] at e
  obtain ⟨rfl, rfl, rfl⟩ := e
  obtain ⟨b, off, e, hb, hc⟩ := h3 (by omega)
  exact ⟨b, off, e, hc k _ (by simp [hk])⟩

end Go.Proofs.YtmoejdnodhmglaaDoor
