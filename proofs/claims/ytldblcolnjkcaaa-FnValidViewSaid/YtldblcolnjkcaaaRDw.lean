/- Words: a reader that stays while others write; literals. No conditions. -/
import Derived.Test.YtldblcolnjkcaaaRD2
import Derived.Deep.RegionLaw
import Derived.Deep.LoopGhost
import Derived.Deep.CutRange
import Derived.Maps.AppendAt
import Derived.Maps.Range
namespace Go.Proofs.Ytldblcolnjkcaaa
open Go.RowKit

theorem Rd.grown {N : Nat} {w w' : World} {g p : Nat} {row : Option Nat} (h : Rd N w g p) (hg : w.grownBy w' row) (hr : ∀ k, row = some k → N ≤ k ∧ k ≠ g) : Rd N w' g p :=
  h.keep (Own.below hg (by have := h.lt; omega) (fun k e => (hr k e).1)) (hg.block g h.lt.2 (fun e => (hr g e.symm).2 rfl))
theorem Rd.put {N : Nat} {w : World} {g p : Nat} (h : Rd N w g p) {a : Addr} (ha : N ≤ a.block) (hne : a.block ≠ g) (u : Value) : Rd N (w.setCell a u) g p :=
  h.grown (grown_set w a u) (fun k e => by injection e with e; subst e; exact ⟨ha, hne⟩)
theorem grown_of {w w' : World} {row : Option Nat} (h : Below w.heap.size w w') : w.grownBy w' row := ⟨h.os, h.tape, h.output, h.size, fun k hk _ => h.block k hk⟩

theorem own_lit (w : World) (xs : List Int) (hl : xs.length ≤ 1000) : Own (w.alloc (.cells (xs.map (Value.int .i64)).toArray 3)) w.heap.size (.slice (some ⟨w.heap.size, 0, none⟩) xs.length xs.length) xs :=
  ⟨by simp, .inr ⟨w.heap.size, xs.length, _, by simp, Nat.le_refl _, heap_alloc_new w _, by simp, by unfold maxLen; omega, by simp, by simp; exact List.take_of_length_le (by simp)⟩⟩


end Go.Proofs.Ytldblcolnjkcaaa
