/- Contracts: copies of lists and views. No conditions. -/
import Derived.Test.YtfiphjifnjnmbaaBase
import Derived.Outline
import Derived.Deep.RegionHeld3
namespace Go.Proofs.Ytfiphjifnjnmbaa
open Go.RowKit

set_option maxHeartbeats 400000 in
theorem copyInts_any (v : Value) (xs : List Int) (w : World) (h : Ints w v xs) (hl : xs.length ≤ 100000000) :
    Calls Try.prog 79 #[v] w (RetOwn w xs) := by
  obtain ⟨A, c, e⟩ := h.form
  subst e
  have hx := h.ext (below_alloc w (.cells #[] 3))
  have ho := Own.empty w (B := w.heap.size) rfl (Nat.le_refl _)
  have hz : ([] : List Int).length + xs.length ≤ 1000000000000 := by simp; omega
  go_enter Try.func79, Try.ntmps79
  go_wp2_with (at_builtin; refine appI _ rfl _ _ rfl w.heap.size _ [] rfl ho _ _ _ xs rfl hx hz (by simp) ?_)
  intro v' w' ho' hg hat
  go_wp2
  go_ret
  exact ⟨_, rfl, by simpa using ho', (below_alloc w _).trans (ho.under hg (by simp))⟩

end Go.Proofs.Ytfiphjifnjnmbaa
