/- Contracts: a slice is valid. No conditions. -/
import Derived.Test.YtldblcolnjkcaaaY1
import Derived.Test.YtldblcolnjkcaaaS1
import Derived.Test.YtldblcolnjkcaaaHp
import Derived.Test.YtldblcolnjkcaaaGw
import Derived.BigGuardPart
namespace Go.Proofs.Ytldblcolnjkcaaa
open Go.RowKit

set_option maxRecDepth 100000 in
set_option maxHeartbeats 6400000 in
theorem isSlice_any (v : Value) (s : SL) (w : World) (hv : v = s.val) (hok : s.ok) :
    Calls Try.prog 100 #[v] w fun e w' => e = .returned (.bool (okSl s)) ∧ Below w.heap.size w w' := by
  subst hv
  obtain ⟨f, t, b, hf, ht⟩ := s
  obtain ⟨h1, h2, h3⟩ := hok
  simp only [inI64] at h1 h2 h3
  simp only [SL.val]
  cases hf <;> cases ht
  all_goals
    go_enter Try.func100, Try.ntmps100
    go_wp2
    all_goals
      go_ret
      exact ⟨ret_bool (by simp [okSl, inR, *] <;> omega), below_alloc _ _⟩

set_option maxRecDepth 100000 in
set_option maxHeartbeats 6400000 in
theorem validSlice_any (v : Value) (s : SL) (w : World) (hv : v = s.val) (_hok : s.ok) :
    Calls Try.prog 105 #[v] w fun e w' => e = .returned (.bool (okSl s)) ∧ Below w.heap.size w w' := by
  subst hv
  obtain ⟨f, t, b, hf, ht⟩ := s
  simp only [SL.val]
  have z0 : inR 0 (-100) 100 = true := rfl
  have Z0 := hid z0
  clear z0
  cases h1 : inR f (-100) 100 <;> cases h2 : inR t (-100) 100 <;> cases h3 : inR b (-200) 200
  all_goals
    have H1 := hid h1
    have H2 := hid h2
    have H3 := hid h3
    clear h1 h2 h3
    cases hf <;> cases ht
    all_goals
      go_enter Try.func105, Try.ntmps105
      go_wp2_with (go_at_call 104; first
        | ((with_reducible refine (inRange_any f (-100) 100 _).mono ?_); rintro e w' ⟨rfl, rfl⟩; rw [H1.out])
        | ((with_reducible refine (inRange_any t (-100) 100 _).mono ?_); rintro e w' ⟨rfl, rfl⟩; rw [H2.out])
        | ((with_reducible refine (inRange_any b (-200) 200 _).mono ?_); rintro e w' ⟨rfl, rfl⟩; rw [H3.out]))
      all_goals
        go_ret
        exact ⟨ret_bool (by simp [okSl, H1.out, H2.out, H3.out, Z0.out, *]), below_alloc _ _⟩

end Go.Proofs.Ytldblcolnjkcaaa
