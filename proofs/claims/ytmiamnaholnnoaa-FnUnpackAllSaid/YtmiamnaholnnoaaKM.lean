/- Contract: a memory is valid. No conditions. -/
import Derived.Test.YtmiamnaholnnoaaQ2
namespace Go.Proofs.Ytmiamnaholnnoaa
open Go.RowKit

set_option maxHeartbeats 400000 in
theorem isValue_anyM (x : Int) (w : World) :
    Calls Try.prog 73 #[.int .i64 x] w fun e w' => e = .returned (.bool (inR x 0 255)) ∧ w = w' := by
  by_cases h1 : 0 ≤ x
  · by_cases h2 : x ≤ 255
    · have H := hid (inR_yes h1 h2)
      go_enter Try.func73, Try.ntmps73
      go_wp2
      go_ret
      exact ⟨ret_bool H.out.symm, rfl⟩
    · have H := hid (inR_no (n := x) (lo := 0) (hi := 255) (by omega))
      have h3 : decide (x ≤ 255) = false := by simp; omega
      go_enter Try.func73, Try.ntmps73
      go_wp2
      go_ret
      exact ⟨ret_bool H.out.symm, rfl⟩
  · have H := hid (inR_no (n := x) (lo := 0) (hi := 255) (by omega))
    go_enter Try.func73, Try.ntmps73
    go_wp2
    go_ret
    exact ⟨ret_bool H.out.symm, rfl⟩
set_option maxHeartbeats 400000 in
theorem isMemory1_anyM (x : Int) (w : World) :
    Calls Try.prog 72 #[.int .i64 x] w fun e w' => e = .returned (.bool (!inR x 0 255)) ∧ w = w' := by
  go_enter Try.func72, Try.ntmps72
  go_wp2_with fail
  refine (isValue_anyM _ _).mono ?_; rintro e w' ⟨rfl, rfl⟩
  go_wp2
  go_ret
  exact ⟨rfl, rfl⟩
theorem cf_isMemory1M (ar : Array Value) (w : World) : (callFunc 72 ar).run Try.prog w = .ok (.enter 72 ar) w := by kernel_rfl

set_option maxHeartbeats 400000 in
theorem isMemory_anyM (v : Value) (xs : List Int) (w : World) (h : Ints w v xs) :
    Calls Try.prog 52 #[v] w fun e w' => e = .returned (.bool (isMemL xs)) ∧ w = w' := by
  have h0 := h
  obtain ⟨A, c, rfl, hk, hm, -⟩ := h
  unfold maxLen at hm
  have HN := hid (any_not_all xs (inR · 0 255))
  by_cases hl : xs.length ≤ 60
  · have HQ := hid (show isMemL xs = xs.all (inR · 0 255) by simp [isMemL, hl])
    go_enter Try.func52, Try.ntmps52
    go_wp2_with fail
    refine (ContainsFunc_any 72 cf_isMemory1M (fun x => !inR x 0 255) isMemory1_anyM _ xs _ h0).mono ?_; rintro e w' ⟨rfl, rfl⟩
    go_wp2
    go_ret
    exact ⟨ret_bool (HN.out.trans HQ.out.symm), rfl⟩
  · have HQ := hid (show isMemL xs = false by simp [isMemL, hl])
    go_enter Try.func52, Try.ntmps52
    go_wp2
    go_ret
    exact ⟨ret_bool HQ.out.symm, rfl⟩

set_option maxRecDepth 100000 in
set_option maxHeartbeats 6400000 in
theorem ValidMemory_any (v : Value) (xs : List Int) (w : World) (h : Ints w v xs) :
    Calls Try.prog 22 #[v] w fun e w' => e = .returned (.bool (isMemL xs)) ∧ w = w' := by
  go_enter Try.func22, Try.ntmps22
  go_wp2_with fail
  refine (isMemory_anyM _ xs _ h).mono ?_; rintro e w' ⟨rfl, rfl⟩
  go_wp2
  go_ret
  exact ⟨rfl, rfl⟩

set_option maxHeartbeats 400000 in
theorem validMemory_anyM (v : Value) (xs : List Int) (w : World) (h : Ints w v xs) :
    Calls Try.prog 58 #[v] w fun e w' => e = .returned (.bool (isMemL xs)) ∧ w = w' := by
  have h0 := h
  obtain ⟨A, c, rfl, hk, hm, -⟩ := h
  unfold maxLen at hm
  by_cases hl : xs.length ≤ 60
  · have HQ := hid (show isMemL xs = xs.all (inR · 0 255) by simp [isMemL, hl])
    go_enter Try.func58, Try.ntmps58
    go_wp2_with fail
    refine (allIn_any _ xs _ _ _ h0).mono ?_; rintro e w' ⟨rfl, rfl⟩
    go_wp2
    go_ret
    exact ⟨ret_bool HQ.out.symm, rfl⟩
  · have HQ := hid (show isMemL xs = false by simp [isMemL, hl])
    go_enter Try.func58, Try.ntmps58
    go_wp2
    go_ret
    exact ⟨ret_bool HQ.out.symm, rfl⟩

end Go.Proofs.Ytmiamnaholnnoaa
