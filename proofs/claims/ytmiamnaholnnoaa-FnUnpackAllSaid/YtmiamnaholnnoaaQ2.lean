/- Contracts: a format is valid; rounding up. No conditions. -/
import Derived.Test.YtmiamnaholnnoaaQ1
import Derived.Test.YtmiamnaholnnoaaSR
import Derived.Test.YtmiamnaholnnoaaC4
import Derived.Test.YtmiamnaholnnoaaHp
namespace Go.Proofs.Ytmiamnaholnnoaa
open Go.RowKit

set_option maxRecDepth 100000 in
set_option maxHeartbeats 6400000 in
theorem iRoundUp_any (n b : Int) (w : World) (hn : 0 ≤ n ∧ n ≤ 1000) (hb : b = 1 ∨ b = 2 ∨ b = 4) :
    Calls Try.prog 65 #[.int .i64 n, .int .i64 b] w fun e w' => e = .returned (.int .i64 (up n b)) ∧ w = w' := by
  rcases hb with rfl | rfl | rfl
  all_goals
    go_enter Try.func65, Try.ntmps65
    go_wp2
    go_ret
    exact ⟨ret_int (by simp [up]), rfl⟩

set_option maxRecDepth 100000 in
set_option maxHeartbeats 6400000 in
theorem sRoundUp_any (n b : Int) (w : World) (hn : 0 ≤ n ∧ n ≤ 1000) (hb : b = 1 ∨ b = 2 ∨ b = 4) :
    Calls Try.prog 67 #[.int .i64 n, .int .i64 b] w fun e w' => e = .returned (.int .i64 (up n b)) ∧ w = w' := by
  rcases hb with rfl | rfl | rfl
  all_goals
    go_enter Try.func67, Try.ntmps67
    go_wp2
    go_ret
    exact ⟨ret_int (by simp [up]), rfl⟩

set_option maxRecDepth 100000 in
set_option maxHeartbeats 6400000 in
theorem isFormat1_any (x : Int) (w : World) :
    Calls Try.prog 64 #[.int .i64 x] w fun e w' => e = .returned (.bool (!okSize x)) ∧ w = w' := by
  by_cases h1 : x = 1
  · subst h1
    go_enter Try.func64, Try.ntmps64
    go_wp2
    go_ret
    exact ⟨rfl, rfl⟩
  by_cases h2 : x = 2
  · subst h2
    go_enter Try.func64, Try.ntmps64
    go_wp2
    go_ret
    exact ⟨rfl, rfl⟩
  by_cases h4 : x = 4
  · subst h4
    go_enter Try.func64, Try.ntmps64
    go_wp2
    go_ret
    exact ⟨rfl, rfl⟩
  have H := hid (show okSize x = false by simp [okSize, h1, h2, h4])
  have e1 : (x == 1) = false := by simpa using h1
  have e2 : (x == 2) = false := by simpa using h2
  have e4 : (x == 4) = false := by simpa using h4
  have n1 : (x != 1) = true := by simpa using h1
  have n2 : (x != 2) = true := by simpa using h2
  have n4 : (x != 4) = true := by simpa using h4
  go_enter Try.func64, Try.ntmps64
  go_wp2
  go_ret
  exact ⟨ret_bool (by rw [H.out]; rfl), rfl⟩
theorem cf_isFormat1 (ar : Array Value) (w : World) : (callFunc 64 ar).run Try.prog w = .ok (.enter 64 ar) w := by kernel_rfl

set_option maxRecDepth 100000 in
set_option maxHeartbeats 6400000 in
theorem isFormat_any (v : Value) (F : FL) (w : World) (hv : FormatV w v F) :
    Calls Try.prog 39 #[v] w fun e w' => e = .returned (.bool (isFormatL F)) ∧ Below w.heap.size w w' := by
  obtain ⟨xs, bg, al⟩ := F
  obtain ⟨s, rfl, h0⟩ := hv
  obtain ⟨A, c, e, hk, hm, -⟩ := id h0
  simp only at h0 e hk ⊢
  subst e
  unfold maxLen at hm
  have hb := below_alloc w (.cells #[.slice A xs.length c, .bool bg, .bool al] 25)
  have h1 := h0.ext hb
  have HA := hid (show (!(xs.any fun x => !okSize x)) = xs.all okSize by simp [List.all_eq_not_any_not])
  by_cases hl1 : xs.length < 1
  · have HQ := hid (show isFormatL ⟨xs, bg, al⟩ = false by simp [isFormatL]; omega)
    go_enter Try.func39, Try.ntmps39
    go_wp2
    go_ret
    exact ⟨ret_bool HQ.out.symm, hb⟩
  by_cases hl5 : 5 < xs.length
  · have HQ := hid (show isFormatL ⟨xs, bg, al⟩ = false by simp [isFormatL]; omega)
    go_enter Try.func39, Try.ntmps39
    go_wp2
    go_ret
    exact ⟨ret_bool HQ.out.symm, hb⟩
  have HQ := hid (show isFormatL ⟨xs, bg, al⟩ = xs.all okSize by (have e1 : 1 ≤ xs.length := (by omega)); (have e2 : xs.length ≤ 5 := (by omega)); simp [isFormatL, e1, e2])
  go_enter Try.func39, Try.ntmps39
  go_wp2_with fail
  refine (ContainsFunc_any 64 cf_isFormat1 (fun x => !okSize x) isFormat1_any _ xs _ h1).mono ?_; rintro e w' ⟨rfl, rfl⟩
  go_wp2
  go_ret
  exact ⟨ret_bool (HA.out.trans HQ.out.symm), hb⟩
end Go.Proofs.Ytmiamnaholnnoaa
