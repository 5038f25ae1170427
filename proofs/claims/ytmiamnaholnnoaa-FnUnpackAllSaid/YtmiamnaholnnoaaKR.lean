/- Contract: a list the other way round. No conditions. -/
import Derived.Test.YtmiamnaholnnoaaT0
import Derived.Test.YtmiamnaholnnoaaC4
namespace Go.Proofs.Ytmiamnaholnnoaa
open Go.RowKit

theorem drop_rev (xs : List Int) (j : Nat) (h : j < xs.length) : (xs.drop j).reverse = (xs.drop (j + 1)).reverse ++ [xs[j]] := by
  rw [List.drop_eq_getElem_cons h, List.reverse_cons]

set_option maxHeartbeats 800000 in
theorem reversed_any (v : Value) (xs : List Int) (w : World) (h : Ints w v xs) (hn : xs.length ≤ 1000000) :
    Calls Try.prog 81 #[v] w (RetOwn w xs.reverse) := by
  obtain ⟨A, c, rfl, h1, h2, h3⟩ := h
  unfold maxLen at h2
  go_enter Try.func81, Try.ntmps81
  go_wp2
  go_loopw [3, 4] (fun out i wr => ∃ (k : Nat), k ≤ xs.length ∧ i = .int .i64 ((k : Int) - 1) ∧ Own wr w.heap.size out (xs.drop k).reverse ∧ Below w.heap.size w wr) (fun _ i _ => (intOf i + 1).toNat)
  case atStart => exact ⟨xs.length, Nat.le_refl _, by go_num, by rw [List.drop_length]; exact Own.empty w rfl (Nat.le_refl _), below_alloc w _⟩
  case round =>
    obtain ⟨k, hk, hi, hown, hb⟩ := hrel
    by_cases hlt : 0 < k
    · obtain ⟨j, rfl⟩ : ∃ j, k = j + 1 := ⟨k - 1, by omega⟩
      have hjl : j < xs.length := by omega
      rw [show (((j + 1 : Nat) : Int) - 1) = (j : Int) by omega] at hi
      subst hi
      obtain ⟨b, off, rfl, hltb, hc⟩ := h3 (by omega)
      have hx := (hb.cell (p := ⟨b, off + j, none⟩) hltb).trans (hc j xs[j] (by simp [hjl]))
      have HT := hid (drop_rev xs j hjl)
      have HL1 := hid (show (xs.drop (j + 1)).reverse.length ≤ 1000000000000 by simp; omega)
      have hsz : w.heap.size ≤ wr.heap.size := hb.size
      clear hc h3
      go_wp2_with (at_builtin; refine app1 _ rfl _ _ rfl w.heap.size _ (xs.drop (j + 1)).reverse rfl (hown.alloc _) ⟨wr.heap.size, 0, none⟩ 1 xs[j] rfl (cell_new1 _ _ _) HL1.out (le_alloc hsz _) ?_)
      intro v1 w1 ho1 hg1 hat1
      have hq := hb.trans (((below_alloc wr (.cells #[.int .i64 xs[j]] 3)).mono hsz).trans ((hown.alloc _).under hg1 (le_alloc hsz _)))
      go_wp2
      go_roundw
      case rel => exact ⟨j, by omega, by go_num, by rw [HT.out]; exact ho1, hq⟩
      case measure => simp [intOf] <;> omega
    · obtain rfl : k = 0 := by omega
      subst hi
      go_wp2
      go_ret
      exact ⟨_, rfl, by simpa using hown, hb⟩

end Go.Proofs.Ytmiamnaholnnoaa
