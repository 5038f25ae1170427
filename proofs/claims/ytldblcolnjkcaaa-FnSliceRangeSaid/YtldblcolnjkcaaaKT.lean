/- Contract: a list at indices. No conditions. -/
import Derived.Test.YtldblcolnjkcaaaC4
import Derived.Outline
namespace Go.Proofs.Ytldblcolnjkcaaa
open Go.RowKit

set_option maxRecDepth 100000 in
set_option maxHeartbeats 800000 in
theorem takenOf_anyT (v iv : Value) (xs idx : List Int) (w : World) (h : Ints w v xs) (hi : Ints w iv idx) (hbd : ∀ i ∈ idx, 0 ≤ i ∧ i < xs.length) (hl : idx.length ≤ 1000000) :
    Calls Try.prog 103 #[v, iv] w (RetOwn w (takenL xs idx)) := by
  have HB := hid hbd; clear hbd
  obtain ⟨A, c, rfl, h1, h2, h3⟩ := h
  obtain ⟨A', c', rfl, h1', h2', h3'⟩ := hi
  unfold maxLen at h2 h2'
  go_enter Try.func103, Try.ntmps103
  go_wp2
  go_loopw [5, 11] (fun out i wr => ∃ (k : Nat), k ≤ idx.length ∧ i = .int .i64 k ∧ Own wr w.heap.size out (takenL xs (idx.take k)) ∧ Below w.heap.size w wr) (fun _ i _ => idx.length - (intOf i).toNat)
  case atStart => exact ⟨0, Nat.zero_le _, rfl, Own.empty w rfl (Nat.le_refl _), below_alloc w _⟩
  case round =>
    obtain ⟨k, hk, rfl, hown, hb⟩ := hrel
    by_cases hlt : k < idx.length
    · obtain ⟨b', off', rfl, hltb', hc'⟩ := h3' (by omega)
      have hbd := HB.out idx[k] (List.getElem_mem hlt)
      obtain ⟨hb0, hb1⟩ := hbd
      obtain ⟨j, hj⟩ : ∃ j : Nat, idx[k] = j := ⟨(idx[k]).toNat, by omega⟩
      have hjl : j < xs.length := by omega
      obtain ⟨b, off, rfl, hltb, hc⟩ := h3 (by omega)
      have hx' := (hb.cell (p := ⟨b', off' + k, none⟩) hltb').trans (hc' k j (by rw [List.getElem?_eq_getElem hlt, hj]))
      have hx := (hb.cell (p := ⟨b, off + j, none⟩) hltb).trans (hc j xs[j] (by simp [hjl]))
      have HT := hid (show takenL xs (idx.take (k + 1)) = takenL xs (idx.take k) ++ [xs[j]] by rw [takenL_snoc xs idx k hlt, hj]; simp [hjl])
      have HL1 := hid (show (takenL xs (idx.take k)).length ≤ 1000000000000 by simp [takenL]; omega)
      have hsz : w.heap.size ≤ wr.heap.size := hb.size
      clear hc hc' h3 h3' hj hb0 hb1
      go_wp2_with (at_builtin; refine app1 _ rfl _ _ rfl w.heap.size _ (takenL xs (idx.take k)) rfl (hown.alloc _) ⟨wr.heap.size, 0, none⟩ 1 xs[j] rfl (cell_new1 _ _ _) HL1.out (le_alloc hsz _) ?_)
      intro v1 w1 ho1 hg1 hat1
      have hq := hb.trans (((below_alloc wr (.cells #[.int .i64 xs[j]] 3)).mono hsz).trans ((hown.alloc _).under hg1 (le_alloc hsz _)))
      go_wp2
      go_roundw
      case rel => exact ⟨k + 1, by omega, by go_num, by rw [HT.out]; exact ho1, hq⟩
      case measure => simp [intOf]; omega
    · have HE := hid (show takenL xs (idx.take k) = takenL xs idx by rw [List.take_of_length_le (by omega)])
      go_wp2
      go_ret
      exact ⟨_, rfl, by rw [← HE.out]; exact hown, hb⟩

end Go.Proofs.Ytldblcolnjkcaaa
