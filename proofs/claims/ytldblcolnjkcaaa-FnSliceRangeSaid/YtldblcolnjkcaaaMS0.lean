/- Contracts: small functions on slices. No conditions. -/
import Derived.Test.YtldblcolnjkcaaaMSp
import Derived.Test.YtldblcolnjkcaaaY4
import Derived.Test.YtldblcolnjkcaaaY5
import Derived.Test.YtldblcolnjkcaaaKT
import Derived.Test.YtldblcolnjkcaaaIE
import Derived.Deep.LoopGhost
import Derived.Deep.Cut
namespace Go.Proofs.Ytldblcolnjkcaaa
open Go.RowKit

set_option maxRecDepth 100000 in
set_option maxHeartbeats 6400000 in
theorem areCells_any (n : Int) (w : World) :
    Calls Try.prog 99 #[.int .i64 n] w fun e w' => e = .returned (.bool (inR n 0 60)) ∧ w = w' := by
  by_cases h1 : 0 ≤ n
  · by_cases h2 : n ≤ 60
    · have H := hid (inR_yes h1 h2)
      go_enter Try.func99, Try.ntmps99
      go_wp2
      go_ret
      exact ⟨ret_bool H.out.symm, rfl⟩
    · have H := hid (inR_no (n := n) (lo := 0) (hi := 60) (by omega))
      have h3 : decide (n ≤ 60) = false := by simp; omega
      go_enter Try.func99, Try.ntmps99
      go_wp2
      go_ret
      exact ⟨ret_bool H.out.symm, rfl⟩
  · have H := hid (inR_no (n := n) (lo := 0) (hi := 60) (by omega))
    go_enter Try.func99, Try.ntmps99
    go_wp2
    go_ret
    exact ⟨ret_bool H.out.symm, rfl⟩

set_option maxRecDepth 100000 in
set_option maxHeartbeats 6400000 in
theorem equalSlice_same (S : SL) (w : World) :
    Calls Try.prog 24 #[S.val, S.val] w fun e w' => e = .returned (.bool true) ∧ Below w.heap.size w w' := by
  obtain ⟨f, t, b, hf, ht⟩ := S
  simp only [SL.val]
  have hA := (Blk.new w 33 #[.int .i64 f, .int .i64 t, .int .i64 b, .bool hf, .bool ht]).alloc (.cells #[.int .i64 f, .int .i64 t, .int .i64 b, .bool hf, .bool ht] 33)
  have hB := Blk.new (w.alloc (.cells #[.int .i64 f, .int .i64 t, .int .i64 b, .bool hf, .bool ht] 33)) 33 #[.int .i64 f, .int .i64 t, .int .i64 b, .bool hf, .bool ht]
  simp only [World.size_alloc] at hB
  have hW : Below w.heap.size w ((w.alloc (.cells #[.int .i64 f, .int .i64 t, .int .i64 b, .bool hf, .bool ht] 33)).alloc (.cells #[.int .i64 f, .int .i64 t, .int .i64 b, .bool hf, .bool ht] 33)) := ((Below.refl _ _).alloc (Nat.le_refl _) _).alloc (by simp) _
  go_enter Try.func24, Try.ntmps24
  go_upto_region 1 with fail
  generalize ((w.alloc (.cells #[.int .i64 f, .int .i64 t, .int .i64 b, .bool hf, .bool ht] 33)).alloc (.cells #[.int .i64 f, .int .i64 t, .int .i64 b, .bool hf, .bool ht] 33)) = W1 at *
  obtain ⟨⟨q0, q1, q2, q3, q4⟩, -⟩ := id hA.all5
  obtain ⟨⟨r0, r1, r2, r3, r4⟩, -⟩ := id hB.all5
  go_wp2
  go_ret
  exact ⟨by simp, hW⟩

set_option maxRecDepth 100000 in
set_option maxHeartbeats 6400000 in
theorem IndicesOf_any (n : Int) (s : SL) (w : World) (hn : 0 ≤ n ∧ n ≤ 60) (hs : okSl s = true) (hk : s.ok) :
    Calls Try.prog 26 #[.int .i64 n, s.val] w (RetOwn w (idxL n s)) := by
  have HS := hid hs
  have HK := hid hk
  have HN := hid (inR_yes hn.1 hn.2)
  obtain ⟨f, t, b, hf, ht⟩ := s
  simp only [SL.val]
  have hb0 := below_alloc w (.cells #[.int .i64 f, .int .i64 t, .int .i64 b, .bool hf, .bool ht] 33)
  have hA := Blk.new w 33 #[.int .i64 f, .int .i64 t, .int .i64 b, .bool hf, .bool ht]
  clear hs hk
  go_enter Try.func26, Try.ntmps26
  go_upto_region 1 with fail
  generalize w.alloc (.cells #[.int .i64 f, .int .i64 t, .int .i64 b, .bool hf, .bool ht] 33) = w0 at *
  go_wp2_with fail
  refine (areCells_any n _).mono ?_; rintro e w' ⟨rfl, rfl⟩
  rw [HN.out]
  obtain ⟨⟨q0, q1, q2, q3, q4⟩, -⟩ := id hA.all5
  go_wp2_with fail
  refine (isSlice_any _ ⟨f, t, b, hf, ht⟩ _ rfl HK.out).mono ?_; rintro e w1 ⟨rfl, hb⟩
  rw [HS.out]
  have hA := hA.nx hb
  have hb0 := hb0.nx hb hb0.size
  clear hb q0 q1 q2 q3 q4
  obtain ⟨⟨q0, q1, q2, q3, q4⟩, -⟩ := id hA.all5
  go_wp2_with fail
  refine (indicesOf_any n _ ⟨f, t, b, hf, ht⟩ _ rfl hn HS.out).mono ?_; rintro e w2 ⟨r, rfl, ho, hb⟩
  go_wp2
  go_ret
  exact ⟨r, rfl, ho.mono hb0.size, hb0.nx hb hb0.size⟩

set_option maxRecDepth 100000 in
set_option maxHeartbeats 6400000 in
theorem ValidSlice_any (s : SL) (w : World) (hk : s.ok) :
    Calls Try.prog 28 #[s.val] w fun e w' => e = .returned (.bool (okSl s)) ∧ Below w.heap.size w w' := by
  have HK := hid hk
  obtain ⟨f, t, b, hf, ht⟩ := s
  simp only [SL.val]
  have hb0 := below_alloc w (.cells #[.int .i64 f, .int .i64 t, .int .i64 b, .bool hf, .bool ht] 33)
  have hA := Blk.new w 33 #[.int .i64 f, .int .i64 t, .int .i64 b, .bool hf, .bool ht]
  clear hk
  go_enter Try.func28, Try.ntmps28
  go_upto_region 1 with fail
  generalize w.alloc (.cells #[.int .i64 f, .int .i64 t, .int .i64 b, .bool hf, .bool ht] 33) = w0 at *
  obtain ⟨⟨q0, q1, q2, q3, q4⟩, -⟩ := id hA.all5
  go_wp2_with fail
  refine (isSlice_any _ ⟨f, t, b, hf, ht⟩ _ rfl HK.out).mono ?_; rintro e w1 ⟨rfl, hb⟩
  go_wp2
  go_ret
  exact ⟨rfl, hb0.nx hb hb0.size⟩

set_option maxRecDepth 100000 in
set_option maxHeartbeats 6400000 in
theorem takes_any (v iv : Value) (xs idx : List Int) (w : World) (h : Ints w v xs) (hi : Ints w iv idx) (hbd : ∀ i ∈ idx, 0 ≤ i ∧ i < xs.length) (hl : idx.length ≤ 1000000) :
    Calls Try.prog 27 #[v, iv] w (RetOwn w (takenL xs idx)) := by
  have HBD := hid hbd
  have H0 := hid h
  have HI0 := hid hi
  obtain ⟨A, c, rfl, h1, h2, -⟩ := h
  obtain ⟨A', c', rfl, h1', h2', -⟩ := hi
  unfold maxLen at h2 h2'
  clear hbd
  go_enter Try.func27, Try.ntmps27
  go_wp2_with fail
  go_loopg [5, 6] idx.length (fun m out i wr => ∃ k : Nat, k ≤ idx.length ∧ m = idx.length - k ∧ i = .int .i64 k ∧ Own wr w.heap.size out (takenL xs (idx.take k)) ∧ Below w.heap.size w wr)
  case atStart => exact ⟨0, Nat.zero_le _, rfl, rfl, Own.empty w rfl (Nat.le_refl _), below_alloc w _⟩
  case round =>
    obtain ⟨k, hk, hm, rfl, ho, hB⟩ := hrel
    have HM := hid hm
    have HO := hid ho
    obtain ⟨Ao, co, e⟩ := ho.form
    subst e
    have hsz := hB.size
    clear hm ho
    by_cases hlt : k < idx.length
    · have hki : (k : Int) < (idx.length : Int) := by omega
      obtain ⟨b1, off1, rfl, hx⟩ := (HI0.out.ext hB).elem k hlt
      have hbd := HBD.out idx[k] (List.getElem_mem hlt)
      obtain ⟨j, hj⟩ : ∃ j : Nat, idx[k] = j := ⟨(idx[k]).toNat, by omega⟩
      have hjl : j < xs.length := by omega
      obtain ⟨b2, off2, rfl, hy⟩ := (H0.out.ext hB).elem j hjl
      have HT := hid (show takenL xs (idx.take (k + 1)) = takenL xs (idx.take k) ++ [xs[j]] by rw [takenL_snoc xs idx k hlt, hj]; simp [hjl])
      have HL1 := hid (show (takenL xs (idx.take k)).length ≤ 1000000000000 by simp [takenL]; omega)
      rw [hj] at hx
      have hji : (j : Int) < (xs.length : Int) := by omega
      generalize (takenL xs (idx.take k)).length = tl at *
      generalize xs[j] = X at *
      clear hbd hj
      go_wp2_with (at_builtin; refine app1 _ rfl _ _ rfl w.heap.size _ (takenL xs (idx.take k)) rfl (HO.out.alloc _) ⟨wr.heap.size, 0, none⟩ 1 X rfl (cell_new1 _ _ _) (by simp [takenL]; omega) (le_alloc hsz _) ?_)
      intro v1 w1 ho1 hg1 hat1
      have hq := hB.trans (((below_alloc wr (.cells #[.int .i64 X] 3)).mono hsz).trans ((HO.out.alloc _).under hg1 (le_alloc hsz _)))
      clear hg1 hat1
      go_wp2
      go_roundg (idx.length - (k + 1))
      case measure => have := HM.out; omega
      case rel => exact ⟨k + 1, by omega, rfl, by go_num, by rw [HT.out]; exact ho1, hq⟩
    · have hki : ¬ (k : Int) < (idx.length : Int) := by omega
      have HE := hid (show takenL xs (idx.take k) = takenL xs idx by rw [List.take_of_length_le (by omega)])
      go_wp2
      go_ret
      exact ⟨_, rfl, by rw [← HE.out]; exact HO.out, hB⟩

end Go.Proofs.Ytldblcolnjkcaaa
