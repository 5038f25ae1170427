/- Contracts: the indices of a slice. No conditions. (printed by mky.py) -/
import Derived.Test.YtldblcolnjkcaaaY3
import Derived.Test.YtldblcolnjkcaaaHp
import Derived.Test.YtldblcolnjkcaaaGw
import Derived.StillTailTactics
namespace Go.Proofs.Ytldblcolnjkcaaa
open Go.RowKit

set_option maxRecDepth 100000 in
set_option maxHeartbeats 6400000 in
theorem indicesOf_any (n : Int) (v : Value) (s : SL) (w : World) (hv : v = s.val) (hn : 0 ≤ n ∧ n ≤ 60) (hok : okSl s = true) :
    Calls Try.prog 101 #[.int .i64 n, v] w (RetOwn w (idxL n s)) := by
  subst hv
  obtain ⟨f, t, b, hf, ht⟩ := s
  have hA := okSl_and hok
  simp only at hA
  obtain ⟨hbf, hbt, hbb, hb0⟩ := hA
  have HE := hid (ends_bd hn.1 ⟨f, t, b, hf, ht⟩)
  clear hok
  obtain ⟨F, hF⟩ : ∃ F, F = fromL n ⟨f, t, b, hf, ht⟩ := ⟨_, rfl⟩
  obtain ⟨G, hG⟩ : ∃ G, G = toL n ⟨f, t, b, hf, ht⟩ := ⟨_, rfl⟩
  have hFb : -1 ≤ F ∧ F ≤ 60 := by have := HE.out.1; rw [← hF] at this; split at this <;> omega
  have hGb : -1 ≤ G ∧ G ≤ 60 := by have := HE.out.2; rw [← hG] at this; split at this <;> omega
  have HI := hid (show idxL n ⟨f, t, b, hf, ht⟩ = numsR ⟨F, G, b⟩ by rw [hF, hG]; rfl)
  have hwn : IntKind.i64.wrap (n - 1) = n - 1 := IntWalk.i64_in _ (by omega)
  have HN : Hid (∀ (F' G' : Int), F' = F → G' = G → ∀ w' : World, Calls Try.prog 121 #[.agg #[.int .i64 F', .int .i64 G', .int .i64 b]] w' (RetOwn w' (idxL n ⟨f, t, b, hf, ht⟩))) := hid (by
    rintro F' G' eF eG w'
    rw [HI.out, eF, eG]
    exact numbersOf_any ⟨F, G, b⟩ w' (by show -1000 ≤ F ∧ F ≤ 1000; omega) (by show -1000 ≤ G ∧ G ≤ 1000; omega) hbb hb0)
  simp only [SL.val]
  have HEF := hid (fun w' => endOf_any n f b w' (by omega) (by omega))
  have HET := hid (fun w' => endOf_any n t b w' (by omega) (by omega))
  clear HE hwn
  by_cases hneg : b < 0
  · cases hf
    · cases ht
      · have eF : F = n - 1 := by rw [hF]; simp [fromL, hneg]
        have eG : G = -1 := by rw [hG]; simp [toL, hneg]
        clear hF hG
        have HF := hid eF
        have HG := hid eG
        clear eF eG
        go_enter Try.func101, Try.ntmps101
        go_wp2_with fail
        refine (HN.out _ _ HF.out.symm HG.out.symm _).mono ?_
        rintro e w2 ⟨r, rfl, ho, hb⟩
        go_wp2
        go_ret
        exact ⟨_, rfl, ho.mono (by simp <;> omega), Below.trans (((Below.refl w.heap.size w).alloc (Nat.le_refl _) _).alloc (by simp) _) (hb.mono (by simp <;> omega))⟩
      · have eF : F = n - 1 := by rw [hF]; simp [fromL, hneg]
        have eG : G = endL n t b := by rw [hG]; simp [toL]
        clear hF hG
        have HF := hid eF
        have HG := hid eG
        clear eF eG
        go_enter Try.func101, Try.ntmps101
        go_wp2_with fail
        refine (HET.out _).mono ?_; rintro e w' ⟨rfl, rfl⟩
        go_wp2_with fail
        refine (HN.out _ _ HF.out.symm HG.out.symm _).mono ?_
        rintro e w2 ⟨r, rfl, ho, hb⟩
        go_wp2
        go_ret
        exact ⟨_, rfl, ho.mono (by simp <;> omega), Below.trans (((Below.refl w.heap.size w).alloc (Nat.le_refl _) _).alloc (by simp) _) (hb.mono (by simp <;> omega))⟩
    · cases ht
      · have eF : F = endL n f b := by rw [hF]; simp [fromL]
        have eG : G = -1 := by rw [hG]; simp [toL, hneg]
        clear hF hG
        have HF := hid eF
        have HG := hid eG
        clear eF eG
        go_enter Try.func101, Try.ntmps101
        go_wp2_with fail
        refine (HEF.out _).mono ?_; rintro e w' ⟨rfl, rfl⟩
        go_wp2_with fail
        refine (HN.out _ _ HF.out.symm HG.out.symm _).mono ?_
        rintro e w2 ⟨r, rfl, ho, hb⟩
        go_wp2
        go_ret
        exact ⟨_, rfl, ho.mono (by simp <;> omega), Below.trans (((Below.refl w.heap.size w).alloc (Nat.le_refl _) _).alloc (by simp) _) (hb.mono (by simp <;> omega))⟩
      · have eF : F = endL n f b := by rw [hF]; simp [fromL]
        have eG : G = endL n t b := by rw [hG]; simp [toL]
        clear hF hG
        have HF := hid eF
        have HG := hid eG
        clear eF eG
        go_enter Try.func101, Try.ntmps101
        go_wp2_with fail
        refine (HEF.out _).mono ?_; rintro e w' ⟨rfl, rfl⟩
        go_wp2_with fail
        refine (HET.out _).mono ?_; rintro e w' ⟨rfl, rfl⟩
        go_wp2_with fail
        refine (HN.out _ _ HF.out.symm HG.out.symm _).mono ?_
        rintro e w2 ⟨r, rfl, ho, hb⟩
        go_wp2
        go_ret
        exact ⟨_, rfl, ho.mono (by simp <;> omega), Below.trans (((Below.refl w.heap.size w).alloc (Nat.le_refl _) _).alloc (by simp) _) (hb.mono (by simp <;> omega))⟩
  · cases hf
    · cases ht
      · have eF : F = 0 := by rw [hF]; simp [fromL, hneg]
        have eG : G = n := by rw [hG]; simp [toL, hneg]
        clear hF hG
        have HF := hid eF
        have HG := hid eG
        clear eF eG
        go_enter Try.func101, Try.ntmps101
        go_wp2_with fail
        refine (HN.out _ _ HF.out.symm HG.out.symm _).mono ?_
        rintro e w2 ⟨r, rfl, ho, hb⟩
        go_wp2
        go_ret
        exact ⟨_, rfl, ho.mono (by simp <;> omega), Below.trans (((Below.refl w.heap.size w).alloc (Nat.le_refl _) _).alloc (by simp) _) (hb.mono (by simp <;> omega))⟩
      · have eF : F = 0 := by rw [hF]; simp [fromL, hneg]
        have eG : G = endL n t b := by rw [hG]; simp [toL]
        clear hF hG
        have HF := hid eF
        have HG := hid eG
        clear eF eG
        go_enter Try.func101, Try.ntmps101
        go_wp2_with fail
        refine (HET.out _).mono ?_; rintro e w' ⟨rfl, rfl⟩
        go_wp2_with fail
        refine (HN.out _ _ HF.out.symm HG.out.symm _).mono ?_
        rintro e w2 ⟨r, rfl, ho, hb⟩
        go_wp2
        go_ret
        exact ⟨_, rfl, ho.mono (by simp <;> omega), Below.trans (((Below.refl w.heap.size w).alloc (Nat.le_refl _) _).alloc (by simp) _) (hb.mono (by simp <;> omega))⟩
    · cases ht
      · have eF : F = endL n f b := by rw [hF]; simp [fromL]
        have eG : G = n := by rw [hG]; simp [toL, hneg]
        clear hF hG
        have HF := hid eF
        have HG := hid eG
        clear eF eG
        go_enter Try.func101, Try.ntmps101
        go_wp2_with fail
        refine (HEF.out _).mono ?_; rintro e w' ⟨rfl, rfl⟩
        go_wp2_with fail
        refine (HN.out _ _ HF.out.symm HG.out.symm _).mono ?_
        rintro e w2 ⟨r, rfl, ho, hb⟩
        go_wp2
        go_ret
        exact ⟨_, rfl, ho.mono (by simp <;> omega), Below.trans (((Below.refl w.heap.size w).alloc (Nat.le_refl _) _).alloc (by simp) _) (hb.mono (by simp <;> omega))⟩
      · have eF : F = endL n f b := by rw [hF]; simp [fromL]
        have eG : G = endL n t b := by rw [hG]; simp [toL]
        clear hF hG
        have HF := hid eF
        have HG := hid eG
        clear eF eG
        go_enter Try.func101, Try.ntmps101
        go_wp2_with fail
        refine (HEF.out _).mono ?_; rintro e w' ⟨rfl, rfl⟩
        go_wp2_with fail
        refine (HET.out _).mono ?_; rintro e w' ⟨rfl, rfl⟩
        go_wp2_with fail
        refine (HN.out _ _ HF.out.symm HG.out.symm _).mono ?_
        rintro e w2 ⟨r, rfl, ho, hb⟩
        go_wp2
        go_ret
        exact ⟨_, rfl, ho.mono (by simp <;> omega), Below.trans (((Below.refl w.heap.size w).alloc (Nat.le_refl _) _).alloc (by simp) _) (hb.mono (by simp <;> omega))⟩

set_option maxRecDepth 100000 in
set_option maxHeartbeats 6400000 in
theorem indices_any (n : Int) (v : Value) (s : SL) (w : World) (hv : v = s.val) (hn : 0 ≤ n ∧ n ≤ 60) (hok : okSl s = true) :
    Calls Try.prog 106 #[.int .i64 n, v] w (RetOwn w (idxL n s)) := by
  subst hv
  obtain ⟨f, t, b, hf, ht⟩ := s
  have hA := okSl_and hok
  simp only at hA
  obtain ⟨hbf, hbt, hbb, hb0⟩ := hA
  have HE := hid (ends_bd hn.1 ⟨f, t, b, hf, ht⟩)
  clear hok
  obtain ⟨F, hF⟩ : ∃ F, F = fromL n ⟨f, t, b, hf, ht⟩ := ⟨_, rfl⟩
  obtain ⟨G, hG⟩ : ∃ G, G = toL n ⟨f, t, b, hf, ht⟩ := ⟨_, rfl⟩
  have hFb : -1 ≤ F ∧ F ≤ 60 := by have := HE.out.1; rw [← hF] at this; split at this <;> omega
  have hGb : -1 ≤ G ∧ G ≤ 60 := by have := HE.out.2; rw [← hG] at this; split at this <;> omega
  have HI := hid (show idxL n ⟨f, t, b, hf, ht⟩ = numsR ⟨F, G, b⟩ by rw [hF, hG]; rfl)
  have hwn : IntKind.i64.wrap (n - 1) = n - 1 := IntWalk.i64_in _ (by omega)
  have HN : Hid (∀ (F' G' : Int), F' = F → G' = G → ∀ w' : World, Calls Try.prog 123 #[.agg #[.int .i64 F', .int .i64 G', .int .i64 b]] w' (RetOwn w' (idxL n ⟨f, t, b, hf, ht⟩))) := hid (by
    rintro F' G' eF eG w'
    rw [HI.out, eF, eG]
    exact numbers_any ⟨F, G, b⟩ w' (by show -1000 ≤ F ∧ F ≤ 1000; omega) (by show -1000 ≤ G ∧ G ≤ 1000; omega) hbb hb0)
  simp only [SL.val]
  have HEF := hid (fun w' => bound_any n f b w' (by omega) (by omega))
  have HET := hid (fun w' => bound_any n t b w' (by omega) (by omega))
  clear HE hwn
  by_cases hneg : b < 0
  · cases hf
    · cases ht
      · have eF : F = n - 1 := by rw [hF]; simp [fromL, hneg]
        have eG : G = -1 := by rw [hG]; simp [toL, hneg]
        clear hF hG
        have HF := hid eF
        have HG := hid eG
        clear eF eG
        go_enter Try.func106, Try.ntmps106
        go_wp2_with fail
        refine (HN.out _ _ HF.out.symm HG.out.symm _).mono ?_
        rintro e w2 ⟨r, rfl, ho, hb⟩
        go_wp2
        go_ret
        exact ⟨_, rfl, ho.mono (by simp <;> omega), Below.trans ((Below.refl w.heap.size w).alloc (Nat.le_refl _) _) (hb.mono (by simp <;> omega))⟩
      · have eF : F = n - 1 := by rw [hF]; simp [fromL, hneg]
        have eG : G = endL n t b := by rw [hG]; simp [toL]
        clear hF hG
        have HF := hid eF
        have HG := hid eG
        clear eF eG
        go_enter Try.func106, Try.ntmps106
        go_wp2_with fail
        refine (HET.out _).mono ?_; rintro e w' ⟨rfl, rfl⟩
        go_wp2_with fail
        refine (HN.out _ _ HF.out.symm HG.out.symm _).mono ?_
        rintro e w2 ⟨r, rfl, ho, hb⟩
        go_wp2
        go_ret
        exact ⟨_, rfl, ho.mono (by simp <;> omega), Below.trans ((Below.refl w.heap.size w).alloc (Nat.le_refl _) _) (hb.mono (by simp <;> omega))⟩
    · cases ht
      · have eF : F = endL n f b := by rw [hF]; simp [fromL]
        have eG : G = -1 := by rw [hG]; simp [toL, hneg]
        clear hF hG
        have HF := hid eF
        have HG := hid eG
        clear eF eG
        go_enter Try.func106, Try.ntmps106
        go_wp2_with fail
        refine (HEF.out _).mono ?_; rintro e w' ⟨rfl, rfl⟩
        go_wp2_with fail
        refine (HN.out _ _ HF.out.symm HG.out.symm _).mono ?_
        rintro e w2 ⟨r, rfl, ho, hb⟩
        go_wp2
        go_ret
        exact ⟨_, rfl, ho.mono (by simp <;> omega), Below.trans ((Below.refl w.heap.size w).alloc (Nat.le_refl _) _) (hb.mono (by simp <;> omega))⟩
      · have eF : F = endL n f b := by rw [hF]; simp [fromL]
        have eG : G = endL n t b := by rw [hG]; simp [toL]
        clear hF hG
        have HF := hid eF
        have HG := hid eG
        clear eF eG
        go_enter Try.func106, Try.ntmps106
        go_wp2_with fail
        refine (HEF.out _).mono ?_; rintro e w' ⟨rfl, rfl⟩
        go_wp2_with fail
        refine (HET.out _).mono ?_; rintro e w' ⟨rfl, rfl⟩
        go_wp2_with fail
        refine (HN.out _ _ HF.out.symm HG.out.symm _).mono ?_
        rintro e w2 ⟨r, rfl, ho, hb⟩
        go_wp2
        go_ret
        exact ⟨_, rfl, ho.mono (by simp <;> omega), Below.trans ((Below.refl w.heap.size w).alloc (Nat.le_refl _) _) (hb.mono (by simp <;> omega))⟩
  · cases hf
    · cases ht
      · have eF : F = 0 := by rw [hF]; simp [fromL, hneg]
        have eG : G = n := by rw [hG]; simp [toL, hneg]
        clear hF hG
        have HF := hid eF
        have HG := hid eG
        clear eF eG
        go_enter Try.func106, Try.ntmps106
        go_wp2_with fail
        refine (HN.out _ _ HF.out.symm HG.out.symm _).mono ?_
        rintro e w2 ⟨r, rfl, ho, hb⟩
        go_wp2
        go_ret
        exact ⟨_, rfl, ho.mono (by simp <;> omega), Below.trans ((Below.refl w.heap.size w).alloc (Nat.le_refl _) _) (hb.mono (by simp <;> omega))⟩
      · have eF : F = 0 := by rw [hF]; simp [fromL, hneg]
        have eG : G = endL n t b := by rw [hG]; simp [toL]
        clear hF hG
        have HF := hid eF
        have HG := hid eG
        clear eF eG
        go_enter Try.func106, Try.ntmps106
        go_wp2_with fail
        refine (HET.out _).mono ?_; rintro e w' ⟨rfl, rfl⟩
        go_wp2_with fail
        refine (HN.out _ _ HF.out.symm HG.out.symm _).mono ?_
        rintro e w2 ⟨r, rfl, ho, hb⟩
        go_wp2
        go_ret
        exact ⟨_, rfl, ho.mono (by simp <;> omega), Below.trans ((Below.refl w.heap.size w).alloc (Nat.le_refl _) _) (hb.mono (by simp <;> omega))⟩
    · cases ht
      · have eF : F = endL n f b := by rw [hF]; simp [fromL]
        have eG : G = n := by rw [hG]; simp [toL, hneg]
        clear hF hG
        have HF := hid eF
        have HG := hid eG
        clear eF eG
        go_enter Try.func106, Try.ntmps106
        go_wp2_with fail
        refine (HEF.out _).mono ?_; rintro e w' ⟨rfl, rfl⟩
        go_wp2_with fail
        refine (HN.out _ _ HF.out.symm HG.out.symm _).mono ?_
        rintro e w2 ⟨r, rfl, ho, hb⟩
        go_wp2
        go_ret
        exact ⟨_, rfl, ho.mono (by simp <;> omega), Below.trans ((Below.refl w.heap.size w).alloc (Nat.le_refl _) _) (hb.mono (by simp <;> omega))⟩
      · have eF : F = endL n f b := by rw [hF]; simp [fromL]
        have eG : G = endL n t b := by rw [hG]; simp [toL]
        clear hF hG
        have HF := hid eF
        have HG := hid eG
        clear eF eG
        go_enter Try.func106, Try.ntmps106
        go_wp2_with fail
        refine (HEF.out _).mono ?_; rintro e w' ⟨rfl, rfl⟩
        go_wp2_with fail
        refine (HET.out _).mono ?_; rintro e w' ⟨rfl, rfl⟩
        go_wp2_with fail
        refine (HN.out _ _ HF.out.symm HG.out.symm _).mono ?_
        rintro e w2 ⟨r, rfl, ho, hb⟩
        go_wp2
        go_ret
        exact ⟨_, rfl, ho.mono (by simp <;> omega), Below.trans ((Below.refl w.heap.size w).alloc (Nat.le_refl _) _) (hb.mono (by simp <;> omega))⟩

end Go.Proofs.Ytldblcolnjkcaaa
