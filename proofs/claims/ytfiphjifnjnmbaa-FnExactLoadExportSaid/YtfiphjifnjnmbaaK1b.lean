/- Contracts: memories, and views that fit in them. No conditions. -/
import Derived.Test.YtfiphjifnjnmbaaC4
import Derived.Test.YtfiphjifnjnmbaaS2
import Derived.Outline
namespace Go.Proofs.Ytfiphjifnjnmbaa
open Go.RowKit
set_option maxHeartbeats 400000 in
theorem isValue_any (x : Int) (w : World) :
    Calls Try.prog 94 #[.int .i64 x] w fun e w' => e = .returned (.bool (inR x 0 255)) ∧ w = w' := by
  by_cases h1 : 0 ≤ x
  · by_cases h2 : x ≤ 255
    · have H := hid (inR_yes h1 h2)
      go_enter Try.func94, Try.ntmps94
      go_wp2
      go_ret
      exact ⟨ret_bool H.out.symm, rfl⟩
    · have H := hid (inR_no (n := x) (lo := 0) (hi := 255) (by omega))
      have h3 : decide (x ≤ 255) = false := by simp; omega
      go_enter Try.func94, Try.ntmps94
      go_wp2
      go_ret
      exact ⟨ret_bool H.out.symm, rfl⟩
  · have H := hid (inR_no (n := x) (lo := 0) (hi := 255) (by omega))
    go_enter Try.func94, Try.ntmps94
    go_wp2
    go_ret
    exact ⟨ret_bool H.out.symm, rfl⟩
set_option maxHeartbeats 400000 in
theorem isMemory1_any (x : Int) (w : World) :
    Calls Try.prog 93 #[.int .i64 x] w fun e w' => e = .returned (.bool (!inR x 0 255)) ∧ w = w' := by
  go_enter Try.func93, Try.ntmps93
  go_wp2_with fail
  refine (isValue_any _ _).mono ?_; rintro e w' ⟨rfl, rfl⟩
  go_wp2
  go_ret
  exact ⟨rfl, rfl⟩
theorem cf_isMemory1 (ar : Array Value) (w : World) : (callFunc 93 ar).run Try.prog w = .ok (.enter 93 ar) w := by kernel_rfl

set_option maxHeartbeats 400000 in
theorem isMemory_any (v : Value) (xs : List Int) (w : World) (h : Ints w v xs) :
    Calls Try.prog 76 #[v] w fun e w' => e = .returned (.bool (isMemL xs)) ∧ w = w' := by
  have h0 := h
  obtain ⟨A, c, rfl, hk, hm, -⟩ := h
  unfold maxLen at hm
  have HN := hid (any_not_all xs (inR · 0 255))
  by_cases hl : xs.length ≤ 60
  · have HQ := hid (show isMemL xs = xs.all (inR · 0 255) by simp [isMemL, hl])
    go_enter Try.func76, Try.ntmps76
    go_wp2_with fail
    refine (ContainsFunc_any 93 cf_isMemory1 (fun x => !inR x 0 255) isMemory1_any _ xs _ h0).mono ?_; rintro e w' ⟨rfl, rfl⟩
    go_wp2
    go_ret
    exact ⟨ret_bool (HN.out.trans HQ.out.symm), rfl⟩
  · have HQ := hid (show isMemL xs = false by simp [isMemL, hl])
    go_enter Try.func76, Try.ntmps76
    go_wp2
    go_ret
    exact ⟨ret_bool HQ.out.symm, rfl⟩

set_option maxHeartbeats 400000 in
theorem fitsIn1_any (x n : Int) (g : Nat) (w : World) (hc : w.cell? ⟨g, 0, none⟩ = some (.int .i64 n)) :
    Calls Try.prog 96 #[.int .i64 x, .pointer (some ⟨g, 0, none⟩)] w fun e w' => e = .returned (.bool (decide (n ≤ x))) ∧ w = w' := by
  go_enter Try.func96, Try.ntmps96
  go_wp2
  go_ret
  exact ⟨rfl, rfl⟩
theorem cf_fitsIn1 (ar : Array Value) (w : World) : (callFunc 96 ar).run Try.prog w = .ok (.enter 96 ar) w := by kernel_rfl

set_option maxRecDepth 100000 in
set_option maxHeartbeats 400000 in
theorem IndexFuncP_any (fn g : Nat) (hcf : ∀ (ar : Array Value) (w : World), (callFunc fn ar).run Try.prog w = .ok (.enter fn ar) w) (p : Int → Bool) (v : Value) (xs : List Int) (w : World)
    (hf : ∀ x, Calls Try.prog fn #[.int .i64 x, .pointer (some ⟨g, 0, none⟩)] w fun e w' => e = .returned (.bool (p x)) ∧ w = w') (h : Ints w v xs) :
    Calls Try.prog 80 #[v, .func (Fn.func fn) #[] #[.pointer (some ⟨g, 0, none⟩)]] w fun e w' => e = .returned (.int .i64 (findI p xs)) ∧ w = w' := by
  have HF := hid hf; clear hf
  obtain ⟨A, c, rfl, h1, h2, h3⟩ := h
  unfold maxLen at h2
  go_enter Try.func80, Try.ntmps80
  go_wp2
  go_loop [8] (fun i => ∃ k : Nat, k ≤ xs.length ∧ i = .int .i64 k ∧ (xs.take k).any p = false) (fun i => xs.length - (intOf i).toNat)
  case atStart => exact ⟨0, Nat.zero_le _, rfl, rfl⟩
  case round =>
    obtain ⟨k, hk, rfl, ha⟩ := hrel
    by_cases hlt : k < xs.length
    · obtain ⟨b, off, rfl, hb, hc⟩ := h3 (by omega)
      have hx := hc k xs[k] (by simp [hlt])
      have HS := hid (any_snoc p xs k hlt ha)
      have HF1 := hid (fun hp => findI_at (p := p) (xs := xs) (k := k) hlt ha hp)
      clear hc h3 ha
      cases hp : p xs[k]
      · have HP := hid hp
        go_wp2_with fail
        refine (HF.out _).mono ?_; rintro e w' ⟨rfl, rfl⟩
        go_wp2
        go_round
        case rel => exact ⟨k + 1, by omega, by go_num, by rw [HS.out]; exact HP.out⟩
        case measure => simp [intOf]; omega
      · have HP := hid hp
        go_wp2_with fail
        refine (HF.out _).mono ?_; rintro e w' ⟨rfl, rfl⟩
        go_wp2
        go_ret
        exact ⟨ret_int (HF1.out HP.out).symm, rfl⟩
    · obtain rfl : k = xs.length := by omega
      rw [List.take_of_length_le (Nat.le_refl _)] at ha
      have HA := hid (findI_none ha); clear ha
      go_wp2
      go_ret
      exact ⟨ret_int HA.out.symm, rfl⟩

set_option maxHeartbeats 400000 in
theorem ContainsFuncP_any (fn g : Nat) (hcf : ∀ (ar : Array Value) (w : World), (callFunc fn ar).run Try.prog w = .ok (.enter fn ar) w) (p : Int → Bool) (v : Value) (xs : List Int) (w : World)
    (hf : ∀ x, Calls Try.prog fn #[.int .i64 x, .pointer (some ⟨g, 0, none⟩)] w fun e w' => e = .returned (.bool (p x)) ∧ w = w') (h : Ints w v xs) :
    Calls Try.prog 60 #[v, .func (Fn.func fn) #[] #[.pointer (some ⟨g, 0, none⟩)]] w fun e w' => e = .returned (.bool (xs.any p)) ∧ w = w' := by
  have HF := hid hf; clear hf
  have HA := hid (findI_any p xs)
  go_enter Try.func60, Try.ntmps60
  go_wp2_with fail
  refine (IndexFuncP_any fn g hcf p _ xs _ HF.out h).mono ?_; rintro e w' ⟨rfl, rfl⟩
  go_wp2
  go_ret
  exact ⟨ret_bool HA.out, rfl⟩

/-- Behind a valid view all cells are at least 0, so one bound is enough. -/
theorem fits_iff {V : VL} (h : isViewL V = true) (n : Int) : (!(offs V).any fun x => decide (n ≤ x)) = fitsL V n := by
  have ha := (isViewL_and h).2.2.2.2
  rw [List.all_eq_true] at ha
  unfold fitsL
  rw [Bool.eq_iff_iff]
  simp only [Bool.not_eq_true', List.any_eq_false, List.all_eq_true, decide_eq_true_eq]
  constructor
  · intro h1 x hx
    have h2 := h1 x hx
    have h3 := (inR_iff.1 (ha x hx)).1
    exact inR_yes h3 (by omega)
  · intro h1 x hx
    have := (inR_iff.1 (h1 x hx)).2
    omega

set_option maxRecDepth 100000 in
set_option maxHeartbeats 400000 in
theorem fitsIn_any (v : Value) (V : VL) (n : Int) (w : World) (hv : ViewV w v V) (hok : isViewL V = true) :
    Calls Try.prog 78 #[v, .int .i64 n] w fun e w' => e = .returned (.bool (fitsL V n)) ∧ Below w.heap.size w w' := by
  have hv0 := hv
  obtain ⟨sv, tv, rfl, hsv, htv⟩ := hv
  have HV := hid (isViewL_and hok)
  have HQ := hid (fits_iff hok n)
  have hW : Below w.heap.size w ((w.alloc (.cells #[.int .i64 V.base, sv, tv] 68)).alloc (.cells #[.int .i64 n] 3)) := ((Below.refl _ _).alloc (Nat.le_refl _) _).alloc (by simp) _
  have hC := Blk.new (w.alloc (.cells #[.int .i64 V.base, sv, tv] 68)) 3 #[.int .i64 n]
  simp only [World.size_alloc] at hC
  go_enter Try.func78, Try.ntmps78
  go_wp2_with fail
  refine (offsetsOf_any _ V _ (hv0.ext hW) HV.out.1 HV.out.2.1).mono ?_; rintro e w1 ⟨r, rfl, ho, hb⟩
  have hc := (hC.ext hb (by simp)).cell 0
  go_wp2_with fail
  refine (ContainsFuncP_any 96 (w.heap.size + 1) cf_fitsIn1 (fun x => decide (n ≤ x)) _ (offs V) _ (fun x => fitsIn1_any x n _ _ hc) ho.ints).mono ?_; rintro e w' ⟨rfl, rfl⟩
  go_wp2
  go_ret
  exact ⟨ret_bool HQ.out, bstep hW hb hW.size⟩

set_option maxHeartbeats 400000 in
theorem validMemory_any (v : Value) (xs : List Int) (w : World) (h : Ints w v xs) :
    Calls Try.prog 70 #[v] w fun e w' => e = .returned (.bool (isMemL xs)) ∧ w = w' := by
  have h0 := h
  obtain ⟨A, c, rfl, hk, hm, -⟩ := h
  unfold maxLen at hm
  by_cases hl : xs.length ≤ 60
  · have HQ := hid (show isMemL xs = xs.all (inR · 0 255) by simp [isMemL, hl])
    go_enter Try.func70, Try.ntmps70
    go_wp2_with fail
    refine (allIn_any _ xs _ _ _ h0).mono ?_; rintro e w' ⟨rfl, rfl⟩
    go_wp2
    go_ret
    exact ⟨ret_bool HQ.out.symm, rfl⟩
  · have HQ := hid (show isMemL xs = false by simp [isMemL, hl])
    go_enter Try.func70, Try.ntmps70
    go_wp2
    go_ret
    exact ⟨ret_bool HQ.out.symm, rfl⟩

set_option maxHeartbeats 400000 in
theorem fits_any (v : Value) (V : VL) (n : Nat) (w : World) (hv : ViewV w v V) (hok : isViewL V = true) (hn : n ≤ 9223372036854775807) :
    Calls Try.prog 87 #[v, .int .i64 n] w fun e w' => e = .returned (.bool (fitsL V n)) ∧ Below w.heap.size w w' := by
  have hv0 := hv
  obtain ⟨sv, tv, rfl, hsv, htv⟩ := hv
  have HV := hid (isViewL_and hok)
  have hW := below_alloc w (.cells #[.int .i64 V.base, sv, tv] 68)
  go_enter Try.func87, Try.ntmps87
  go_wp2_with fail
  refine (offsets_any _ V _ (hv0.ext hW) HV.out.1 HV.out.2.1).mono ?_; rintro e w1 ⟨r, rfl, ho, hb⟩
  go_wp2_with fail
  refine (allIn_any _ (offs V) _ _ _ ho.ints).mono ?_; rintro e w' ⟨rfl, rfl⟩
  go_wp2
  go_ret
  exact ⟨rfl, bstep hW hb hW.size⟩


end Go.Proofs.Ytfiphjifnjnmbaa
