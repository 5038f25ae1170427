/- Contracts: valid views. No conditions. -/
import Derived.Test.YtldblcolnjkcaaaC3
import Derived.Outline
import Derived.Deep.RegionHeld3
namespace Go.Proofs.Ytldblcolnjkcaaa
open Go.RowKit

/-- The first index at which p holds, -1 if there is none. -/
def findI (p : Int → Bool) (xs : List Int) : Int := match xs.findIdx? p with | some i => i | none => -1
theorem findI_at {p : Int → Bool} {xs : List Int} {k : Nat} (h : k < xs.length) (h1 : (xs.take k).any p = false) (h2 : p xs[k] = true) : findI p xs = k := by
  have : xs.findIdx? p = some k := by
    rw [List.findIdx?_eq_some_iff_getElem]
    refine ⟨h, h2, fun j hj => ?_⟩
    rw [List.any_eq_false] at h1
    have := h1 (xs[j]'(by omega)) (by rw [List.mem_take_iff_getElem]; exact ⟨j, by omega, rfl⟩)
    simpa using this
  unfold findI; rw [this]
theorem findI_none {p : Int → Bool} {xs : List Int} (h1 : xs.any p = false) : findI p xs = -1 := by
  have : xs.findIdx? p = none := by
    rw [List.findIdx?_eq_none_iff]
    intro x hx
    rw [List.any_eq_false] at h1
    simpa using h1 x hx
  unfold findI; rw [this]
theorem findI_any (p : Int → Bool) (xs : List Int) : decide (0 ≤ findI p xs) = xs.any p := by
  cases h : xs.any p
  · rw [findI_none h]; rfl
  · rw [List.any_eq_true] at h
    obtain ⟨x, hx, hp⟩ := h
    unfold findI
    cases hf : xs.findIdx? p
    · rw [List.findIdx?_eq_none_iff] at hf
      have := hf x hx
      simp [hp] at this
    · simp
theorem any_snoc (p : Int → Bool) (xs : List Int) (k : Nat) (h : k < xs.length) (ha : (xs.take k).any p = false) : (xs.take (k + 1)).any p = p xs[k] := by
  rw [take_snocI xs k h, List.any_append, ha]; simp

set_option maxRecDepth 100000 in
set_option maxHeartbeats 400000 in
theorem IndexFunc_any (fn : Nat) (hcf : ∀ (ar : Array Value) (w : World), (callFunc fn ar).run Try.prog w = .ok (.enter fn ar) w) (p : Int → Bool) (hf : ∀ x w, Calls Try.prog fn #[.int .i64 x] w fun e w' => e = .returned (.bool (p x)) ∧ w = w') (v : Value) (xs : List Int) (w : World) (h : Ints w v xs) :
    Calls Try.prog 157 #[v, .func (Fn.func fn) #[] #[]] w fun e w' => e = .returned (.int .i64 (findI p xs)) ∧ w = w' := by
  have HF := hid hf; clear hf
  obtain ⟨A, c, rfl, h1, h2, h3⟩ := h
  unfold maxLen at h2
  go_enter Try.func157, Try.ntmps157
  go_wp2
  go_loop [8] (fun i => ∃ k : Nat, k ≤ xs.length ∧ i = .int .i64 k ∧ (xs.take k).any p = false) (fun i => xs.length - (intOf i).toNat)
  case atStart => exact ⟨0, Nat.zero_le _, rfl, rfl⟩
  case round =>
    obtain ⟨k, hk, rfl, ha⟩ := hrel
    by_cases hlt : k < xs.length
    · obtain ⟨b, off, rfl, hb, hc⟩ := h3 (by omega)
      have hx := hc k xs[k] (by simp [hlt])
      have HS := hid (any_snoc p xs k hlt ha)
      have HF1 := hid (fun hp => findI_at (p := p) (xs := xs) (k := k) hlt ha hp)
      clear hc h3 ha
      cases hp : p xs[k]
      · have HP := hid hp
        go_wp2_with fail
        refine (HF.out _ _).mono ?_; rintro e w' ⟨rfl, rfl⟩
        go_wp2
        go_round
        case rel => exact ⟨k + 1, by omega, by go_num, by rw [HS.out]; exact HP.out⟩
        case measure => simp [intOf]; omega
      · have HP := hid hp
        go_wp2_with fail
        refine (HF.out _ _).mono ?_; rintro e w' ⟨rfl, rfl⟩
        go_wp2
        go_ret
        exact ⟨ret_int (HF1.out HP.out).symm, rfl⟩
    · obtain rfl : k = xs.length := by omega
      rw [List.take_of_length_le (Nat.le_refl _)] at ha
      have HA := hid (findI_none ha); clear ha
      go_wp2
      go_ret
      exact ⟨ret_int HA.out.symm, rfl⟩

set_option maxHeartbeats 400000 in
theorem ContainsFunc_any (fn : Nat) (hcf : ∀ (ar : Array Value) (w : World), (callFunc fn ar).run Try.prog w = .ok (.enter fn ar) w) (p : Int → Bool) (hf : ∀ x w, Calls Try.prog fn #[.int .i64 x] w fun e w' => e = .returned (.bool (p x)) ∧ w = w') (v : Value) (xs : List Int) (w : World) (h : Ints w v xs) :
    Calls Try.prog 124 #[v, .func (Fn.func fn) #[] #[]] w fun e w' => e = .returned (.bool (xs.any p)) ∧ w = w' := by
  have HF := hid hf; clear hf
  have HA := hid (findI_any p xs)
  go_enter Try.func124, Try.ntmps124
  go_wp2_with fail
  refine (IndexFunc_any fn hcf p HF.out _ xs _ h).mono ?_; rintro e w' ⟨rfl, rfl⟩
  go_wp2
  go_ret
  exact ⟨ret_bool HA.out, rfl⟩

theorem cf_isView1 (ar : Array Value) (w : World) : (callFunc 154 ar).run Try.prog w = .ok (.enter 154 ar) w := by kernel_rfl
theorem isView1_eq (x : Int) : (decide (x < 0) || decide (60 ≤ x)) = !inR x 0 59 := by
  rw [Bool.eq_iff_iff]; simp [inR]; omega
set_option maxHeartbeats 400000 in
theorem isView1_any (x : Int) (w : World) :
    Calls Try.prog 154 #[.int .i64 x] w fun e w' => e = .returned (.bool (!inR x 0 59)) ∧ w = w' := by
  by_cases h1 : 0 ≤ x
  · have H := hid (isView1_eq x)
    go_enter Try.func154, Try.ntmps154
    go_wp2
    go_ret
    exact ⟨ret_bool H.out, rfl⟩
  · have H := hid (inR_no (n := x) (lo := 0) (hi := 59) (by omega))
    go_enter Try.func154, Try.ntmps154
    go_wp2
    go_ret
    exact ⟨ret_bool (by rw [H.out]; rfl), rfl⟩

theorem isViewL_shape {V : VL} (h : isShapeL V.shape = false) : isViewL V = false := by simp [isViewL, h]
theorem isViewL_len {V : VL} (h : V.strides.length ≠ V.shape.length) : isViewL V = false := by simp [isViewL, h]
theorem isViewL_str {V : VL} (h : V.strides.all (inR · (-60) 60) = false) : isViewL V = false := by simp [isViewL, h]
theorem isViewL_base {V : VL} (h : inR V.base 0 60 = false) : isViewL V = false := by simp [isViewL, h]
theorem isViewL_rest {V : VL} (h1 : isShapeL V.shape = true) (h2 : V.strides.length = V.shape.length) (h3 : V.strides.all (inR · (-60) 60) = true) (h4 : inR V.base 0 60 = true) : isViewL V = (offs V).all (inR · 0 59) := by
  simp [isViewL, h1, h2, h3, h4]
theorem any_not_all (xs : List Int) (p : Int → Bool) : (!xs.any fun x => !p x) = xs.all p := by
  induction xs with
  | nil => rfl
  | cons x xs ih => simp only [List.any_cons, List.all_cons, ← ih]; cases p x <;> simp

set_option maxHeartbeats 800000 in
theorem isView_any (v : Value) (V : VL) (w : World) (hv : ViewV w v V) :
    Calls Try.prog 113 #[v] w fun e w' => e = .returned (.bool (isViewL V)) ∧ Below w.heap.size w w' := by
  have hv0 := hv
  obtain ⟨sv, tv, rfl, hsv, htv⟩ := hv
  have hv1 := hv0.ext (below_alloc w (.cells #[.int .i64 V.base, sv, tv] 43))
  have hs1 := hsv.ext (below_alloc w (.cells #[.int .i64 V.base, sv, tv] 43))
  obtain ⟨A', n', hn', hk', hm', hr'⟩ := htv.ext (below_alloc w (.cells #[.int .i64 V.base, sv, tv] 43))
  obtain ⟨A, n, hn, hk, hm, -⟩ := id hsv
  subst hn hn'
  unfold maxLen at hm hm'
  cases c1 : isShapeL V.shape
  · have HQ := hid (isViewL_shape c1)
    clear hr'
    go_enter Try.func113, Try.ntmps113
    go_wp2_with (go_at_call 90; refine (isShape_any _ V.shape _ hs1).mono ?_; rintro e w' ⟨rfl, rfl⟩)
    go_ret
    exact ⟨ret_bool HQ.out.symm, below_alloc _ _⟩
  by_cases c2 : V.strides.length ≠ V.shape.length
  · have HQ := hid (isViewL_len c2)
    clear hr'
    go_enter Try.func113, Try.ntmps113
    go_wp2_with (go_at_call 90; refine (isShape_any _ V.shape _ hs1).mono ?_; rintro e w' ⟨rfl, rfl⟩)
    go_ret
    exact ⟨ret_bool HQ.out.symm, below_alloc _ _⟩
  have l1 : V.strides.length ≤ V.shape.length := by omega
  have l2 : V.shape.length ≤ V.strides.length := by omega
  have C2 := hid (show V.strides.length = V.shape.length by omega)
  clear c2
  cases c4 : inR V.base 0 60
  · have HQ := hid (isViewL_base c4)
    have C4 := hid (show V.base < 0 ∨ 60 < V.base by
      rcases Decidable.em (0 ≤ V.base) with h | h
      · rcases Decidable.em (V.base ≤ 60) with h' | h'
        · rw [inR_yes h h'] at c4; cases c4
        · omega
      · omega)
    clear hr' c4
    rcases C4.out with c4 | c4
    · clear C4
      go_enter Try.func113, Try.ntmps113
      go_wp2_with (go_at_call 90; refine (isShape_any _ V.shape _ hs1).mono ?_; rintro e w' ⟨rfl, rfl⟩)
      go_ret
      exact ⟨ret_bool HQ.out.symm, below_alloc _ _⟩
    · clear C4
      have c4' : 0 ≤ V.base := by omega
      go_enter Try.func113, Try.ntmps113
      go_wp2_with (go_at_call 90; refine (isShape_any _ V.shape _ hs1).mono ?_; rintro e w' ⟨rfl, rfl⟩)
      go_ret
      exact ⟨ret_bool HQ.out.symm, below_alloc _ _⟩
  have c5 := (inR_iff.1 c4).1
  have c6 := (inR_iff.1 c4).2
  have HR := hid (fun h3 => isViewL_rest c1 C2.out h3 c4)
  have HN := hid (any_not_all (offs V) (inR · 0 59))
  have HF := hid (fun h3 => isViewL_str (V := V) h3)
  have C1 := hid c1
  clear c4
  go_enter Try.func113, Try.ntmps113
  go_wp2_with (go_at_call 90; refine (isShape_any _ V.shape _ hs1).mono ?_; rintro e w' ⟨rfl, rfl⟩)
  go_loop [31] (fun i => ∃ k : Nat, k ≤ V.strides.length ∧ i = .int .i64 k ∧ (V.strides.take k).all (inR · (-60) 60) = true) (fun i => V.strides.length - (intOf i).toNat)
  case atStart => exact ⟨0, Nat.zero_le _, rfl, rfl⟩
  case round =>
    obtain ⟨k, hk, rfl, ha⟩ := hrel
    by_cases hlt : k < V.strides.length
    · obtain ⟨b, off, rfl, hb, hc⟩ := hr' (by omega)
      have hx := hc k V.strides[k] (by simp [hlt])
      have HS := hid (all_snoc (inR · (-60) 60) V.strides k hlt ha)
      have HG := hid (all_false (inR · (-60) 60) V.strides k hlt)
      clear hc hr' ha
      by_cases hp1 : -60 ≤ V.strides[k]
      · by_cases hp2 : V.strides[k] ≤ 60
        · go_wp2
          go_round
          case rel => exact ⟨k + 1, by omega, by go_num, by rw [HS.out]; exact inR_yes hp1 hp2⟩
          case measure => simp [intOf]; omega
        · have HZ := hid (HF.out (HG.out (inR_no (by omega))))
          go_wp2
          go_ret
          exact ⟨ret_bool HZ.out.symm, below_alloc _ _⟩
      · have HZ := hid (HF.out (HG.out (inR_no (by omega))))
        go_wp2
        go_ret
        exact ⟨ret_bool HZ.out.symm, below_alloc _ _⟩
    · rw [List.take_of_length_le (by omega)] at ha
      have HZ := hid (HR.out ha)
      clear ha hr'
      go_wp2_with fail
      refine (offsetsOf_any _ V _ hv1 C1.out C2.out.symm).mono ?_; rintro e w1 ⟨ov, rfl, hov, hb1⟩
      go_wp2_with fail
      refine (ContainsFunc_any 154 cf_isView1 (fun x => !inR x 0 59) isView1_any _ (offs V) _ hov.ints).mono ?_; rintro e w' ⟨rfl, rfl⟩
      go_wp2
      go_ret
      exact ⟨ret_bool (HN.out.trans HZ.out.symm), (below_alloc w _).trans (hb1.mono (by simp))⟩

end Go.Proofs.Ytldblcolnjkcaaa
