/- Contracts: valid views. No conditions. -/
import Derived.Test.YtmoejdnodhmglaaDoorC3va
import Derived.Outline
import Derived.Deep.RegionHeld3
namespace Go.Proofs.YtmoejdnodhmglaaDoor
open Go.RowKit

/-- The first index at which p holds, -1 if there is none. -/
def findI (p : Int → Bool) (xs : List Int) : Int := match xs.findIdx? p with | some i => i | none => -1
theorem findI_at {p : Int → Bool} {xs : List Int} {k : Nat} (h : k < xs.length) (h1 : (xs.take k).any p = false) (h2 : p xs[k] = true) : findI p xs = k := by
  have : xs.findIdx? p = some k := by
    rw [List.findIdx?_eq_some_iff_getElem]
    refine ⟨h, h2, fun j hj => ?_⟩
    rw [List.any_eq_false] at h1
    have := h1 (xs[j]'(by omega)) (by rw [List.mem_take_iff_getElem]; exact ⟨j, by omega, rfl⟩)
    simpa using this
  unfold findI; rw [this]
theorem findI_none {p : Int → Bool} {xs : List Int} (h1 : xs.any p = false) : findI p xs = -1 := by
  have : xs.findIdx? p = none := by
    rw [List.findIdx?_eq_none_iff]
    intro x hx
    rw [List.any_eq_false] at h1
    simpa using h1 x hx
  unfold findI; rw [this]
theorem findI_any (p : Int → Bool) (xs : List Int) : decide (0 ≤ findI p xs) = xs.any p := by
  cases h : xs.any p
  · rw [findI_none h]; rfl
  · rw [List.any_eq_true] at h
    obtain ⟨x, hx, hp⟩ := h
    unfold findI
    cases hf : xs.findIdx? p
    · rw [List.findIdx?_eq_none_iff] at hf
      have := hf x hx
      simp [hp] at this
    · simp
theorem any_snoc (p : Int → Bool) (xs : List Int) (k : Nat) (h : k < xs.length) (ha : (xs.take k).any p = false) : (xs.take (k + 1)).any p = p xs[k] := by
  rw [take_snocI xs k h, List.any_append, ha]; simp

set_option maxRecDepth 100000 in
set_option maxHeartbeats 400000 in
theorem IndexFunc_any (fn : Nat) (hcf : ∀ (ar : Array Value) (w : World), (callFunc fn ar).run Tryd.prog w = .ok (.enter fn ar) w) (p : Int → Bool) (hf : ∀ x w, Calls Tryd.prog fn #[.int .i64 x] w fun e w' => e = .returned (.bool (p x)) ∧ w = w') (v : Value) (xs : List Int) (w : World) (h : Ints w v xs) :
    Calls Tryd.prog 24 #[v, .func (Fn.func fn) #[] #[]] w fun e w' => e = .returned (.int .i64 (findI p xs)) ∧ w = w' := by
  have HF := hid hf; clear hf
  obtain ⟨A, c, rfl, h1, h2, h3⟩ := h
  unfold maxLen at h2
  go_enter Tryd.func24, Tryd.ntmps24
  go_wp2
  go_loop [8] (fun i => ∃ k : Nat, k ≤ xs.length ∧ i = .int .i64 k ∧ (xs.take k).any p = false) (fun i => xs.length - (intOf i).toNat)
  case atStart => exact ⟨0, Nat.zero_le _, rfl, rfl⟩
  case round =>
    obtain ⟨k, hk, rfl, ha⟩ := hrel
    by_cases hlt : k < xs.length
    · obtain ⟨b, off, rfl, hb, hc⟩ := h3 (by omega)
      have hx := hc k xs[k] (by simp [hlt])
      have HS := hid (any_snoc p xs k hlt ha)
      have HF1 := hid (fun hp => findI_at (p := p) (xs := xs) (k := k) hlt ha hp)
      clear hc h3 ha
      cases hp : p xs[k]
      · have HP := hid hp
        go_wp2_with fail
        refine (HF.out _ _).mono ?_; rintro e w' ⟨rfl, rfl⟩
        go_wp2
        go_round
        case rel => exact ⟨k + 1, by omega, by go_num, by rw [HS.out]; exact HP.out⟩
        case measure => simp [intOf]; omega
      · have HP := hid hp
        go_wp2_with fail
        refine (HF.out _ _).mono ?_; rintro e w' ⟨rfl, rfl⟩
        go_wp2
        go_ret
        exact ⟨ret_int (HF1.out HP.out).symm, rfl⟩
    · obtain rfl : k = xs.length := by omega
      rw [List.take_of_length_le (Nat.le_refl _)] at ha
      have HA := hid (findI_none ha); clear ha
      go_wp2
      go_ret
      exact ⟨ret_int HA.out.symm, rfl⟩

set_option maxHeartbeats 400000 in
theorem ContainsFunc_any (fn : Nat) (hcf : ∀ (ar : Array Value) (w : World), (callFunc fn ar).run Tryd.prog w = .ok (.enter fn ar) w) (p : Int → Bool) (hf : ∀ x w, Calls Tryd.prog fn #[.int .i64 x] w fun e w' => e = .returned (.bool (p x)) ∧ w = w') (v : Value) (xs : List Int) (w : World) (h : Ints w v xs) :
    Calls Tryd.prog 21 #[v, .func (Fn.func fn) #[] #[]] w fun e w' => e = .returned (.bool (xs.any p)) ∧ w = w' := by
  have HF := hid hf; clear hf
  have HA := hid (findI_any p xs)
  go_enter Tryd.func21, Tryd.ntmps21
  go_wp2_with fail
  refine (IndexFunc_any fn hcf p HF.out _ xs _ h).mono ?_; rintro e w' ⟨rfl, rfl⟩
  go_wp2
  go_ret
  exact ⟨ret_bool HA.out, rfl⟩

theorem isView1_eq (x : Int) : (decide (x < 0) || decide (60 ≤ x)) = !inR x 0 59 := by
  rw [Bool.eq_iff_iff]; simp [inR]; omega
theorem isViewL_shape {V : VL} (h : isShapeL V.shape = false) : isViewL V = false := by simp [isViewL, h]
theorem isViewL_len {V : VL} (h : V.strides.length ≠ V.shape.length) : isViewL V = false := by simp [isViewL, h]
theorem isViewL_str {V : VL} (h : V.strides.all (inR · (-60) 60) = false) : isViewL V = false := by simp [isViewL, h]
theorem isViewL_base {V : VL} (h : inR V.base 0 60 = false) : isViewL V = false := by simp [isViewL, h]
theorem isViewL_rest {V : VL} (h1 : isShapeL V.shape = true) (h2 : V.strides.length = V.shape.length) (h3 : V.strides.all (inR · (-60) 60) = true) (h4 : inR V.base 0 60 = true) : isViewL V = (offs V).all (inR · 0 59) := by
  simp [isViewL, h1, h2, h3, h4]
theorem any_not_all (xs : List Int) (p : Int → Bool) : (!xs.any fun x => !p x) = xs.all p := by
  induction xs with
  | nil => rfl
  | cons x xs ih => simp only [List.any_cons, List.all_cons, ← ih]; cases p x <;> simp

end Go.Proofs.YtmoejdnodhmglaaDoor
