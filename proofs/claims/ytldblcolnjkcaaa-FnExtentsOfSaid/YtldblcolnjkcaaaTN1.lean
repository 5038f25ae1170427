/- Contracts: valid tensors. No conditions. -/
import Derived.Test.YtldblcolnjkcaaaT0
import Derived.Test.YtldblcolnjkcaaaGw
import Derived.Test.YtldblcolnjkcaaaGF
import Derived.Test.YtldblcolnjkcaaaC4
import Derived.Test.YtldblcolnjkcaaaS1
import Derived.Test.YtldblcolnjkcaaaSR
import Derived.Deep.Cut
import Derived.Deep.LoopGhost
namespace Go.Proofs.Ytldblcolnjkcaaa
open Go.RowKit

def isEntry (x : Int) : Bool := inR x (-1000000) 1000000
def isTensorL (T : TL) : Bool := isShapeL T.shape && decide ((T.values.length : Int) = prodW T.shape) && T.values.all isEntry
theorem isTensorL_shape {T : TL} (h : isShapeL T.shape = false) : isTensorL T = false := by simp [isTensorL, h]
theorem isTensorL_len {T : TL} (h : (T.values.length : Int) ≠ prodW T.shape) : isTensorL T = false := by simp [isTensorL, h]
theorem isTensorL_rest {T : TL} (h1 : isShapeL T.shape = true) (h2 : (T.values.length : Int) = prodW T.shape) : isTensorL T = T.values.all isEntry := by simp [isTensorL, h1, h2]
theorem isTensorL_and {T : TL} (h : isTensorL T = true) : isShapeL T.shape = true ∧ (T.values.length : Int) = prodW T.shape ∧ ∀ x ∈ T.values, -1000000 ≤ x ∧ x ≤ 1000000 := by
  simp only [isTensorL, Bool.and_eq_true, decide_eq_true_eq, List.all_eq_true, isEntry, inR] at h
  exact ⟨h.1.1, h.1.2, h.2⟩
theorem entry_eq (x : Int) : (decide (x < -1000000) || decide (1000000 < x)) = !isEntry x := by
  rw [Bool.eq_iff_iff]; simp [isEntry, inR]
  try omega

set_option maxRecDepth 100000 in
set_option maxHeartbeats 800000 in
theorem isTensor1_any (x : Int) (w : World) :
    Calls Try.prog 164 #[.int .i64 x] w fun e w' => e = .returned (.bool (!isEntry x)) ∧ w = w' := by
  by_cases h1 : x < -1000000
  · have H := hid (show isEntry x = false by simp [isEntry, inR]; omega)
    go_enter Try.func164, Try.ntmps164
    go_wp2
    go_ret
    exact ⟨ret_bool (by rw [H.out]; rfl), rfl⟩
  · have H := hid (entry_eq x)
    have h2 : decide (x < -1000000) = false := by simp; omega
    go_enter Try.func164, Try.ntmps164
    go_wp2
    go_ret
    exact ⟨ret_bool (by rw [← H.out, h2]; rfl), rfl⟩
theorem cf_isTensor1 (ar : Array Value) (w : World) : (callFunc 164 ar).run Try.prog w = .ok (.enter 164 ar) w := by kernel_rfl

set_option maxRecDepth 100000 in
set_option maxHeartbeats 6400000 in
theorem isTensor_any (v : Value) (T : TL) (w : World) (hv : TensorV w v T) :
    Calls Try.prog 139 #[v] w fun e w' => e = .returned (.bool (isTensorL T)) ∧ Below w.heap.size w w' := by
  obtain ⟨sv, tv, rfl, hs, ht⟩ := hv
  obtain ⟨As, cs, es⟩ := hs.form
  obtain ⟨At, ct, et⟩ := ht.form
  subst es et
  have hb0 := below_alloc w (.cells #[.slice As T.shape.length cs, .slice At T.values.length ct] 75)
  have hZ := Blk.new w 75 #[.slice As T.shape.length cs, .slice At T.values.length ct]
  have hs := hs.nx hb0
  have ht := ht.nx hb0
  cases c1 : isShapeL T.shape
  · have HQ := hid (isTensorL_shape c1)
    go_enter Try.func139, Try.ntmps139
    go_upto_region 1 with fail
    generalize w.alloc (.cells #[.slice As T.shape.length cs, .slice At T.values.length ct] 75) = w0 at *
    have qA := fun x : ExtW w0 => (x.at_ hZ).all2.1
    have HS : ∀ x : ExtW w0, Calls Try.prog 90 #[.slice As T.shape.length cs] x.v fun e w' => e = .returned (.bool false) ∧ Below x.v.heap.size x.v w' := fun x => (isShape_any _ T.shape x.v (hs.nx x.h)).mono fun _ _ h => ⟨by rw [h.1, c1], h.2 ▸ Below.refl _ _⟩
    have HS := hid HS
    clear c1
    refine region_mk 13 (by kernel_rfl) (by kernel_rfl) ?_
    apply Exists.intro
    simp only [List.take_succ_cons, List.take_zero, List.drop_succ_cons, List.drop_zero]
    repeat (first
      | (apply grow_val (by rfl); (focus (intro x; (go_simp; try with_reducible rfl); done)); simp only [Act.put, List.setIfInBounds_toArray, List.set_cons_zero, List.set_cons_succ])
      | (apply grow_skip (by rfl); simp only [Act.put, List.setIfInBounds_toArray, List.set_cons_zero, List.set_cons_succ])
      | (apply grow_call (by rfl); (focus (intro x K Q hK; go_simp; (first | (go_at_call 90; (with_reducible refine (HS.out x).mono ?_); rintro e w' ⟨rfl, hb⟩; exact hK _ hb)); done)); simp only [Act.put, List.setIfInBounds_toArray, List.set_cons_zero, List.set_cons_succ]))
    refine grow_nil ?_
    rintro ⟨w1, hb1⟩ - -
    have hb1 : Below w0.heap.size w0 w1 := hb1
    clear qA
    go_wp2
    go_ret
    exact ⟨ret_bool HQ.out.symm, hb0.nx hb1 hb0.size⟩
  obtain ⟨m, hm⟩ : ∃ m : Nat, prodW T.shape = (m : Int) := ⟨(prodW T.shape).toNat, by have := shape_prod c1; omega⟩
  have HM := hid hm
  have HS : ∀ w0, Ints w0 (.slice As T.shape.length cs) T.shape → Calls Try.prog 90 #[.slice As T.shape.length cs] w0 fun e w' => e = .returned (.bool true) ∧ Below w0.heap.size w0 w' := fun w0 hs => (isShape_any _ T.shape w0 hs).mono fun _ _ h => ⟨by rw [h.1, c1], h.2 ▸ Below.refl _ _⟩
  have HS := hid HS
  have HC : ∀ w0, Ints w0 (.slice As T.shape.length cs) T.shape → Calls Try.prog 96 #[.slice As T.shape.length cs] w0 fun e w' => e = .returned (.int .i64 (m : Int)) ∧ Below w0.heap.size w0 w' := fun w0 hs => (countOf_any _ T.shape w0 hs).mono fun _ _ h => ⟨by rw [h.1, hm], h.2 ▸ Below.refl _ _⟩
  have HC := hid HC
  have H1 := hid c1
  by_cases c2 : T.values.length = m
  case neg =>
    have HQ := hid (isTensorL_len (T := T) (by rw [hm]; omega))
    have hne : (((T.values.length : Nat) : Int) != (m : Int)) = true := by simp; omega
    clear c1 hm c2
    go_enter Try.func139, Try.ntmps139
    go_upto_region 1 with fail
    generalize w.alloc (.cells #[.slice As T.shape.length cs, .slice At T.values.length ct] 75) = w0 at *
    have qA := fun x : ExtW w0 => (x.at_ hZ).all2.1
    refine region_mk 13 (by kernel_rfl) (by kernel_rfl) ?_
    apply Exists.intro
    simp only [List.take_succ_cons, List.take_zero, List.drop_succ_cons, List.drop_zero]
    repeat (first
      | (apply grow_val (by rfl); (focus (intro x; (go_simp; try with_reducible rfl); done)); simp only [Act.put, List.setIfInBounds_toArray, List.set_cons_zero, List.set_cons_succ])
      | (apply grow_skip (by rfl); simp only [Act.put, List.setIfInBounds_toArray, List.set_cons_zero, List.set_cons_succ])
      | (apply grow_call (by rfl); (focus (intro x K Q hK; go_simp; (first | (go_at_call 90; (with_reducible refine (HS.out _ (hs.nx x.h)).mono ?_); rintro e w' ⟨rfl, hb⟩; exact hK _ hb) | (go_at_call 96; (with_reducible refine (HC.out _ (hs.nx x.h)).mono ?_); rintro e w' ⟨rfl, hb⟩; exact hK _ hb)); done)); simp only [Act.put, List.setIfInBounds_toArray, List.set_cons_zero, List.set_cons_succ]))
    refine grow_nil ?_
    rintro ⟨w1, hb1⟩ - -
    have hb1 : Below w0.heap.size w0 w1 := hb1
    clear qA
    go_wp2
    go_ret
    exact ⟨ret_bool HQ.out.symm, hb0.nx hb1 hb0.size⟩
  have HQ := hid (isTensorL_rest c1 (by rw [hm, c2]))
  have HN := hid (any_not_all T.values isEntry)
  have hne : (((T.values.length : Nat) : Int) != (m : Int)) = false := by simp; omega
  clear c1 hm c2
  go_enter Try.func139, Try.ntmps139
  go_upto_region 1 with fail
  generalize w.alloc (.cells #[.slice As T.shape.length cs, .slice At T.values.length ct] 75) = w0 at *
  have qA := fun x : ExtW w0 => (x.at_ hZ).all2.1
  refine region_mk 13 (by kernel_rfl) (by kernel_rfl) ?_
  apply Exists.intro
  simp only [List.take_succ_cons, List.take_zero, List.drop_succ_cons, List.drop_zero]
  repeat (first
    | (apply grow_val (by rfl); (focus (intro x; (go_simp; try with_reducible rfl); done)); simp only [Act.put, List.setIfInBounds_toArray, List.set_cons_zero, List.set_cons_succ])
    | (apply grow_skip (by rfl); simp only [Act.put, List.setIfInBounds_toArray, List.set_cons_zero, List.set_cons_succ])
    | (apply grow_call (by rfl); (focus (intro x K Q hK; go_simp; (first | (go_at_call 90; (with_reducible refine (HS.out _ (hs.nx x.h)).mono ?_); rintro e w' ⟨rfl, hb⟩; exact hK _ hb) | (go_at_call 96; (with_reducible refine (HC.out _ (hs.nx x.h)).mono ?_); rintro e w' ⟨rfl, hb⟩; exact hK _ hb)); done)); simp only [Act.put, List.setIfInBounds_toArray, List.set_cons_zero, List.set_cons_succ]))
  refine grow_nil ?_
  rintro ⟨w1, hb1⟩ - -
  have hb1 : Below w0.heap.size w0 w1 := hb1
  have ht := ht.nx hb1
  obtain ⟨⟨q1, q2⟩, -⟩ := (Blk.ext hZ hb1 hZ.lt).all2
  have hb := hb0.nx hb1 hb0.size
  clear qA
  go_wp2_with fail
  refine (ContainsFunc_any 164 cf_isTensor1 (fun x => !isEntry x) isTensor1_any _ T.values _ ht).mono ?_; rintro e w' ⟨rfl, rfl⟩
  go_wp2
  go_ret
  exact ⟨ret_bool (HN.out.trans HQ.out.symm), hb⟩

set_option maxRecDepth 100000 in
set_option maxHeartbeats 6400000 in
theorem ValidTensor_any (v : Value) (T : TL) (w : World) (hv : TensorV w v T) :
    Calls Try.prog 80 #[v] w fun e w' => e = .returned (.bool (isTensorL T)) ∧ Below w.heap.size w w' := by
  have h0 := hv
  obtain ⟨sv, tv, rfl, hs, ht⟩ := hv
  have hb0 := below_alloc w (.cells #[sv, tv] 75)
  have hZ := Blk.new w 75 #[sv, tv]
  go_enter Try.func80, Try.ntmps80
  go_upto_region 1 with fail
  generalize w.alloc (.cells #[sv, tv] 75) = w0 at *
  obtain ⟨⟨q0, q1⟩, -⟩ := id hZ.all2
  go_wp2_with fail
  refine (isTensor_any _ T _ (TensorV.ext h0 hb0)).mono ?_; rintro e w1 ⟨rfl, hb⟩
  go_wp2
  go_ret
  exact ⟨rfl, hb0.nx hb hb0.size⟩

set_option maxRecDepth 100000 in
set_option maxHeartbeats 6400000 in
theorem validTensor_any (v : Value) (T : TL) (w : World) (hv : TensorV w v T) :
    Calls Try.prog 135 #[v] w fun e w' => e = .returned (.bool (isTensorL T)) ∧ Below w.heap.size w w' := by
  obtain ⟨sv, tv, rfl, hs, ht⟩ := hv
  obtain ⟨As, cs, es⟩ := hs.form
  obtain ⟨At, ct, et⟩ := ht.form
  subst es et
  have hb0 := below_alloc w (.cells #[.slice As T.shape.length cs, .slice At T.values.length ct] 75)
  have hZ := Blk.new w 75 #[.slice As T.shape.length cs, .slice At T.values.length ct]
  have hs := hs.nx hb0
  have ht := ht.nx hb0
  cases c1 : isShapeL T.shape
  · have HQ := hid (isTensorL_shape c1)
    go_enter Try.func135, Try.ntmps135
    go_upto_region 1 with fail
    generalize w.alloc (.cells #[.slice As T.shape.length cs, .slice At T.values.length ct] 75) = w0 at *
    have qA := fun x : ExtW w0 => (x.at_ hZ).all2.1
    have HS : ∀ x : ExtW w0, Calls Try.prog 92 #[.slice As T.shape.length cs] x.v fun e w' => e = .returned (.bool false) ∧ Below x.v.heap.size x.v w' := fun x => (validShape_any _ T.shape x.v (hs.nx x.h)).mono fun _ _ h => ⟨by rw [h.1, c1], h.2 ▸ Below.refl _ _⟩
    have HS := hid HS
    clear c1
    refine region_mk 17 (by kernel_rfl) (by kernel_rfl) ?_
    apply Exists.intro
    simp only [List.take_succ_cons, List.take_zero, List.drop_succ_cons, List.drop_zero]
    repeat (first
      | (apply grow_val (by rfl); (focus (intro x; (go_simp; try with_reducible rfl); done)); simp only [Act.put, List.setIfInBounds_toArray, List.set_cons_zero, List.set_cons_succ])
      | (apply grow_skip (by rfl); simp only [Act.put, List.setIfInBounds_toArray, List.set_cons_zero, List.set_cons_succ])
      | (apply grow_call (by rfl); (focus (intro x K Q hK; go_simp; (first | (go_at_call 92; (with_reducible refine (HS.out x).mono ?_); rintro e w' ⟨rfl, hb⟩; exact hK _ hb)); done)); simp only [Act.put, List.setIfInBounds_toArray, List.set_cons_zero, List.set_cons_succ]))
    refine grow_nil ?_
    rintro ⟨w1, hb1⟩ - -
    have hb1 : Below w0.heap.size w0 w1 := hb1
    clear qA
    go_wp2
    go_ret
    exact ⟨ret_bool HQ.out.symm, hb0.nx hb1 hb0.size⟩
  obtain ⟨m, hm⟩ : ∃ m : Nat, prodW T.shape = (m : Int) := ⟨(prodW T.shape).toNat, by have := shape_prod c1; omega⟩
  have HS : ∀ w0, Ints w0 (.slice As T.shape.length cs) T.shape → Calls Try.prog 92 #[.slice As T.shape.length cs] w0 fun e w' => e = .returned (.bool true) ∧ Below w0.heap.size w0 w' := fun w0 hs => (validShape_any _ T.shape w0 hs).mono fun _ _ h => ⟨by rw [h.1, c1], h.2 ▸ Below.refl _ _⟩
  have HS := hid HS
  have HC : ∀ w0, Ints w0 (.slice As T.shape.length cs) T.shape → Calls Try.prog 110 #[.slice As T.shape.length cs] w0 fun e w' => e = .returned (.int .i64 (m : Int)) ∧ Below w0.heap.size w0 w' := fun w0 hs => (count_any _ T.shape w0 hs).mono fun _ _ h => ⟨by rw [h.1, hm], h.2 ▸ Below.refl _ _⟩
  have HC := hid HC
  by_cases c2 : T.values.length = m
  case neg =>
    have HQ := hid (isTensorL_len (T := T) (by rw [hm]; omega))
    have hne : (((T.values.length : Nat) : Int) == (m : Int)) = false := by simp; omega
    clear c1 hm c2
    go_enter Try.func135, Try.ntmps135
    go_upto_region 1 with fail
    generalize w.alloc (.cells #[.slice As T.shape.length cs, .slice At T.values.length ct] 75) = w0 at *
    have qA := fun x : ExtW w0 => (x.at_ hZ).all2.1
    refine region_mk 17 (by kernel_rfl) (by kernel_rfl) ?_
    apply Exists.intro
    simp only [List.take_succ_cons, List.take_zero, List.drop_succ_cons, List.drop_zero]
    repeat (first
      | (apply grow_val (by rfl); (focus (intro x; (go_simp; try with_reducible rfl); done)); simp only [Act.put, List.setIfInBounds_toArray, List.set_cons_zero, List.set_cons_succ])
      | (apply grow_skip (by rfl); simp only [Act.put, List.setIfInBounds_toArray, List.set_cons_zero, List.set_cons_succ])
      | (apply grow_call (by rfl); (focus (intro x K Q hK; go_simp; (first | (go_at_call 92; (with_reducible refine (HS.out _ (hs.nx x.h)).mono ?_); rintro e w' ⟨rfl, hb⟩; exact hK _ hb) | (go_at_call 110; (with_reducible refine (HC.out _ (hs.nx x.h)).mono ?_); rintro e w' ⟨rfl, hb⟩; exact hK _ hb)); done)); simp only [Act.put, List.setIfInBounds_toArray, List.set_cons_zero, List.set_cons_succ]))
    refine grow_nil ?_
    rintro ⟨w1, hb1⟩ - -
    have hb1 : Below w0.heap.size w0 w1 := hb1
    clear qA
    go_wp2
    go_ret
    exact ⟨ret_bool HQ.out.symm, hb0.nx hb1 hb0.size⟩
  have HQ := hid (isTensorL_rest c1 (by rw [hm, c2]))
  have hne : (((T.values.length : Nat) : Int) == (m : Int)) = true := by simp; omega
  have HA : ∀ w0, Ints w0 (.slice At T.values.length ct) T.values → Calls Try.prog 151 #[.slice At T.values.length ct, .int .i64 (-1000000), .int .i64 1000000] w0 fun e w' => e = .returned (.bool (isTensorL T)) ∧ Below w0.heap.size w0 w' := fun w0 ht => (allIn_any _ T.values _ _ w0 ht).mono fun _ _ h => ⟨h.1.trans (ret_bool HQ.out.symm), h.2 ▸ Below.refl _ _⟩
  have HA := hid HA
  clear c1 hm c2
  go_enter Try.func135, Try.ntmps135
  go_upto_region 1 with fail
  generalize w.alloc (.cells #[.slice As T.shape.length cs, .slice At T.values.length ct] 75) = w0 at *
  have qA := fun x : ExtW w0 => (x.at_ hZ).all2.1
  refine region_mk 17 (by kernel_rfl) (by kernel_rfl) ?_
  apply Exists.intro
  simp only [List.take_succ_cons, List.take_zero, List.drop_succ_cons, List.drop_zero]
  repeat (first
    | (apply grow_val (by rfl); (focus (intro x; (go_simp; try with_reducible rfl); done)); simp only [Act.put, List.setIfInBounds_toArray, List.set_cons_zero, List.set_cons_succ])
    | (apply grow_skip (by rfl); simp only [Act.put, List.setIfInBounds_toArray, List.set_cons_zero, List.set_cons_succ])
    | (apply grow_call (by rfl); (focus (intro x K Q hK; go_simp; (first | (go_at_call 92; (with_reducible refine (HS.out _ (hs.nx x.h)).mono ?_); rintro e w' ⟨rfl, hb⟩; exact hK _ hb) | (go_at_call 110; (with_reducible refine (HC.out _ (hs.nx x.h)).mono ?_); rintro e w' ⟨rfl, hb⟩; exact hK _ hb) | (go_at_call 151; (with_reducible refine (HA.out _ (ht.nx x.h)).mono ?_); rintro e w' ⟨rfl, hb⟩; exact hK _ hb)); done)); simp only [Act.put, List.setIfInBounds_toArray, List.set_cons_zero, List.set_cons_succ]))
  refine grow_nil ?_
  rintro ⟨w1, hb1⟩ - -
  have hb1 : Below w0.heap.size w0 w1 := hb1
  clear qA
  go_wp2
  go_ret
  exact ⟨rfl, hb0.nx hb1 hb0.size⟩

end Go.Proofs.Ytldblcolnjkcaaa
