/- The contracts of the reference's list of views that hold a cell. No conditions. -/
import Derived.Test.YtldblcolnjkcaaaRV
import Derived.Test.YtldblcolnjkcaaaS2
import Derived.Test.YtldblcolnjkcaaaE1a
import Derived.Test.YtldblcolnjkcaaaC4
import Derived.Deep.Cut
import Derived.Deep.LoopGhost
namespace Go.Proofs.Ytldblcolnjkcaaa
open Go.RowKit

set_option maxRecDepth 100000 in
set_option maxHeartbeats 6400000 in
theorem validViews_any (v : Value) (xs : List VL) (w : World) (h : ViewsV w v xs) :
    Calls Try.prog 128 #[v] w fun e w' => e = .returned (.bool (viewsOk xs)) ∧ Below w.heap.size w w' := by
  obtain ⟨A, c, rfl, hk, hm⟩ := h.form
  go_enter Try.func128, Try.ntmps128
  go_wp2_with fail
  go_loopg [3] xs.length (fun g i wr => ∃ k : Nat, k ≤ xs.length ∧ g = xs.length - k ∧ i = .int .i64 k ∧ Hid ((xs.take k).all isViewL = true) ∧ Below w.heap.size w wr)
  case atStart => exact ⟨0, Nat.zero_le _, rfl, rfl, hid (by simp), Below.refl _ _⟩
  case round =>
    obtain ⟨k, hk1, rfl, rfl, HA, hb⟩ := hrel
    by_cases hlt : k < xs.length
    · obtain ⟨b, off, u1, u2, rfl, x0, x1, x2, hV⟩ := (h.ext hb).at_ k hlt
      have hki : (k : Int) < (xs.length : Int) := by omega
      have HS := hid (allT_snoc isViewL xs k hlt HA.out)
      have HF := hid (fun hp => allT_false isViewL xs k hlt hp)
      clear HA
      go_wp2_with fail
      refine (validView_any _ xs[k] _ hV).mono ?_; rintro e w1 ⟨rfl, hb1⟩
      have hq := hb.nx hb1 hb.size
      clear hV x0 x1 x2 hb1
      cases hp : isViewL xs[k]
      · have HQ := hid (show viewsOk xs = false by unfold viewsOk; rw [HF.out hp]; rfl)
        clear hp
        go_wp2
        go_ret
        exact ⟨ret_bool HQ.out.symm, hq⟩
      · rw [hp] at HS
        clear hp
        go_wp2
        go_roundg (xs.length - (k + 1))
        case measure => omega
        case rel => exact ⟨k + 1, by omega, rfl, by go_num, HS, hq⟩
    · obtain rfl : xs.length = k := by omega
      rw [List.take_of_length_le (Nat.le_refl _)] at HA
      have HQ := hid (show viewsOk xs = decide (xs.length ≤ 8) by unfold viewsOk; rw [HA.out]; simp)
      by_cases h8 : xs.length ≤ 8
      · have h8i : (xs.length : Int) ≤ 8 := by omega
        have HR := hid (show viewsOk xs = true by rw [HQ.out]; simp [h8])
        go_wp2
        go_ret
        exact ⟨ret_bool HR.out.symm, hb⟩
      · have h8i : ¬ (xs.length : Int) ≤ 8 := by omega
        have HR := hid (show viewsOk xs = false by rw [HQ.out]; simp [h8])
        go_wp2
        go_ret
        exact ⟨ret_bool HR.out.symm, hb⟩

/-- The views, of the first k, that hold a cell. -/
def hasX (x : Int) (V : VL) : Bool := (offs V).any (· == x)
def heldTo (xs : List VL) (x : Int) : Nat → List Int
  | 0 => []
  | k + 1 => heldTo xs x k ++ (if (xs[k]?.map (hasX x)).getD false then [(k : Int)] else [])
def holdersL (xs : List VL) (x : Int) : List Int := if viewsOk xs then heldTo xs x xs.length else []
theorem heldTo_yes {xs : List VL} {x : Int} {k : Nat} (hk : k < xs.length) (h : hasX x xs[k] = true) : heldTo xs x (k + 1) = heldTo xs x k ++ [(k : Int)] := by simp [heldTo, hk, h]
theorem heldTo_no {xs : List VL} {x : Int} {k : Nat} (hk : k < xs.length) (h : hasX x xs[k] = false) : heldTo xs x (k + 1) = heldTo xs x k := by simp [heldTo, hk, h]
theorem heldTo_len (xs : List VL) (x : Int) (k : Nat) : (heldTo xs x k).length ≤ k := by
  induction k with
  | zero => simp [heldTo]
  | succ k ih => simp only [heldTo, List.length_append]; split <;> simp <;> omega
theorem viewsOk_at {xs : List VL} (h : viewsOk xs = true) (k : Nat) (hk : k < xs.length) : isViewL xs[k] = true ∧ xs.length ≤ 8 := by
  simp only [viewsOk, Bool.and_eq_true, decide_eq_true_eq] at h
  exact ⟨List.all_eq_true.1 h.1 _ (List.getElem_mem hk), h.2⟩
theorem viewsOk_len {xs : List VL} (h : viewsOk xs = true) : xs.length ≤ 8 := by
  simp only [viewsOk, Bool.and_eq_true, decide_eq_true_eq] at h
  exact h.2

set_option maxRecDepth 100000 in
set_option maxHeartbeats 6400000 in
theorem sHoldersOf_any (v : Value) (xs : List VL) (x : Int) (w : World) (h : ViewsV w v xs) :
    Calls Try.prog 52 #[v, .int .i64 x] w (RetOwn w (holdersL xs x)) := by
  obtain ⟨A, c, rfl, hk, hm⟩ := h.form
  cases hok : viewsOk xs
  · have HQ := hid (show holdersL xs x = [] by simp [holdersL, hok])
    go_enter Try.func52, Try.ntmps52
    go_wp2_with fail
    refine (validViews_any _ xs _ h).mono ?_; rintro e w1 ⟨rfl, hb⟩
    rw [hok]
    go_wp2
    go_ret
    exact ⟨_, rfl, by rw [HQ.out]; exact Own.nil _ _, hb⟩
  have HQ := hid (show holdersL xs x = heldTo xs x xs.length by simp [holdersL, hok])
  have HVA := hid (fun k (hk : k < xs.length) => isViewL_and (viewsOk_at hok k hk).1)
  have h8 := viewsOk_len hok
  go_enter Try.func52, Try.ntmps52
  go_wp2_with fail
  refine (validViews_any _ xs _ h).mono ?_; rintro e w1 ⟨rfl, hb⟩
  rw [hok]
  clear hok
  have hz := hb.size
  have HE := hid (Own.empty w1 (B := w.heap.size) rfl hz)
  have HB2 := hid (hb.trans ((below_alloc w1 (.cells #[] 3)).mono hz))
  go_wp2_with fail
  go_loopg [5, 6] xs.length (fun g out i wr => ∃ k : Nat, k ≤ xs.length ∧ g = xs.length - k ∧ i = .int .i64 k ∧ Own wr w.heap.size out (heldTo xs x k) ∧ Below w.heap.size w wr)
  case atStart => exact ⟨0, Nat.zero_le _, rfl, rfl, HE.out, HB2.out⟩
  case round =>
    obtain ⟨k, hk1, rfl, rfl, hown, hb2⟩ := hrel
    clear HE HB2
    have HO := hid hown
    obtain ⟨A1, c1, e1⟩ := hown.form
    subst e1
    clear hown
    by_cases hlt : k < xs.length
    · obtain ⟨b, off, u1, u2, rfl, x0, x1, x2, hV⟩ := (h.ext hb2).at_ k hlt
      have hki : (k : Int) < (xs.length : Int) := by omega
      obtain ⟨hv1, hv2, -⟩ := HVA.out k hlt
      have HHV := hid hv1
      have HHL := hid hv2
      have HY := hid (fun hp => heldTo_yes (x := x) hlt hp)
      have HN := hid (fun hp => heldTo_no (x := x) hlt hp)
      have HLN := hid (show (heldTo xs x k).length ≤ 1000000000000 by have := heldTo_len xs x k; omega)
      have hz2 := hb2.size
      clear hv1 hv2
      have HV1 := hid hV
      have HO1 := HO
      have HB1 := hid hb2
      go_wp2_with fail
      refine (offsets_any _ xs[k] _ HV1.out HHV.out HHL.out).mono ?_; rintro e w2 ⟨r, rfl, ho, hb3⟩
      have hq := HB1.out.nx hb3 HB1.out.size
      have HO2 := hid (HO1.out.nx hb3)
      obtain ⟨A3, c3, rfl⟩ := ho.form
      clear HB1 HO1 HV1 hV x0 x1 x2 hb3 
      go_wp2_with fail
      refine (placeIn_any _ _ x _ ho.ints).mono ?_; rintro e w' ⟨rfl, rfl⟩
      clear ho
      have hsz := hq.size
      cases hp : hasX x xs[k]
      · have HP := hid (HN.out hp)
        have hp0 : ¬ (0 : Int) ≤ findI (· == x) (offs xs[k]) := by have := findI_any (· == x) (offs xs[k]); rw [show (offs xs[k]).any (· == x) = false from hp] at this; simpa using this
        clear hp
        go_wp2
        go_roundg (xs.length - (k + 1))
        case measure => omega
        case rel => exact ⟨k + 1, by omega, rfl, by go_num, by rw [HP.out]; exact HO2.out, hq⟩
      · have HP := hid (HY.out hp)
        have hp0 : (0 : Int) ≤ findI (· == x) (offs xs[k]) := by have := findI_any (· == x) (offs xs[k]); rw [show (offs xs[k]).any (· == x) = true from hp] at this; simpa using this
        clear hp
        go_wp2_with (at_builtin; refine app1 _ rfl _ _ rfl w.heap.size _ (heldTo xs x k) rfl (HO2.out.alloc _) ⟨w2.heap.size, 0, none⟩ 1 k rfl (cell_new1 _ _ _) HLN.out (le_alloc hsz _) ?_)
        intro v1 w3 ho1 hg1 hat1
        have hq := hq.trans (((below_alloc w2 (.cells #[.int .i64 (k : Int)] 3)).mono hsz).trans ((HO2.out.alloc _).under hg1 (le_alloc hsz _)))
        clear hg1 hat1
        go_wp2
        go_roundg (xs.length - (k + 1))
        case measure => omega
        case rel => exact ⟨k + 1, by omega, rfl, by go_num, by rw [HP.out]; exact ho1, hq⟩
    · obtain rfl : xs.length = k := by omega
      go_wp2
      go_ret
      exact ⟨_, rfl, by rw [HQ.out]; exact HO.out, hb2⟩

end Go.Proofs.Ytldblcolnjkcaaa
