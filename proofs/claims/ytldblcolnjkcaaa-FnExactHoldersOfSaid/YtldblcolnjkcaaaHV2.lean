/- The contract of the implementation's list of views that hold a cell. No conditions. -/
import Derived.Test.YtldblcolnjkcaaaHV1
namespace Go.Proofs.Ytldblcolnjkcaaa
open Go.RowKit

theorem hasX_eq (x : Int) (V : VL) : hasX x V = (offs V).contains x := by
  rw [List.contains_eq_any_beq]
  unfold hasX
  congr 1
  funext y
  rw [Bool.eq_iff_iff]
  simp only [beq_iff_eq]
  exact eq_comm

set_option maxRecDepth 100000 in
set_option maxHeartbeats 6400000 in
theorem areViews1_any (v : Value) (V : VL) (w : World) (h : ViewV w v V) :
    Calls Try.prog 162 #[v] w fun e w' => e = .returned (.bool (!isViewL V)) ∧ Below w.heap.size w w' := by
  have h0 := h
  obtain ⟨s1, t1, rfl, hs1, ht1⟩ := h
  have hb0 := below_alloc w (.cells #[.int .i64 V.base, s1, t1] 43)
  have hZ := Blk.new w 43 #[.int .i64 V.base, s1, t1]
  go_enter Try.func162, Try.ntmps162
  go_upto_region 1 with fail
  generalize w.alloc (.cells #[.int .i64 V.base, s1, t1] 43) = w0 at *
  obtain ⟨⟨q0, q1, q2⟩, -⟩ := id hZ.all3
  go_wp2_with fail
  refine (isView_any _ V _ (h0.nx hb0)).mono ?_; rintro e w1 ⟨rfl, hb⟩
  go_wp2
  go_ret
  exact ⟨rfl, hb0.nx hb hb0.size⟩

set_option maxRecDepth 100000 in
set_option maxHeartbeats 6400000 in
theorem IndexViews_any (v : Value) (xs : List VL) (w : World) (h : ViewsV w v xs) :
    Calls Try.prog 176 #[v, .func (Fn.func 162) #[] #[]] w fun e w' => (∃ n : Int, e = .returned (.int .i64 n) ∧ Hid (decide (0 ≤ n) = !xs.all isViewL)) ∧ Below w.heap.size w w' := by
  obtain ⟨A, c, rfl, hk, hm⟩ := h.form
  go_enter Try.func176, Try.ntmps176
  go_wp2_with fail
  go_loopg [8] xs.length (fun g i wr => ∃ k : Nat, k ≤ xs.length ∧ g = xs.length - k ∧ i = .int .i64 k ∧ Hid ((xs.take k).all isViewL = true) ∧ Below w.heap.size w wr)
  case atStart => exact ⟨0, Nat.zero_le _, rfl, rfl, hid (by simp), Below.refl _ _⟩
  case round =>
    obtain ⟨k, hk1, rfl, rfl, HA, hb⟩ := hrel
    by_cases hlt : k < xs.length
    · obtain ⟨b, off, u1, u2, rfl, x0, x1, x2, hV⟩ := (h.ext hb).at_ k hlt
      have hki : (k : Int) < (xs.length : Int) := by omega
      have HS := hid (allT_snoc isViewL xs k hlt HA.out)
      have HF := hid (fun hp => allT_false isViewL xs k hlt hp)
      clear HA
      go_wp2_with fail
      refine (areViews1_any _ xs[k] _ hV).mono ?_; rintro e w1 ⟨rfl, hb1⟩
      have hq := hb.nx hb1 hb.size
      clear hV x0 x1 x2 hb1
      cases hp : isViewL xs[k]
      · have HQ := hid (show decide ((0 : Int) ≤ (k : Int)) = !xs.all isViewL by rw [HF.out hp]; simp)
        clear hp
        go_wp2
        go_ret
        exact ⟨⟨_, rfl, HQ⟩, hq⟩
      · rw [hp] at HS
        clear hp
        go_wp2
        go_roundg (xs.length - (k + 1))
        case measure => omega
        case rel => exact ⟨k + 1, by omega, rfl, by go_num, HS, hq⟩
    · obtain rfl : xs.length = k := by omega
      rw [List.take_of_length_le (Nat.le_refl _)] at HA
      have HQ := hid (show decide ((0 : Int) ≤ -1) = !xs.all isViewL by rw [HA.out]; rfl)
      clear HA
      go_wp2
      go_ret
      exact ⟨⟨_, rfl, HQ⟩, hb⟩

set_option maxRecDepth 100000 in
set_option maxHeartbeats 6400000 in
theorem ContainsViews_any (v : Value) (xs : List VL) (w : World) (h : ViewsV w v xs) :
    Calls Try.prog 161 #[v, .func (Fn.func 162) #[] #[]] w fun e w' => e = .returned (.bool (!xs.all isViewL)) ∧ Below w.heap.size w w' := by
  go_enter Try.func161, Try.ntmps161
  go_wp2_with fail
  refine (IndexViews_any _ xs _ h).mono ?_; rintro e w1 ⟨⟨n, rfl, HN⟩, hb⟩
  go_wp2
  go_ret
  exact ⟨ret_bool HN.out, hb⟩

set_option maxRecDepth 100000 in
set_option maxHeartbeats 6400000 in
theorem areViews_any (v : Value) (xs : List VL) (w : World) (h : ViewsV w v xs) :
    Calls Try.prog 132 #[v] w fun e w' => e = .returned (.bool (viewsOk xs)) ∧ Below w.heap.size w w' := by
  have h0 := h
  obtain ⟨A, c, rfl, hk, hm⟩ := h.form
  by_cases h8 : xs.length ≤ 8
  · have h8i : (xs.length : Int) ≤ 8 := by omega
    have HQ := hid (show viewsOk xs = xs.all isViewL by simp [viewsOk, h8])
    go_enter Try.func132, Try.ntmps132
    go_wp2_with fail
    refine (ContainsViews_any _ xs _ h0).mono ?_; rintro e w1 ⟨rfl, hb⟩
    go_wp2
    go_ret
    exact ⟨ret_bool (by rw [HQ.out]), hb⟩
  · have h8i : ¬ (xs.length : Int) ≤ 8 := by omega
    have HQ := hid (show viewsOk xs = false by simp [viewsOk, h8])
    go_enter Try.func132, Try.ntmps132
    go_wp2
    go_ret
    exact ⟨ret_bool HQ.out.symm, Below.refl _ _⟩

set_option maxRecDepth 100000 in
set_option maxHeartbeats 6400000 in
theorem HoldersOf_any (v : Value) (xs : List VL) (x : Int) (w : World) (h : ViewsV w v xs) :
    Calls Try.prog 54 #[v, .int .i64 x] w (RetOwn w (holdersL xs x)) := by
  obtain ⟨A, c, rfl, hk, hm⟩ := h.form
  cases hok : viewsOk xs
  · have HQ := hid (show holdersL xs x = [] by simp [holdersL, hok])
    go_enter Try.func54, Try.ntmps54
    go_wp2_with fail
    refine (areViews_any _ xs _ h).mono ?_; rintro e w1 ⟨rfl, hb⟩
    rw [hok]
    go_wp2
    go_ret
    exact ⟨_, rfl, by rw [HQ.out]; exact Own.nil _ _, hb⟩
  have HQ := hid (show holdersL xs x = heldTo xs x xs.length by simp [holdersL, hok])
  have HVA := hid (fun k (hk : k < xs.length) => isViewL_and (viewsOk_at hok k hk).1)
  have h8 := viewsOk_len hok
  go_enter Try.func54, Try.ntmps54
  go_wp2_with fail
  refine (areViews_any _ xs _ h).mono ?_; rintro e w1 ⟨rfl, hb⟩
  rw [hok]
  clear hok
  have hz := hb.size
  have HE := hid (Own.empty w1 (B := w.heap.size) rfl hz)
  have HB2 := hid (hb.trans ((below_alloc w1 (.cells #[] 3)).mono hz))
  go_wp2_with fail
  go_loopg [5, 14] xs.length (fun g out i wr => ∃ k : Nat, k ≤ xs.length ∧ g = xs.length - k ∧ i = .int .i64 k ∧ Own wr w.heap.size out (heldTo xs x k) ∧ Below w.heap.size w wr)
  case atStart => exact ⟨0, Nat.zero_le _, rfl, rfl, HE.out, HB2.out⟩
  case round =>
    obtain ⟨k, hk1, rfl, rfl, hown, hb2⟩ := hrel
    clear HE HB2
    have HO := hid hown
    obtain ⟨A1, c1, e1⟩ := hown.form
    subst e1
    clear hown
    by_cases hlt : k < xs.length
    · obtain ⟨b, off, u1, u2, rfl, x0, x1, x2, hV⟩ := (h.ext hb2).at_ k hlt
      have hki : (k : Int) < (xs.length : Int) := by omega
      obtain ⟨hv1, hv2, -⟩ := HVA.out k hlt
      have HHV := hid hv1
      have HHL := hid hv2
      have HY := hid (fun hp => heldTo_yes (x := x) hlt hp)
      have HN := hid (fun hp => heldTo_no (x := x) hlt hp)
      have HLN := hid (show (heldTo xs x k).length ≤ 1000000000000 by have := heldTo_len xs x k; omega)
      have hz2 := hb2.size
      clear hv1 hv2
      obtain ⟨⟨y0, y1, y2⟩, -⟩ := (Blk.new wr 43 #[.int .i64 xs[k].base, u1, u2]).all3
      obtain ⟨s1, t1, ev, hu1, hu2⟩ := hV
      have ev1 : u1 = s1 ∧ u2 = t1 := by simpa using ev
      obtain ⟨rfl, rfl⟩ := ev1
      have hV : ViewV wr (.agg #[.int .i64 xs[k].base, u1, u2]) xs[k] := ⟨_, _, rfl, hu1, hu2⟩
      obtain ⟨As, cs, es⟩ := hu1.form
      obtain ⟨At, ct, et⟩ := hu2.form
      subst es et
      clear ev hu1 hu2
      have hW1 := (below_alloc wr (.cells #[.int .i64 xs[k].base, .slice As xs[k].shape.length cs, .slice At xs[k].strides.length ct] 43))
      have HV1 := hid (hV.ext hW1)
      have HO1 := hid (HO.out.ext hW1)
      have HB1 := hid (hb2.nx hW1 hz2)
      have hz3 := HB1.out.size
      clear HO hW1
      go_upto_region 7 with fail
      generalize wr.alloc (.cells #[.int .i64 xs[k].base, .slice As xs[k].shape.length cs, .slice At xs[k].strides.length ct] 43) = wq at *
      go_wp2_with fail
      refine (offsetsOf_any _ xs[k] _ HV1.out HHV.out HHL.out).mono ?_; rintro e w2 ⟨r, rfl, ho, hb3⟩
      have hq := HB1.out.nx hb3 HB1.out.size
      have HO2 := hid (HO1.out.nx hb3)
      obtain ⟨A3, c3, rfl⟩ := ho.form
      clear HB1 HO1 HV1 hV x0 x1 x2 hb3 y0 y1 y2
      go_wp2_with fail
      refine (Contains_any _ _ x _ ho.ints).mono ?_; rintro e w' ⟨rfl, rfl⟩
      clear ho
      have hsz := hq.size
      cases hp : hasX x xs[k]
      · have HP := hid (HN.out hp)
        rw [← hasX_eq, hp]
        clear hp
        go_wp2
        go_roundg (xs.length - (k + 1))
        case measure => omega
        case rel => exact ⟨k + 1, by omega, rfl, by go_num, by rw [HP.out]; exact HO2.out, hq⟩
      · have HP := hid (HY.out hp)
        rw [← hasX_eq, hp]
        clear hp
        go_wp2_with (at_builtin; refine app1 _ rfl _ _ rfl w.heap.size _ (heldTo xs x k) rfl (HO2.out.alloc _) ⟨w2.heap.size, 0, none⟩ 1 k rfl (cell_new1 _ _ _) HLN.out (le_alloc hsz _) ?_)
        intro v1 w3 ho1 hg1 hat1
        have hq := hq.trans (((below_alloc w2 (.cells #[.int .i64 (k : Int)] 3)).mono hsz).trans ((HO2.out.alloc _).under hg1 (le_alloc hsz _)))
        clear hg1 hat1
        go_wp2
        go_roundg (xs.length - (k + 1))
        case measure => omega
        case rel => exact ⟨k + 1, by omega, rfl, by go_num, by rw [HP.out]; exact ho1, hq⟩
    · obtain rfl : xs.length = k := by omega
      go_wp2
      go_ret
      exact ⟨_, rfl, by rw [HQ.out]; exact HO.out, hb2⟩

theorem HoldersOf_law (v : Value) (xs : List VL) (x : Int) (w : World) (h : ViewsV w v xs) (_ : -9223372036854775808 ≤ x ∧ x ≤ 9223372036854775807) :
    Calls Try.prog 54 #[v, .int .i64 x] w (RetOwn w (holdersL xs x)) := HoldersOf_any v xs x w h

theorem sHoldersOf_law (v : Value) (xs : List VL) (x : Int) (w : World) (h : ViewsV w v xs) (_ : -9223372036854775808 ≤ x ∧ x ≤ 9223372036854775807) :
    Calls Try.prog 52 #[v, .int .i64 x] w (RetOwn w (holdersL xs x)) := sHoldersOf_any v xs x w h
theorem holdersL_len (xs : List VL) (x : Int) : (holdersL xs x).length ≤ 8 := by
  unfold holdersL
  split
  · rename_i h
    have := heldTo_len xs x xs.length
    have := viewsOk_len h
    omega
  · simp

end Go.Proofs.Ytldblcolnjkcaaa
