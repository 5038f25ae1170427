/- Contracts: views that fit, loads, the program's own alone. No conditions. (printed by mkkn.py) -/
import Derived.Test.YtmiamnaholnnoaaKM
import Derived.Test.YtmiamnaholnnoaaC4
import Derived.Outline
namespace Go.Proofs.Ytmiamnaholnnoaa
open Go.RowKit

set_option maxHeartbeats 400000 in
theorem fitsIn1_anyN (x n : Int) (g : Nat) (w : World) (hc : w.cell? ⟨g, 0, none⟩ = some (.int .i64 n)) :
    Calls Try.prog 85 #[.int .i64 x, .pointer (some ⟨g, 0, none⟩)] w fun e w' => e = .returned (.bool (decide (n ≤ x))) ∧ w = w' := by
  go_enter Try.func85, Try.ntmps85
  go_wp2
  go_ret
  exact ⟨rfl, rfl⟩

theorem cf_fitsIn1N (ar : Array Value) (w : World) : (callFunc 85 ar).run Try.prog w = .ok (.enter 85 ar) w := by kernel_rfl

set_option maxRecDepth 100000 in
set_option maxHeartbeats 400000 in
theorem IndexFuncP_anyN (fn g : Nat) (hcf : ∀ (ar : Array Value) (w : World), (callFunc fn ar).run Try.prog w = .ok (.enter fn ar) w) (p : Int → Bool) (v : Value) (xs : List Int) (w : World)
    (hf : ∀ x, Calls Try.prog fn #[.int .i64 x, .pointer (some ⟨g, 0, none⟩)] w fun e w' => e = .returned (.bool (p x)) ∧ w = w') (h : Ints w v xs) :
    Calls Try.prog 80 #[v, .func (Fn.func fn) #[] #[.pointer (some ⟨g, 0, none⟩)]] w fun e w' => e = .returned (.int .i64 (findI p xs)) ∧ w = w' := by
  have HF := hid hf; clear hf
  obtain ⟨A, c, rfl, h1, h2, h3⟩ := h
  unfold maxLen at h2
  go_enter Try.func80, Try.ntmps80
  go_wp2
  go_loop [8] (fun i => ∃ k : Nat, k ≤ xs.length ∧ i = .int .i64 k ∧ (xs.take k).any p = false) (fun i => xs.length - (intOf i).toNat)
  case atStart => exact ⟨0, Nat.zero_le _, rfl, rfl⟩
  case round =>
    obtain ⟨k, hk, rfl, ha⟩ := hrel
    by_cases hlt : k < xs.length
    · obtain ⟨b, off, rfl, hb, hc⟩ := h3 (by omega)
      have hx := hc k xs[k] (by simp [hlt])
      have HS := hid (any_snoc p xs k hlt ha)
      have HF1 := hid (fun hp => findI_at (p := p) (xs := xs) (k := k) hlt ha hp)
      clear hc h3 ha
      cases hp : p xs[k]
      · have HP := hid hp
        go_wp2_with fail
        refine (HF.out _).mono ?_; rintro e w' ⟨rfl, rfl⟩
        go_wp2
        go_round
        case rel => exact ⟨k + 1, by omega, by go_num, by rw [HS.out]; exact HP.out⟩
        case measure => simp [intOf]; omega
      · have HP := hid hp
        go_wp2_with fail
        refine (HF.out _).mono ?_; rintro e w' ⟨rfl, rfl⟩
        go_wp2
        go_ret
        exact ⟨ret_int (HF1.out HP.out).symm, rfl⟩
    · obtain rfl : k = xs.length := by omega
      rw [List.take_of_length_le (Nat.le_refl _)] at ha
      have HA := hid (findI_none ha); clear ha
      go_wp2
      go_ret
      exact ⟨ret_int HA.out.symm, rfl⟩

set_option maxHeartbeats 400000 in
theorem ContainsFuncP_anyN (fn g : Nat) (hcf : ∀ (ar : Array Value) (w : World), (callFunc fn ar).run Try.prog w = .ok (.enter fn ar) w) (p : Int → Bool) (v : Value) (xs : List Int) (w : World)
    (hf : ∀ x, Calls Try.prog fn #[.int .i64 x, .pointer (some ⟨g, 0, none⟩)] w fun e w' => e = .returned (.bool (p x)) ∧ w = w') (h : Ints w v xs) :
    Calls Try.prog 63 #[v, .func (Fn.func fn) #[] #[.pointer (some ⟨g, 0, none⟩)]] w fun e w' => e = .returned (.bool (xs.any p)) ∧ w = w' := by
  have HF := hid hf; clear hf
  have HA := hid (findI_any p xs)
  go_enter Try.func63, Try.ntmps63
  go_wp2_with fail
  refine (IndexFuncP_anyN fn g hcf p _ xs _ HF.out h).mono ?_; rintro e w' ⟨rfl, rfl⟩
  go_wp2
  go_ret
  exact ⟨ret_bool HA.out, rfl⟩

/-- Behind a valid view all cells are at least 0, so one bound is enough. -/
theorem fits_iffN {V : VL} (h : isViewL V = true) (n : Int) : (!(offs V).any fun x => decide (n ≤ x)) = fitsL V n := by
  have ha := (isViewL_and h).2.2.2.2
  rw [List.all_eq_true] at ha
  unfold fitsL
  rw [Bool.eq_iff_iff]
  simp only [Bool.not_eq_true', List.any_eq_false, List.all_eq_true, decide_eq_true_eq]
  constructor
  · intro h1 x hx
    have h2 := h1 x hx
    have h3 := (inR_iff.1 (ha x hx)).1
    exact inR_yes h3 (by omega)
  · intro h1 x hx
    have := (inR_iff.1 (h1 x hx)).2
    omega

set_option maxRecDepth 100000 in
set_option maxHeartbeats 400000 in
theorem fitsIn_anyN (v : Value) (V : VL) (n : Int) (w : World) (hv : ViewV w v V) (hok : isViewL V = true) :
    Calls Try.prog 78 #[v, .int .i64 n] w fun e w' => e = .returned (.bool (fitsL V n)) ∧ Below w.heap.size w w' := by
  have hv0 := hv
  obtain ⟨sv, tv, rfl, hsv, htv⟩ := hv
  have HV := hid (isViewL_and hok)
  have HQ := hid (fits_iffN hok n)
  have hW : Below w.heap.size w ((w.alloc (.cells #[.int .i64 V.base, sv, tv] 47)).alloc (.cells #[.int .i64 n] 3)) := ((Below.refl _ _).alloc (Nat.le_refl _) _).alloc (by simp) _
  have hC := Blk.new (w.alloc (.cells #[.int .i64 V.base, sv, tv] 47)) 3 #[.int .i64 n]
  simp only [World.size_alloc] at hC
  go_enter Try.func78, Try.ntmps78
  go_wp2_with fail
  refine (offsetsOf_any _ V _ (hv0.ext hW) HV.out.1 HV.out.2.1).mono ?_; rintro e w1 ⟨r, rfl, ho, hb⟩
  have hc := (hC.ext hb (by simp)).cell 0
  go_wp2_with fail
  refine (ContainsFuncP_anyN 85 (w.heap.size + 1) cf_fitsIn1N (fun x => decide (n ≤ x)) _ (offs V) _ (fun x => fitsIn1_anyN x n _ _ hc) ho.ints).mono ?_; rintro e w' ⟨rfl, rfl⟩
  go_wp2
  go_ret
  exact ⟨ret_bool HQ.out, bstep hW hb hW.size⟩

set_option maxRecDepth 100000 in
set_option maxHeartbeats 800000 in
theorem canHold_anyN (m v : Value) (mem : List Int) (V : VL) (w : World) (hm : Ints w m mem) (hv : ViewV w v V) :
    Calls Try.prog 60 #[m, v] w fun e w' => e = .returned (.bool (holdL mem V)) ∧ Below w.heap.size w w' := by
  have hv0 := hv
  have hm0 := hm
  obtain ⟨sv, tv, rfl, hsv, htv⟩ := hv
  obtain ⟨A, c, rfl, hk, hmx, -⟩ := hm
  unfold maxLen at hmx
  have hB := Blk.new w 47 #[.int .i64 V.base, sv, tv]
  have hW := below_alloc w (.cells #[.int .i64 V.base, sv, tv] 47)
  cases c1 : isMemL mem
  · have HQ := hid (show holdL mem V = false by simp [holdL, c1])
    go_enter Try.func60, Try.ntmps60
    go_wp2_with fail
    refine (isMemory_anyM _ mem _ (hm0.ext hW)).mono ?_; rintro e w' ⟨rfl, rfl⟩
    go_wp2
    go_ret
    exact ⟨ret_bool HQ.out.symm, hW⟩
  have hlen : mem.length ≤ 60 := (isMemL_and c1).1
  cases c2 : isViewL V
  · have HQ := hid (show holdL mem V = false by simp [holdL, c2])
    go_enter Try.func60, Try.ntmps60
    go_wp2_with fail
    refine (isMemory_anyM _ mem _ (hm0.ext hW)).mono ?_; rintro e w' ⟨rfl, rfl⟩
    go_wp2_with fail
    refine (isView_any _ V _ (hv0.ext hW)).mono ?_; rintro e w1 ⟨rfl, hb1⟩
    go_wp2
    go_ret
    exact ⟨ret_bool HQ.out.symm, bstep hW hb1 hW.size⟩
  · have HQ := hid (show holdL mem V = fitsL V mem.length by simp [holdL, c1, c2])
    have HV := hid c2
    go_enter Try.func60, Try.ntmps60
    go_wp2_with fail
    refine (isMemory_anyM _ mem _ (hm0.ext hW)).mono ?_; rintro e w' ⟨rfl, rfl⟩
    go_wp2_with fail
    refine (isView_any _ V _ (hv0.ext hW)).mono ?_; rintro e w1 ⟨rfl, hb1⟩
    obtain ⟨⟨q0, q1, q2⟩, -⟩ := (hB.ext hb1 (by simp)).all3
    have hb01 := bstep hW hb1 hW.size
    go_wp2_with fail
    refine (fitsIn_anyN _ V _ _ (hv0.ext hb01) HV.out).mono ?_; rintro e w2 ⟨rfl, hb2⟩
    go_wp2
    go_ret
    exact ⟨ret_bool HQ.out.symm, bstep hb01 hb2 hb01.size⟩

set_option maxRecDepth 100000 in
set_option maxHeartbeats 800000 in
theorem takenOf_anyN (v iv : Value) (xs idx : List Int) (w : World) (h : Ints w v xs) (hi : Ints w iv idx) (hbd : ∀ i ∈ idx, 0 ≤ i ∧ i < xs.length) (hl : idx.length ≤ 1000000) :
    Calls Try.prog 79 #[v, iv] w (RetOwn w (takenL xs idx)) := by
  have HB := hid hbd; clear hbd
  obtain ⟨A, c, rfl, h1, h2, h3⟩ := h
  obtain ⟨A', c', rfl, h1', h2', h3'⟩ := hi
  unfold maxLen at h2 h2'
  go_enter Try.func79, Try.ntmps79
  go_wp2
  go_loopw [5, 11] (fun out i wr => ∃ (k : Nat), k ≤ idx.length ∧ i = .int .i64 k ∧ Own wr w.heap.size out (takenL xs (idx.take k)) ∧ Below w.heap.size w wr) (fun _ i _ => idx.length - (intOf i).toNat)
  case atStart => exact ⟨0, Nat.zero_le _, rfl, Own.empty w rfl (Nat.le_refl _), below_alloc w _⟩
  case round =>
    obtain ⟨k, hk, rfl, hown, hb⟩ := hrel
    by_cases hlt : k < idx.length
    · obtain ⟨b', off', rfl, hltb', hc'⟩ := h3' (by omega)
      have hbd := HB.out idx[k] (List.getElem_mem hlt)
      obtain ⟨hb0, hb1⟩ := hbd
      obtain ⟨j, hj⟩ : ∃ j : Nat, idx[k] = j := ⟨(idx[k]).toNat, by omega⟩
      have hjl : j < xs.length := by omega
      obtain ⟨b, off, rfl, hltb, hc⟩ := h3 (by omega)
      have hx' := (hb.cell (p := ⟨b', off' + k, none⟩) hltb').trans (hc' k j (by rw [List.getElem?_eq_getElem hlt, hj]))
      have hx := (hb.cell (p := ⟨b, off + j, none⟩) hltb).trans (hc j xs[j] (by simp [hjl]))
      have HT := hid (show takenL xs (idx.take (k + 1)) = takenL xs (idx.take k) ++ [xs[j]] by rw [takenL_snoc xs idx k hlt, hj]; simp [hjl])
      have HL1 := hid (show (takenL xs (idx.take k)).length ≤ 1000000000000 by simp [takenL]; omega)
      have hsz : w.heap.size ≤ wr.heap.size := hb.size
      clear hc hc' h3 h3' hj hb0 hb1
      go_wp2_with (at_builtin; refine app1 _ rfl _ _ rfl w.heap.size _ (takenL xs (idx.take k)) rfl (hown.alloc _) ⟨wr.heap.size, 0, none⟩ 1 xs[j] rfl (cell_new1 _ _ _) HL1.out (le_alloc hsz _) ?_)
      intro v1 w1 ho1 hg1 hat1
      have hq := hb.trans (((below_alloc wr (.cells #[.int .i64 xs[j]] 3)).mono hsz).trans ((hown.alloc _).under hg1 (le_alloc hsz _)))
      go_wp2
      go_roundw
      case rel => exact ⟨k + 1, by omega, by go_num, by rw [HT.out]; exact ho1, hq⟩
      case measure => simp [intOf]; omega
    · have HE := hid (show takenL xs (idx.take k) = takenL xs idx by rw [List.take_of_length_le (by omega)])
      go_wp2
      go_ret
      exact ⟨_, rfl, by rw [← HE.out]; exact hown, hb⟩

set_option maxRecDepth 100000 in
set_option maxHeartbeats 800000 in
theorem loadView_anyN (m v : Value) (mem : List Int) (V : VL) (w : World) (hm : Ints w m mem) (hv : ViewV w v V) (hok : holdL mem V = true) :
    Calls Try.prog 61 #[m, v] w (RetOwn w (takenL mem (offs V))) := by
  have hv0 := hv
  obtain ⟨sv, tv, rfl, hsv, htv⟩ := hv
  have HV := hid (isViewL_and (holdL_and hok).2.1)
  have HF := hid (fitsL_all (holdL_and hok).2.2)
  have HL := hid (show (offs V).length ≤ 1000000 by have := shape_prod HV.out.1; simp [offs]; omega)
  have hW := below_alloc w (.cells #[.int .i64 V.base, sv, tv] 47)
  go_enter Try.func61, Try.ntmps61
  go_wp2_with fail
  refine (offsetsOf_any _ V _ (hv0.ext hW) HV.out.1 HV.out.2.1).mono ?_; rintro e w1 ⟨r, rfl, ho, hb⟩
  have hb01 := bstep hW hb hW.size
  go_wp2_with fail
  refine (takenOf_anyN _ _ mem (offs V) _ (hm.ext hb01) ho.ints HF.out HL.out).mono ?_; rintro e w2 ⟨r2, rfl, ho2, hb2⟩
  go_wp2
  go_ret
  exact ⟨_, rfl, ho2.mono hb01.size, bstep hb01 hb2 hb01.size⟩

set_option maxRecDepth 100000 in
set_option maxHeartbeats 800000 in
theorem LoadView_anyN (m v : Value) (mem : List Int) (V : VL) (w : World) (hm : Ints w m mem) (hv : ViewV w v V) :
    Calls Try.prog 33 #[m, v] w (RetOwn w (loadL mem V)) := by
  have hv0 := hv
  obtain ⟨sv, tv, rfl, hsv, htv⟩ := hv
  have hB := Blk.new w 47 #[.int .i64 V.base, sv, tv]
  have hW := below_alloc w (.cells #[.int .i64 V.base, sv, tv] 47)
  cases c : holdL mem V
  · have HQ := hid (show loadL mem V = [] by simp [loadL, c])
    go_enter Try.func33, Try.ntmps33
    go_wp2_with fail
    refine (canHold_anyN _ _ mem V _ (hm.ext hW) (hv0.ext hW)).mono ?_; rintro e w1 ⟨rfl, hb1⟩
    go_wp2
    go_ret
    exact ⟨_, rfl, by rw [HQ.out]; exact Own.nil _ _, bstep hW hb1 hW.size⟩
  · have HQ := hid (show loadL mem V = takenL mem (offs V) by simp [loadL, c])
    have HC := hid c
    go_enter Try.func33, Try.ntmps33
    go_wp2_with fail
    refine (canHold_anyN _ _ mem V _ (hm.ext hW) (hv0.ext hW)).mono ?_; rintro e w1 ⟨rfl, hb1⟩
    obtain ⟨⟨q0, q1, q2⟩, -⟩ := (hB.ext hb1 (by simp)).all3
    have hb01 := bstep hW hb1 hW.size
    go_wp2_with fail
    refine (loadView_anyN _ _ mem V _ (hm.ext hb01) (hv0.ext hb01) HC.out).mono ?_; rintro e w2 ⟨r, rfl, ho, hb2⟩
    go_wp2
    go_ret
    exact ⟨_, rfl, by rw [HQ.out]; exact ho.mono hb01.size, bstep hb01 hb2 hb01.size⟩

theorem loadL_lenN (mem : List Int) (V : VL) : (loadL mem V).length ≤ 60 := by
  unfold loadL
  split
  · rename_i h
    have := (shape_prod (isViewL_and (holdL_and h).2.1).1)
    simp [takenL, offs]; omega
  · simp

end Go.Proofs.Ytmiamnaholnnoaa
