/- The contracts of the implementation's extents of labels. No conditions. -/
import Derived.Test.YtldblcolnjkcaaaEX1
namespace Go.Proofs.Ytldblcolnjkcaaa
open Go.RowKit

theorem label_eq (x : Int) : (decide (x < 0) || decide (4 < x)) = !isLabel x := by
  rw [Bool.eq_iff_iff]; simp [isLabel, inR]
set_option maxRecDepth 100000 in
set_option maxHeartbeats 800000 in
theorem areLabels1_any (x : Int) (w : World) :
    Calls Try.prog 177 #[.int .i64 x] w fun e w' => e = .returned (.bool (!isLabel x)) ∧ w = w' := by
  by_cases h1 : x < 0
  · have H := hid (show isLabel x = false by simp [isLabel, inR]; omega)
    go_enter Try.func177, Try.ntmps177
    go_wp2
    go_ret
    exact ⟨ret_bool (by rw [H.out]; rfl), rfl⟩
  · have H := hid (label_eq x)
    have h2 : decide (x < 0) = false := by simp; omega
    go_enter Try.func177, Try.ntmps177
    go_wp2
    go_ret
    exact ⟨ret_bool (by rw [← H.out, h2]; rfl), rfl⟩
theorem cf_areLabels1 (ar : Array Value) (w : World) : (callFunc 177 ar).run Try.prog w = .ok (.enter 177 ar) w := by kernel_rfl
set_option maxRecDepth 100000 in
set_option maxHeartbeats 6400000 in
theorem areLabels_any (v : Value) (xs : List Int) (w : World) (h : Ints w v xs) :
    Calls Try.prog 165 #[v] w fun e w' => e = .returned (.bool (xs.all isLabel)) ∧ w = w' := by
  have HN := hid (any_not_all xs isLabel)
  go_enter Try.func165, Try.ntmps165
  go_wp2_with fail
  refine (ContainsFunc_any 177 cf_areLabels1 (fun x => !isLabel x) areLabels1_any _ xs _ h).mono ?_; rintro e w' ⟨rfl, rfl⟩
  go_wp2
  go_ret
  exact ⟨ret_bool HN.out, rfl⟩
/-- The first k places of five hold -1. -/
def neg5 (k : Nat) : List Int := (List.range 5).map fun j => if j < k then -1 else 0
theorem neg5_len (k : Nat) : (neg5 k).length = 5 := by simp [neg5]
theorem neg5_put (k : Nat) (_ : k < 5) : (neg5 k).set k (-1) = neg5 (k + 1) := by
  apply List.ext_getElem
  · simp [neg5]
  · intro i h1 h2
    rw [List.getElem_set]
    simp only [neg5, List.getElem_map, List.getElem_range]
    split
    · rename_i e; subst e; rw [if_pos (by omega)]
    · rename_i e
      by_cases h : i < k
      · rw [if_pos h, if_pos (by omega)]
      · rw [if_neg h, if_neg (by omega)]

set_option maxRecDepth 100000 in
set_option maxHeartbeats 6400000 in
theorem extentsOf_any (v vl : Value) (xs : List TL) (lss : List (List Int)) (w : World) (h : TensorsV w v xs) (hl : IntsS w vl lss) :
    Calls Try.prog 142 #[v, vl] w (RetExtB w (extentsL xs lss) (okExtents xs lss)) := by
  obtain ⟨A, c, rfl, hk, hm⟩ := h.form
  obtain ⟨Al, cl, rfl, hkl, hml⟩ := hl.form
  by_cases h1 : xs.length < 1
  · have h1i : (xs.length : Int) < 1 := by omega
    have HN := hid (no_extents (extentsR_no (show okTs xs lss = false by unfold okTs; simp; omega)))
    go_enter Try.func142, Try.ntmps142
    go_wp2
    refine bodyPost_ret (v := .tuple #[.slice none 0 0, .bool false]) (by simp [results, Try.results142, go_sem]) rfl ?_
    exact ⟨_, by rw [HN.out.2], by rw [HN.out.1]; exact Own.nil _ _, Below.refl _ _⟩
  have h1d : decide ((xs.length : Int) < 1) = false := by simp; omega
  by_cases h3 : 3 < xs.length
  · have h3d : decide ((3 : Int) < (xs.length : Int)) = true := by simp; omega
    have HN := hid (no_extents (extentsR_no (show okTs xs lss = false by unfold okTs; simp; omega)))
    go_enter Try.func142, Try.ntmps142
    go_wp2
    refine bodyPost_ret (v := .tuple #[.slice none 0 0, .bool false]) (by simp [results, Try.results142, go_sem]) rfl ?_
    exact ⟨_, by rw [HN.out.2], by rw [HN.out.1]; exact Own.nil _ _, Below.refl _ _⟩
  have h3d : decide ((3 : Int) < (xs.length : Int)) = false := by simp; omega
  by_cases hll : lss.length = xs.length
  case neg =>
    have hne : (((lss.length : Nat) : Int) != ((xs.length : Nat) : Int)) = true := by simp; omega
    have HN := hid (no_extents (extentsR_no (show okTs xs lss = false by unfold okTs; simp [hll])))
    clear hll
    go_enter Try.func142, Try.ntmps142
    go_wp2
    refine bodyPost_ret (v := .tuple #[.slice none 0 0, .bool false]) (by simp [results, Try.results142, go_sem]) rfl ?_
    exact ⟨_, by rw [HN.out.2], by rw [HN.out.1]; exact Own.nil _ _, Below.refl _ _⟩
  have hne : (((lss.length : Nat) : Int) != ((xs.length : Nat) : Int)) = false := by simp [hll]
  have HLL := hid hll
  have HALL := hid (fun (hv : xs.all isTensorL = true) => show extentsR xs lss = extTo xs lss xs.length by
    have : okTs xs lss = true := by unfold okTs; rw [hv]; simp; omega
    simp [extentsR, this])
  have HINV := hid (fun (hv : xs.all isTensorL = false) => no_extents (extentsR_no (show okTs xs lss = false by unfold okTs; rw [hv]; rfl)))
  clear hll
  go_enter Try.func142, Try.ntmps142
  go_wp2_with (at_make; refine mk0 _ rfl _ _ rfl 5 rfl rfl (by omega) ?_)
  intro w1 hown1 hb1
  have HO1 := hid (show Own w1 w.heap.size (.slice (some ⟨w.heap.size, 0, none⟩) 5 5) (neg5 0) from hown1)
  have HB1 := hid hb1
  obtain ⟨g1, hg1⟩ : ∃ g, g = w.heap.size := ⟨_, rfl⟩
  rw [← hg1] at HO1 ⊢
  have HG1 := hid hg1
  clear hown1 hb1 hg1
  go_upto_region 5 with fail
  go_loopg [30] 5 (fun g i wr => ∃ k : Nat, k ≤ 5 ∧ g = 5 - k ∧ i = .int .i64 k ∧ Own wr g1 (.slice (some ⟨g1, 0, none⟩) 5 5) (neg5 k) ∧ Below w.heap.size w wr)
  case atStart => exact ⟨0, Nat.zero_le _, rfl, rfl, HO1.out, HB1.out⟩
  case round =>
    obtain ⟨k, hk1, rfl, rfl, hown, hb⟩ := hrel
    clear HO1 HB1
    have HO := hid hown
    have HB := hid hb
    by_cases hlt : k < 5
    · have hki : (k : Int) < 5 := by omega
      have qc := HO.out.cell k (by rw [neg5_len]; exact hlt)
      have qf := HO.out.free k
      have HP := hid (HO.out.put k (-1))
      rw [neg5_put k hlt] at HP
      have HB2 := hid (hb.setCell (p := ⟨g1, k, none⟩) (Nat.le_of_eq HG1.out.symm) (.int .i64 (-1)))
      clear hown hb HO HB
      go_wp2
      go_roundg (5 - (k + 1))
      case measure => omega
      case rel => exact ⟨k + 1, by omega, rfl, by go_num, HP.out, HB2.out⟩
    · obtain rfl : k = 5 := by omega
      have HO2 := hid (show Own wr g1 (.slice (some ⟨g1, 0, none⟩) 5 5) ext0 from HO.out)
      have HBw := hid hb
      clear HO HB hown hb
      obtain ⟨wz, rfl⟩ : ∃ wz : World, wz = wr := ⟨_, rfl⟩
      go_upto_region 10 with fail
      go_loopg [39] xs.length (fun m z wr => ∃ (k : Nat) (o : List Int), k ≤ xs.length ∧ m = xs.length - k ∧ z = .int .i64 k ∧ Hid (extTo xs lss k = some o) ∧ Hid ((xs.take k).all isTensorL = true) ∧ Own wr g1 (.slice (some ⟨g1, 0, none⟩) 5 5) o ∧ Below w.heap.size w wr)
      case atStart => exact ⟨0, ext0, Nat.zero_le _, rfl, rfl, hid rfl, hid (by simp), HO2.out, HBw.out⟩
      case round =>
        obtain ⟨k, o, hk1, rfl, rfl, HX, HAT, hown, hb⟩ := hrel
        clear HO2 HBw
        have HO := hid hown
        have HB := hid hb
        have hsz := hb.size
        clear hown
        by_cases hlt : k < xs.length
        · have hkl : k < lss.length := by rw [HLL.out]; exact hlt
          obtain ⟨b, off, u1, u2, rfl, x0, x1, hT⟩ := h.at_ k hlt
          obtain ⟨bl, ol, ul, rfl, y0, hu⟩ := hl.elem k hkl
          obtain ⟨s1, t1, ev, hs, ht⟩ := hT
          have ev1 : u1 = s1 ∧ u2 = t1 := by simpa using ev
          obtain ⟨rfl, rfl⟩ := ev1
          obtain ⟨As, cs, es⟩ := hs.form
          obtain ⟨At, ct, et⟩ := ht.form
          obtain ⟨Au, cu, eu⟩ := hu.form
          subst es et eu
          clear ev hb
          have hki : (k : Int) < (xs.length : Int) := by omega
          have hkli : (k : Int) < (lss.length : Int) := by omega
          have HBAD := hid (fun hf => extTo_bad (k := k) HX.out hlt hkl hf)
          have HFIT := hid (fun hf => extTo_fit (k := k) HX.out hlt hkl hf)
          have HOL := hid (extTo_length HX.out)
          have HCUT := hid (fun e => no_extents (extentsR_cut (xs := xs) (lss := lss) (k := k + 1) e (by omega)))
          have HS := hid (allT_snoc isTensorL xs k hlt HAT.out)
          have HF := hid (fun hp => HINV.out (allT_false isTensorL xs k hlt hp))
          obtain ⟨ls, els⟩ : ∃ ls, lss[k] = ls := ⟨_, rfl⟩
          obtain ⟨T, eT⟩ : ∃ T, xs[k] = T := ⟨_, rfl⟩
          rw [els] at hu y0 HBAD HFIT
          rw [eT] at hs ht x0 x1 HBAD HFIT HS HF
          clear els eT
          have HHS := hid hs
          have HHT := hid ht
          have HHU := hid hu
          have hlm : ls.length ≤ 9223372036854775807 := by
            obtain ⟨_, _, _, h1, h2, _⟩ := HHU.out
            unfold maxLen at h2
            omega
          have X0 := hid x0
          have Y0 := hid y0
          have x0 := (HB.out.cell (p := ⟨b, off + k * 2, none⟩) (World.block_lt_of_cell? _ _ x0)).trans x0
          have x1 := (HB.out.cell (p := ⟨b, off + k * 2 + 1, none⟩) (World.block_lt_of_cell? _ _ x1)).trans x1
          have hT := hid (show TensorV w (.agg #[.slice As T.shape.length cs, .slice At T.values.length ct]) T from ⟨_, _, rfl, HHS.out, HHT.out⟩)
          clear hs ht hu HX HAT
          have hZ := Blk.new wr 75 #[.slice As T.shape.length cs, .slice At T.values.length ct]
          have hbz := below_alloc wr (.cells #[.slice As T.shape.length cs, .slice At T.values.length ct] 75)
          have HB0 := hid (HB.out.nx hbz hsz)
          have HO0 := hid (HO.out.ext hbz)
          have hzs : wr.heap.size < (wr.alloc (.cells #[.slice As T.shape.length cs, .slice At T.values.length ct] 75)).heap.size := by simp
          have hgne : g1 < wr.heap.size := (HO.out.lt g1 rfl).2
          go_upto_region 12 with fail
          clear x0 x1 hbz
          generalize wr.alloc (.cells #[.slice As T.shape.length cs, .slice At T.values.length ct] 75) = w2 at *
          obtain ⟨gz, egz⟩ : ∃ gz, wr.heap.size = gz := ⟨_, rfl⟩
          rw [egz] at hZ hzs hgne ⊢
          have y0 := (HB0.out.cell (p := ⟨bl, ol + k, none⟩) (World.block_lt_of_cell? _ _ Y0.out)).trans Y0.out
          have hsz2 := HB0.out.size
          have HUR := hid (HHU.out.ext HB0.out)
          have HTR := hid (TensorV.ext hT.out HB0.out)
          have qz := fun x : ExtW w2 => (x.at_ hZ).all2.1
          have qy := fun x : ExtW w2 => (x.h.cell (p := ⟨bl, ol + k, none⟩) (World.block_lt_of_cell? _ _ y0)).trans y0
          clear HB HO hsz egz
          cases hit : isTensorL T
          · have HN := hid (HF.out hit)
            have HA : ∀ x : ExtW w2, Calls Try.prog 139 #[.agg #[.slice As T.shape.length cs, .slice At T.values.length ct]] x.v fun e w' => e = .returned (.bool false) ∧ Below x.v.heap.size x.v w' := fun x => (isTensor_any _ T x.v (TensorV.ext HTR.out x.h)).mono fun _ _ h => ⟨by rw [h.1]; exact ret_bool hit, h.2⟩
            have HA := hid HA
            clear HBAD HFIT HCUT HS HF hit
            refine region_mk 22 (by kernel_rfl) (by kernel_rfl) ?_
            apply Exists.intro
            simp only [List.take_succ_cons, List.take_zero, List.drop_succ_cons, List.drop_zero]
            repeat (first
              | (apply grow_val (by rfl); (focus (intro x; (go_simp; try with_reducible rfl); done)); simp only [Act.put, List.setIfInBounds_toArray, List.set_cons_zero, List.set_cons_succ])
              | (apply grow_skip (by rfl); simp only [Act.put, List.setIfInBounds_toArray, List.set_cons_zero, List.set_cons_succ])
              | (apply grow_call (by rfl); (focus (intro x K Q hK; go_simp; (first | (go_at_call 139; (with_reducible refine (HA.out x).mono ?_); rintro e w' ⟨rfl, hb⟩; exact hK _ hb)); done)); simp only [Act.put, List.setIfInBounds_toArray, List.set_cons_zero, List.set_cons_succ]))
            refine grow_nil ?_
            rintro ⟨w3, hb3⟩ - -
            have hb3 : Below w2.heap.size w2 w3 := hb3
            have hq := HB0.out.nx hb3 hsz2
            clear qz qy
            go_wp2
            refine bodyPost_ret (v := .tuple #[.slice none 0 0, .bool false]) (by simp [results, Try.results142, go_sem]) rfl ?_
            exact ⟨_, by rw [HN.out.2], by rw [HN.out.1]; exact Own.nil _ _, hq⟩
          have HIT : ∀ x : ExtW w2, Calls Try.prog 139 #[.agg #[.slice As T.shape.length cs, .slice At T.values.length ct]] x.v fun e w' => e = .returned (.bool true) ∧ Below x.v.heap.size x.v w' := fun x => (isTensor_any _ T x.v (TensorV.ext HTR.out x.h)).mono fun _ _ h => ⟨by rw [h.1]; exact ret_bool hit, h.2⟩
          have HIT := hid HIT
          have HS1 := hid (HS.out.trans hit)
          clear HS HF hit
          by_cases hle : ls.length = T.shape.length
          case neg =>
            have hne2 : (((ls.length : Nat) : Int) != ((T.shape.length : Nat) : Int)) = true := by simp; omega
            have HN := hid (HCUT.out (HBAD.out (by simp [fitT, hle])))
            clear HBAD HFIT HCUT hle
            refine region_mk 22 (by kernel_rfl) (by kernel_rfl) ?_
            apply Exists.intro
            simp only [List.take_succ_cons, List.take_zero, List.drop_succ_cons, List.drop_zero]
            repeat (first
              | (apply grow_val (by rfl); (focus (intro x; (go_simp; try with_reducible rfl); done)); simp only [Act.put, List.setIfInBounds_toArray, List.set_cons_zero, List.set_cons_succ])
              | (apply grow_skip (by rfl); simp only [Act.put, List.setIfInBounds_toArray, List.set_cons_zero, List.set_cons_succ])
              | (apply grow_call (by rfl); (focus (intro x K Q hK; go_simp; (first | (go_at_call 139; (with_reducible refine (HIT.out x).mono ?_); rintro e w' ⟨rfl, hb⟩; exact hK _ hb)); done)); simp only [Act.put, List.setIfInBounds_toArray, List.set_cons_zero, List.set_cons_succ]))
            refine grow_nil ?_
            rintro ⟨w3, hb3⟩ - -
            have hb3 : Below w2.heap.size w2 w3 := hb3
            have hq := HB0.out.nx hb3 hsz2
            clear qz qy
            go_wp2
            refine bodyPost_ret (v := .tuple #[.slice none 0 0, .bool false]) (by simp [results, Try.results142, go_sem]) rfl ?_
            exact ⟨_, by rw [HN.out.2], by rw [HN.out.1]; exact Own.nil _ _, hq⟩
          have hne2 : (((ls.length : Nat) : Int) != ((T.shape.length : Nat) : Int)) = false := by simp; omega
          have HLE := hid hle
          cases hal : ls.all isLabel
          · have HN := hid (HCUT.out (HBAD.out (by simp [fitT, hal])))
            have HA : ∀ x : ExtW w2, Calls Try.prog 165 #[.slice Au ls.length cu] x.v fun e w' => e = .returned (.bool false) ∧ Below x.v.heap.size x.v w' := fun x => (areLabels_any _ ls x.v (HUR.out.ext x.h)).mono fun _ _ h => ⟨by rw [h.1]; exact ret_bool hal, h.2 ▸ Below.refl _ _⟩
            have HA := hid HA
            clear HBAD HFIT HCUT hle hal
            refine region_mk 22 (by kernel_rfl) (by kernel_rfl) ?_
            apply Exists.intro
            simp only [List.take_succ_cons, List.take_zero, List.drop_succ_cons, List.drop_zero]
            repeat (first
              | (apply grow_val (by rfl); (focus (intro x; (go_simp; try with_reducible rfl); done)); simp only [Act.put, List.setIfInBounds_toArray, List.set_cons_zero, List.set_cons_succ])
              | (apply grow_skip (by rfl); simp only [Act.put, List.setIfInBounds_toArray, List.set_cons_zero, List.set_cons_succ])
              | (apply grow_call (by rfl); (focus (intro x K Q hK; go_simp; (first | (go_at_call 139; (with_reducible refine (HIT.out x).mono ?_); rintro e w' ⟨rfl, hb⟩; exact hK _ hb) | (go_at_call 165; (with_reducible refine (HA.out x).mono ?_); rintro e w' ⟨rfl, hb⟩; exact hK _ hb)); done)); simp only [Act.put, List.setIfInBounds_toArray, List.set_cons_zero, List.set_cons_succ]))
            refine grow_nil ?_
            rintro ⟨w3, hb3⟩ - -
            have hb3 : Below w2.heap.size w2 w3 := hb3
            have hq := HB0.out.nx hb3 hsz2
            clear qz qy
            go_wp2
            refine bodyPost_ret (v := .tuple #[.slice none 0 0, .bool false]) (by simp [results, Try.results142, go_sem]) rfl ?_
            exact ⟨_, by rw [HN.out.2], by rw [HN.out.1]; exact Own.nil _ _, hq⟩
          have HA : ∀ x : ExtW w2, Calls Try.prog 165 #[.slice Au ls.length cu] x.v fun e w' => e = .returned (.bool true) ∧ Below x.v.heap.size x.v w' := fun x => (areLabels_any _ ls x.v (HUR.out.ext x.h)).mono fun _ _ h => ⟨by rw [h.1]; exact ret_bool hal, h.2 ▸ Below.refl _ _⟩
          have HA := hid HA
          have hfit : fitT T ls = true := by simp [fitT, hal, hle]
          have HRG := hid (fitT_and hfit).2
          have HNX := hid (HFIT.out hfit)
          clear HBAD HFIT hle hal hfit
          refine region_mk 22 (by kernel_rfl) (by kernel_rfl) ?_
          apply Exists.intro
          simp only [List.take_succ_cons, List.take_zero, List.drop_succ_cons, List.drop_zero]
          repeat (first
            | (apply grow_val (by rfl); (focus (intro x; (go_simp; try with_reducible rfl); done)); simp only [Act.put, List.setIfInBounds_toArray, List.set_cons_zero, List.set_cons_succ])
            | (apply grow_skip (by rfl); simp only [Act.put, List.setIfInBounds_toArray, List.set_cons_zero, List.set_cons_succ])
            | (apply grow_call (by rfl); (focus (intro x K Q hK; go_simp; (first | (go_at_call 139; (with_reducible refine (HIT.out x).mono ?_); rintro e w' ⟨rfl, hb⟩; exact hK _ hb) | (go_at_call 165; (with_reducible refine (HA.out x).mono ?_); rintro e w' ⟨rfl, hb⟩; exact hK _ hb)); done)); simp only [Act.put, List.setIfInBounds_toArray, List.set_cons_zero, List.set_cons_succ]))
          refine grow_nil ?_
          rintro ⟨w3, hb3⟩ - -
          have hb3 : Below w2.heap.size w2 w3 := hb3
          clear qz qy HA HIT
          have HB3 := hid (HB0.out.nx hb3 hsz2)
          have HO3 := hid (HO0.out.ext hb3)
          have HZ3 := hid (Blk.ext hZ hb3 hZ.lt)
          have y0 := (hb3.cell (p := ⟨bl, ol + k, none⟩) (World.block_lt_of_cell? _ _ y0)).trans y0
          clear hb3 HB0 HO0 hZ HUR HTR hzs
          obtain ⟨wo, rfl⟩ : ∃ wo : World, wo = w3 := ⟨_, rfl⟩
          go_upto_region 15 with fail
          go_loopg [71] ls.length (fun m z wr => ∃ (d : Nat) (q : List Int), d ≤ ls.length ∧ m = ls.length - d ∧ z = .int .i64 d ∧ Hid (extD o ls T.shape d = some q) ∧ Own wr g1 (.slice (some ⟨g1, 0, none⟩) 5 5) q ∧ Below w.heap.size w wr ∧ Blk wr gz 75 #[.slice As T.shape.length cs, .slice At T.values.length ct])
          case atStart => exact ⟨0, o, Nat.zero_le _, rfl, rfl, hid rfl, HO3.out, HB3.out, HZ3.out⟩
          case round =>
            obtain ⟨d, q, hd1, rfl, rfl, HQ, hown, hb, hZ⟩ := hrel
            clear HO3 HB3 HZ3 y0
            have HO3 := hid hown
            clear hown
            by_cases hlt2 : d < ls.length
            · have hds : d < T.shape.length := by rw [← HLE.out]; exact hlt2
              obtain ⟨bs, os, rfl, s0⟩ := (HHS.out.ext hb).elem d hds
              obtain ⟨bu, ou, rfl, l0⟩ := (HHU.out.ext hb).elem d hlt2
              obtain ⟨l, hl, hl5⟩ : ∃ l : Nat, ls[d] = (l : Int) ∧ l < 5 := by
                have := HRG.out ls[d] (List.getElem_mem hlt2)
                exact ⟨ls[d].toNat, by omega, by omega⟩
              rw [hl] at l0
              have hlq : l < q.length := by rw [extD_length HQ.out, HOL.out]; exact hl5
              have qc := HO3.out.cell l hlq
              obtain ⟨y, ey⟩ : ∃ y, q[l] = y := ⟨_, rfl⟩
              obtain ⟨z, ez⟩ : ∃ z, T.shape[d] = z := ⟨_, rfl⟩
              have HBN := hid (fun h0 h1 => extD_bad (o := o) (ls := ls) (shape := T.shape) (d := d) HQ.out hlt2 hds hl hlq h0 h1)
              have HNE := hid (fun h1 => extD_next (o := o) (ls := ls) (shape := T.shape) (d := d) HQ.out hlt2 hds hl hlq h1)
              rw [ey, ez] at HBN HNE
              rw [ey] at qc
              rw [ez] at s0
              have hdi : (d : Int) < (ls.length : Int) := by omega
              have hds1 : (d : Int) < (T.shape.length : Int) := by omega
              have hl5i : (l : Int) < 5 := by omega
              clear hl ey ez HQ
              have HZ := hid hb.size
              go_upto_region 17 with fail
              have qq0 := fun x : ExtW wr => (x.h.cell (p := ⟨g1, l, none⟩) (World.block_lt_of_cell? _ _ qc)).trans qc
              have qq1 := fun x : ExtW wr => (x.at_ hZ).all2.1
              have qq2 := fun x : ExtW wr => (x.h.cell (p := ⟨bs, os + d, none⟩) (World.block_lt_of_cell? _ _ s0)).trans s0
              by_cases hy0 : (0 : Int) ≤ y
              · by_cases hyz : y = z
                · have hne1 : (y != z) = false := by simp [hyz]
                  have HN3 := hid (HNE.out (.inr hyz))
                  clear HBN HNE hyz
                  refine region_mk 17 (by kernel_rfl) (by kernel_rfl) ?_
                  apply Exists.intro
                  simp only [List.take_succ_cons, List.take_zero, List.drop_succ_cons, List.drop_zero]
                  repeat (first
                    | (apply grow_val (by rfl); (focus (intro x; (go_simp; try with_reducible rfl); done)); simp only [Act.put, List.setIfInBounds_toArray, List.set_cons_zero, List.set_cons_succ])
                    | (apply grow_skip (by rfl); simp only [Act.put, List.setIfInBounds_toArray, List.set_cons_zero, List.set_cons_succ]))
                  refine grow_nil ?_
                  rintro ⟨w3, hb3⟩ - -
                  have hb3 : Below wr.heap.size wr w3 := hb3
                  have hZ3 := Blk.ext hZ hb3 hZ.lt
                  obtain ⟨⟨z0, z1⟩, -⟩ := id hZ3.all2
                  have s0 := (hb3.cell (p := ⟨bs, os + d, none⟩) (World.block_lt_of_cell? _ _ s0)).trans s0
                  have qc := (hb3.cell (p := ⟨g1, l, none⟩) (World.block_lt_of_cell? _ _ qc)).trans qc
                  have HP3 := hid ((HO3.out.ext hb3).put l z)
                  have qf := (HO3.out.ext hb3).free l
                  have HB4 := hid ((hb.nx hb3 HZ.out).setCell (p := ⟨g1, l, none⟩) (Nat.le_of_eq HG1.out.symm) (.int .i64 z))
                  have HZ4 := hid (hZ3.far (p := ⟨g1, l, none⟩) (by show gz ≠ g1; omega) (.int .i64 z))
                  clear qq0 qq1 qq2 l0 hb3 hb
                  go_wp2
                  go_roundg (ls.length - (d + 1))
                  case measure => omega
                  case rel => exact ⟨d + 1, _, by omega, rfl, by go_num, HN3, HP3.out, HB4.out, HZ4.out⟩
                · have hne1 : (y != z) = true := by simp [hyz]
                  have HN := hid (HCUT.out (HNX.out.trans (extD_none (HBN.out hy0 hyz) (by omega))))
                  clear HBN HNE hyz
                  refine region_mk 17 (by kernel_rfl) (by kernel_rfl) ?_
                  apply Exists.intro
                  simp only [List.take_succ_cons, List.take_zero, List.drop_succ_cons, List.drop_zero]
                  repeat (first
                    | (apply grow_val (by rfl); (focus (intro x; (go_simp; try with_reducible rfl); done)); simp only [Act.put, List.setIfInBounds_toArray, List.set_cons_zero, List.set_cons_succ])
                    | (apply grow_skip (by rfl); simp only [Act.put, List.setIfInBounds_toArray, List.set_cons_zero, List.set_cons_succ]))
                  refine grow_nil ?_
                  rintro ⟨w3, hb3⟩ - -
                  have hb3 : Below wr.heap.size wr w3 := hb3
                  have hq := hb.nx hb3 HZ.out
                  clear qq0 qq1 qq2 s0 l0 qc
                  go_wp2
                  refine bodyPost_ret (v := .tuple #[.slice none 0 0, .bool false]) (by simp [results, Try.results142, go_sem]) rfl ?_
                  exact ⟨_, by rw [HN.out.2], by rw [HN.out.1]; exact Own.nil _ _, hq⟩
              · have HN3 := hid (HNE.out (.inl hy0))
                have hy1 : decide ((0 : Int) ≤ y) = false := by simpa using hy0
                clear HBN HNE
                refine region_mk 17 (by kernel_rfl) (by kernel_rfl) ?_
                apply Exists.intro
                simp only [List.take_succ_cons, List.take_zero, List.drop_succ_cons, List.drop_zero]
                repeat (first
                  | (apply grow_val (by rfl); (focus (intro x; (go_simp; try with_reducible rfl); done)); simp only [Act.put, List.setIfInBounds_toArray, List.set_cons_zero, List.set_cons_succ])
                  | (apply grow_skip (by rfl); simp only [Act.put, List.setIfInBounds_toArray, List.set_cons_zero, List.set_cons_succ]))
                refine grow_nil ?_
                rintro ⟨w3, hb3⟩ - -
                have hb3 : Below wr.heap.size wr w3 := hb3
                have hZ3 := Blk.ext hZ hb3 hZ.lt
                obtain ⟨⟨z0, z1⟩, -⟩ := id hZ3.all2
                have s0 := (hb3.cell (p := ⟨bs, os + d, none⟩) (World.block_lt_of_cell? _ _ s0)).trans s0
                have qc := (hb3.cell (p := ⟨g1, l, none⟩) (World.block_lt_of_cell? _ _ qc)).trans qc
                have HP3 := hid ((HO3.out.ext hb3).put l z)
                have qf := (HO3.out.ext hb3).free l
                have HB4 := hid ((hb.nx hb3 HZ.out).setCell (p := ⟨g1, l, none⟩) (Nat.le_of_eq HG1.out.symm) (.int .i64 z))
                have HZ4 := hid (hZ3.far (p := ⟨g1, l, none⟩) (by show gz ≠ g1; omega) (.int .i64 z))
                clear qq0 qq1 qq2 l0 hb3 hb
                go_wp2
                go_roundg (ls.length - (d + 1))
                case measure => omega
                case rel => exact ⟨d + 1, _, by omega, rfl, by go_num, HN3, HP3.out, HB4.out, HZ4.out⟩
            · obtain rfl : ls.length = d := by omega
              have HX3 := hid (HNX.out.trans HQ.out)
              go_wp2
              go_roundg (xs.length - (k + 1))
              case measure => omega
              case rel => exact ⟨k + 1, q, by omega, rfl, by go_num, HX3, HS1, HO3.out, hb⟩
        · obtain rfl : xs.length = k := by omega
          rw [List.take_of_length_le (Nat.le_refl _)] at HAT
          have HY := hid (yes_extents ((HALL.out HAT.out).trans HX.out))
          go_wp2
          refine bodyPost_ret (v := .tuple #[.slice (some ⟨g1, 0, none⟩) 5 5, .bool true]) (by simp [results, Try.results142, go_sem]) rfl ?_
          exact ⟨_, by rw [HY.out.2], by rw [HY.out.1]; exact HO.out.mono (Nat.le_of_eq HG1.out.symm), HB.out⟩

set_option maxRecDepth 100000 in
set_option maxHeartbeats 6400000 in
theorem ExtentsOf_any (v vl : Value) (xs : List TL) (lss : List (List Int)) (w : World) (h : TensorsV w v xs) (hl : IntsS w vl lss) :
    Calls Try.prog 73 #[v, vl] w (RetExtB w (extentsL xs lss) (okExtents xs lss)) := by
  go_enter Try.func73, Try.ntmps73
  go_wp2_with fail
  refine (extentsOf_any _ _ xs lss _ h hl).mono ?_; rintro e w2 ⟨r, rfl, ho, hb⟩
  have HO := hid ho
  obtain ⟨A1, c1, rfl⟩ := ho.form
  clear ho
  go_wp2
  refine bodyPost_ret (v := .tuple #[.slice A1 (extentsL xs lss).length c1, .bool (okExtents xs lss)]) (by simp [results, Try.results73, go_sem]) rfl ?_
  exact ⟨_, rfl, HO.out, hb⟩

end Go.Proofs.Ytldblcolnjkcaaa
