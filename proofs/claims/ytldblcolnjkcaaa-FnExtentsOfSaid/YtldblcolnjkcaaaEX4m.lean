/- EX1, EXq, EX2, LEa, LEi, Gr, EX4, FIa, FKa, LT, HQ2, HR, PO0, SH1, ST1, ST2, SD1, J1, Y6, YC, PO1, EX4w in one text. No conditions. (printed by merge.py) -/
import Derived.Test.YtldblcolnjkcaaaEXp
import Derived.Test.YtldblcolnjkcaaaRT
import Derived.Test.YtldblcolnjkcaaaLL
import Derived.Test.YtldblcolnjkcaaaIE
import Derived.Test.YtldblcolnjkcaaaSR
import Derived.Deep.Cut
import Derived.Deep.LoopGhost
import Derived.Test.YtldblcolnjkcaaaT0
import Derived.Deep.QuietTactic
import Derived.BigQuiet
import Derived.Test.YtldblcolnjkcaaaGw
import Derived.Test.YtldblcolnjkcaaaRDw
import Derived.Test.YtldblcolnjkcaaaHp
import Derived.Test.YtldblcolnjkcaaaHQ
import Derived.Maps.AppendAt
import Derived.Test.YtldblcolnjkcaaaDD
import Derived.Test.YtldblcolnjkcaaaS1
import Derived.Test.YtldblcolnjkcaaaC3
import Derived.Test.YtldblcolnjkcaaaD1
import Derived.Test.YtldblcolnjkcaaaSDp
import Derived.Test.YtldblcolnjkcaaaV4
import Derived.Test.YtldblcolnjkcaaaV6
import Derived.Test.YtldblcolnjkcaaaE1
import Derived.Test.YtldblcolnjkcaaaG3
import Derived.Test.YtldblcolnjkcaaaY1
import Derived.Test.YtldblcolnjkcaaaAD3
import Derived.Test.YtldblcolnjkcaaaGs
import Derived.Deep.DeepCutAuto

/-! ## EX1 -/
namespace Go.Proofs.Ytldblcolnjkcaaa
open Go.RowKit

/-- What a function that returns a new list and whether there is one leaves. -/
def RetExtB (w : World) (xs : List Int) (b : Bool) (e : Ending) (w' : World) : Prop := ∃ r, e = .returned (.tuple #[r, .bool b]) ∧ Own w' w.heap.size r xs ∧ Below w.heap.size w w'

set_option maxRecDepth 100000 in
set_option maxHeartbeats 6400000 in
theorem validTensors_any (v vl : Value) (xs : List TL) (lss : List (List Int)) (w : World) (h : TensorsV w v xs) (hl : IntsS w vl lss) :
    Calls Try.prog 140 #[v, vl] w fun e w' => e = .returned (.bool (okTs xs lss)) ∧ Below w.heap.size w w' := by
  obtain ⟨A, c, rfl, hk, hm⟩ := h.form
  obtain ⟨Al, cl, rfl, hkl, hml⟩ := hl.form
  clear hl
  go_enter Try.func140, Try.ntmps140
  go_wp2_with fail
  go_loopg [5] xs.length (fun g i wr => ∃ k : Nat, k ≤ xs.length ∧ g = xs.length - k ∧ i = .int .i64 k ∧ Hid ((xs.take k).all isTensorL = true) ∧ Below w.heap.size w wr)
  case atStart => exact ⟨0, Nat.zero_le _, rfl, rfl, hid (by simp), Below.refl _ _⟩
  case round =>
    obtain ⟨k, hk1, rfl, rfl, HA, hb⟩ := hrel
    by_cases hlt : k < xs.length
    · obtain ⟨b, off, u1, u2, rfl, x0, x1, hT⟩ := (h.ext hb).at_ k hlt
      have hki : (k : Int) < (xs.length : Int) := by omega
      have HS := hid (allT_snoc isTensorL xs k hlt HA.out)
      have HF := hid (fun hp => allT_false isTensorL xs k hlt hp)
      clear HA
      go_wp2_with fail
      refine (validTensor_any _ xs[k] _ hT).mono ?_; rintro e w1 ⟨rfl, hb1⟩
      have hq := hb.nx hb1 hb.size
      clear hT x0 x1 hb1
      cases hp : isTensorL xs[k]
      · have HQ := hid (show okTs xs lss = false by unfold okTs; rw [HF.out hp]; rfl)
        clear hp
        go_wp2
        go_ret
        exact ⟨ret_bool HQ.out.symm, hq⟩
      · rw [hp] at HS
        clear hp
        go_wp2
        go_roundg (xs.length - (k + 1))
        case measure => omega
        case rel => exact ⟨k + 1, by omega, rfl, by go_num, HS, hq⟩
    · obtain rfl : xs.length = k := by omega
      rw [List.take_of_length_le (Nat.le_refl _)] at HA
      by_cases h13 : 1 ≤ xs.length ∧ xs.length ≤ 3
      · have HI := hid (show inR (xs.length : Int) 1 3 = true from inR_yes (by omega) (by omega))
        by_cases hll : lss.length = xs.length
        · have HQ := hid (show okTs xs lss = true by unfold okTs; rw [HA.out]; simp [h13, hll])
          have hne : (((lss.length : Nat) : Int) == ((xs.length : Nat) : Int)) = true := by simp [hll]
          clear hll
          go_wp2_with fail
          refine (inRange_any _ _ _ _).mono ?_; rintro e w' ⟨rfl, rfl⟩
          rw [HI.out]
          go_wp2
          go_ret
          exact ⟨ret_bool HQ.out.symm, hb⟩
        · have HQ := hid (show okTs xs lss = false by unfold okTs; simp [hll])
          have hne : (((lss.length : Nat) : Int) == ((xs.length : Nat) : Int)) = false := by simp; omega
          clear hll
          go_wp2_with fail
          refine (inRange_any _ _ _ _).mono ?_; rintro e w' ⟨rfl, rfl⟩
          rw [HI.out]
          go_wp2
          go_ret
          exact ⟨ret_bool HQ.out.symm, hb⟩
      · have HI := hid (show inR (xs.length : Int) 1 3 = false from inR_no (by omega))
        have HQ := hid (show okTs xs lss = false by
          unfold okTs
          have : (decide (1 ≤ xs.length) && decide (xs.length ≤ 3)) = false := by rw [Bool.and_eq_false_iff, decide_eq_false_iff_not, decide_eq_false_iff_not]; omega
          rw [this]; simp)
        go_wp2_with fail
        refine (inRange_any _ _ _ _).mono ?_; rintro e w' ⟨rfl, rfl⟩
        rw [HI.out]
        go_wp2
        go_ret
        exact ⟨ret_bool HQ.out.symm, hb⟩

set_option maxRecDepth 100000 in
set_option maxHeartbeats 6400000 in
theorem extents_any (v vl : Value) (xs : List TL) (lss : List (List Int)) (w : World) (h : TensorsV w v xs) (hl : IntsS w vl lss) (hok : okTs xs lss = true) :
    Calls Try.prog 141 #[v, vl] w (RetExtB w (extentsL xs lss) (okExtents xs lss)) := by
  obtain ⟨A, c, rfl, hk, hm⟩ := h.form
  obtain ⟨Al, cl, rfl, hkl, hml⟩ := hl.form
  have HR := hid (show extentsR xs lss = extTo xs lss xs.length by simp [extentsR, hok])
  have HLL := hid (show lss.length = xs.length ∧ xs.length ≤ 3 by simp only [okTs, Bool.and_eq_true, decide_eq_true_eq] at hok; exact ⟨hok.2, hok.1.2.2⟩)
  clear hok
  go_enter Try.func141, Try.ntmps141
  have HE := hid (Own.empty w (B := w.heap.size) rfl (Nat.le_refl _))
  have HB0 := hid (below_alloc w (.cells #[] 3))
  go_wp2_with fail
  go_loopg [6, 7] 5 (fun g out i wr => ∃ k : Nat, k ≤ 5 ∧ g = 5 - k ∧ i = .int .i64 k ∧ Own wr w.heap.size out (List.replicate k (-1)) ∧ Below w.heap.size w wr)
  case atStart => exact ⟨0, Nat.zero_le _, rfl, rfl, HE.out, HB0.out⟩
  case round =>
    obtain ⟨k, hk1, rfl, rfl, hown, hb⟩ := hrel
    clear HE HB0
    have HO := hid hown
    obtain ⟨A1, c1, e1⟩ := hown.form
    rw [List.length_replicate] at e1
    subst e1
    clear hown
    have hsz := hb.size
    by_cases hlt : k < 5
    · have hki : (k : Int) ≤ 4 := by omega
      have HL1 := hid (show (List.replicate k (-1 : Int)).length ≤ 1000000000000 by simp; omega)
      have HU := hid (show List.replicate (k + 1) (-1 : Int) = List.replicate k (-1) ++ [-1] from List.replicate_succ')
      go_wp2_with (at_builtin; refine app1 _ rfl _ _ rfl w.heap.size _ (List.replicate k (-1)) rfl (HO.out.alloc _) ⟨wr.heap.size, 0, none⟩ 1 (-1) rfl (cell_new1 _ _ _) HL1.out (le_alloc hsz _) ?_)
      intro v1 w1 ho1 hg1 hat1
      have hq := hb.trans (((below_alloc wr (.cells #[.int .i64 (-1)] 3)).mono hsz).trans ((HO.out.alloc _).under hg1 (le_alloc hsz _)))
      clear hg1 hat1
      go_wp2
      go_roundg (5 - (k + 1))
      case measure => omega
      case rel => exact ⟨k + 1, by omega, rfl, by go_num, by rw [HU.out]; exact ho1, hq⟩
    · obtain rfl : k = 5 := by omega
      have hki : ¬ (5 : Int) ≤ 4 := by omega
      have HO2 := hid (show Own wr w.heap.size _ ext0 from HO.out)
      have HBw := hid hb
      clear HO
      obtain ⟨g1, cp, e1, hgB, hgl⟩ := HO2.out.row (by simp [ext0])
      simp only [Value.slice.injEq] at e1
      obtain ⟨rfl, -, rfl⟩ := e1
      obtain ⟨wz, rfl⟩ : ∃ wz : World, wz = wr := ⟨_, rfl⟩
      clear hb hsz
      go_upto_region 7 with fail
      go_loopg [8] xs.length (fun m z wr => ∃ (k : Nat) (o : List Int), k ≤ xs.length ∧ m = xs.length - k ∧ z = .int .i64 k ∧ Hid (extTo xs lss k = some o) ∧ Own wr w.heap.size (.slice (some ⟨g1, 0, none⟩) 5 c1) o ∧ Below w.heap.size w wr)
      case atStart => exact ⟨0, ext0, Nat.zero_le _, rfl, rfl, hid rfl, HO2.out, HBw.out⟩
      case round =>
        obtain ⟨k, o, hk1, rfl, rfl, HX, hown, hb⟩ := hrel
        clear HO2 HBw
        have HO := hid hown
        have HB := hid hb
        have hsz := hb.size
        clear hown
        by_cases hlt : k < xs.length
        · have hkl : k < lss.length := by rw [HLL.out.1]; exact hlt
          obtain ⟨b, off, u1, u2, rfl, x0, x1, hT⟩ := h.at_ k hlt
          obtain ⟨bl, ol, ul, rfl, y0, hu⟩ := hl.elem k hkl
          obtain ⟨s1, t1, ev, hs, -⟩ := hT
          have ev1 : u1 = s1 := by have : u1 = s1 ∧ u2 = t1 := by simpa using ev
                                   exact this.1
          subst ev1
          obtain ⟨As, cs, es⟩ := hs.form
          obtain ⟨Au, cu, eu⟩ := hu.form
          subst es eu
          clear ev x1 hb
          have hki : (k : Int) < (xs.length : Int) := by omega
          have hkli : (k : Int) < (lss.length : Int) := by omega
          have HBAD := hid (fun hf => extTo_bad (k := k) HX.out hlt hkl hf)
          have HFIT := hid (fun hf => extTo_fit (k := k) HX.out hlt hkl hf)
          have HOL := hid (extTo_length HX.out)
          have HCUT := hid (fun e => no_extents (extentsR_cut (xs := xs) (lss := lss) (k := k + 1) e (by omega)))
          obtain ⟨ls, els⟩ : ∃ ls, lss[k] = ls := ⟨_, rfl⟩
          obtain ⟨T, eT⟩ : ∃ T, xs[k] = T := ⟨_, rfl⟩
          rw [els] at hu y0 HBAD HFIT
          rw [eT] at hs x0 HBAD HFIT
          clear els eT
          have HHS := hid hs
          have HHU := hid hu
          have hlm : ls.length ≤ 9223372036854775807 := by
            obtain ⟨_, _, _, h1, h2, _⟩ := HHU.out
            unfold maxLen at h2
            omega
          have X0 := hid x0
          have Y0 := hid y0
          have x0 := (HB.out.cell (p := ⟨b, off + k * 2, none⟩) (World.block_lt_of_cell? _ _ x0)).trans x0
          have y0 := (HB.out.cell (p := ⟨bl, ol + k, none⟩) (World.block_lt_of_cell? _ _ y0)).trans y0
          have hsr := HHS.out.ext HB.out
          have hur := HHU.out.ext HB.out
          have HHR := hid hur
          clear hs hu hsr hur HX
          have qx := fun x : ExtW wr => (x.h.cell (p := ⟨b, off + k * 2, none⟩) (World.block_lt_of_cell? _ _ x0)).trans x0
          have qy := fun x : ExtW wr => (x.h.cell (p := ⟨bl, ol + k, none⟩) (World.block_lt_of_cell? _ _ y0)).trans y0
          by_cases hle : ls.length = T.shape.length
          case neg =>
            have hne : (((ls.length : Nat) : Int) != ((T.shape.length : Nat) : Int)) = true := by simp; omega
            have HN := hid (HCUT.out (HBAD.out (by simp [fitT, hle])))
            clear HBAD HFIT HCUT hle
            go_upto_region 9 with fail
            refine region_mk 20 (by kernel_rfl) (by kernel_rfl) ?_
            apply Exists.intro
            simp only [List.take_succ_cons, List.take_zero, List.drop_succ_cons, List.drop_zero]
            repeat (first
              | (apply grow_val (by rfl); (focus (intro x; (go_simp; try with_reducible rfl); done)); simp only [Act.put, List.setIfInBounds_toArray, List.set_cons_zero, List.set_cons_succ])
              | (apply grow_skip (by rfl); simp only [Act.put, List.setIfInBounds_toArray, List.set_cons_zero, List.set_cons_succ]))
            refine grow_nil ?_
            rintro ⟨w2, hb2⟩ - -
            have hb2 : Below wr.heap.size wr w2 := hb2
            have hq := HB.out.nx hb2 hsz
            clear qx qy x0 y0
            go_wp2
            refine bodyPost_ret (v := .tuple #[.slice none 0 0, .bool false]) (by simp [results, Try.results141, go_sem]) rfl ?_
            exact ⟨_, by rw [HN.out.2], by rw [HN.out.1]; exact Own.nil _ _, hq⟩
          have hne : (((ls.length : Nat) : Int) != ((T.shape.length : Nat) : Int)) = false := by simp; omega
          have HLE := hid hle
          cases hal : ls.all isLabel
          · have HN := hid (HCUT.out (HBAD.out (by simp [fitT, hal])))
            have HA : ∀ x : ExtW wr, Calls Try.prog 151 #[.slice Au ls.length cu, .int .i64 0, .int .i64 4] x.v fun e w' => e = .returned (.bool false) ∧ Below x.v.heap.size x.v w' := fun x => (allIn_any _ ls 0 4 x.v (HHR.out.ext x.h)).mono fun _ _ h => ⟨by rw [h.1]; exact ret_bool hal, h.2 ▸ Below.refl _ _⟩
            have HA := hid HA
            clear HBAD HFIT HCUT hle hal
            go_upto_region 9 with fail
            refine region_mk 20 (by kernel_rfl) (by kernel_rfl) ?_
            apply Exists.intro
            simp only [List.take_succ_cons, List.take_zero, List.drop_succ_cons, List.drop_zero]
            repeat (first
              | (apply grow_val (by rfl); (focus (intro x; (go_simp; try with_reducible rfl); done)); simp only [Act.put, List.setIfInBounds_toArray, List.set_cons_zero, List.set_cons_succ])
              | (apply grow_skip (by rfl); simp only [Act.put, List.setIfInBounds_toArray, List.set_cons_zero, List.set_cons_succ])
              | (apply grow_call (by rfl); (focus (intro x K Q hK; go_simp; (first | (go_at_call 151; (with_reducible refine (HA.out x).mono ?_); rintro e w' ⟨rfl, hb⟩; exact hK _ hb)); done)); simp only [Act.put, List.setIfInBounds_toArray, List.set_cons_zero, List.set_cons_succ]))
            refine grow_nil ?_
            rintro ⟨w2, hb2⟩ - -
            have hb2 : Below wr.heap.size wr w2 := hb2
            have hq := HB.out.nx hb2 hsz
            clear qx qy x0 y0
            go_wp2
            refine bodyPost_ret (v := .tuple #[.slice none 0 0, .bool false]) (by simp [results, Try.results141, go_sem]) rfl ?_
            exact ⟨_, by rw [HN.out.2], by rw [HN.out.1]; exact Own.nil _ _, hq⟩
          have HA : ∀ x : ExtW wr, Calls Try.prog 151 #[.slice Au ls.length cu, .int .i64 0, .int .i64 4] x.v fun e w' => e = .returned (.bool true) ∧ Below x.v.heap.size x.v w' := fun x => (allIn_any _ ls 0 4 x.v (HHR.out.ext x.h)).mono fun _ _ h => ⟨by rw [h.1]; exact ret_bool hal, h.2 ▸ Below.refl _ _⟩
          have HA := hid HA
          have hfit : fitT T ls = true := by simp [fitT, hal, hle]
          have HRG := hid (fitT_and hfit).2
          have HNX := hid (HFIT.out hfit)
          clear HBAD HFIT hle hal hfit
          go_upto_region 9 with fail
          refine region_mk 20 (by kernel_rfl) (by kernel_rfl) ?_
          apply Exists.intro
          simp only [List.take_succ_cons, List.take_zero, List.drop_succ_cons, List.drop_zero]
          repeat (first
            | (apply grow_val (by rfl); (focus (intro x; (go_simp; try with_reducible rfl); done)); simp only [Act.put, List.setIfInBounds_toArray, List.set_cons_zero, List.set_cons_succ])
            | (apply grow_skip (by rfl); simp only [Act.put, List.setIfInBounds_toArray, List.set_cons_zero, List.set_cons_succ])
            | (apply grow_call (by rfl); (focus (intro x K Q hK; go_simp; (first | (go_at_call 151; (with_reducible refine (HA.out x).mono ?_); rintro e w' ⟨rfl, hb⟩; exact hK _ hb)); done)); simp only [Act.put, List.setIfInBounds_toArray, List.set_cons_zero, List.set_cons_succ]))
          refine grow_nil ?_
          rintro ⟨w2, hb2⟩ - -
          have hb2 : Below wr.heap.size wr w2 := hb2
          clear qx qy HA
          have HB2 := hid (HB.out.nx hb2 hsz)
          have HO2 := hid (HO.out.ext hb2)
          have y0 := (hb2.cell (p := ⟨bl, ol + k, none⟩) (World.block_lt_of_cell? _ _ y0)).trans y0
          clear hb2 HB HO x0 HHR
          obtain ⟨wo, rfl⟩ : ∃ wo : World, wo = w2 := ⟨_, rfl⟩
          go_upto_region 12 with fail
          go_loopg [9] ls.length (fun m z wr => ∃ (d : Nat) (q : List Int), d ≤ ls.length ∧ m = ls.length - d ∧ z = .int .i64 d ∧ Hid (extD o ls T.shape d = some q) ∧ Own wr w.heap.size (.slice (some ⟨g1, 0, none⟩) 5 c1) q ∧ Below w.heap.size w wr)
          case atStart => exact ⟨0, o, Nat.zero_le _, rfl, rfl, hid rfl, HO2.out, HB2.out⟩
          case round =>
            obtain ⟨d, q, hd1, rfl, rfl, HQ, hown, hb⟩ := hrel
            clear HO2 HB2 y0
            have HO3 := hid hown
            clear hown
            by_cases hlt2 : d < ls.length
            · have x0 := (hb.cell (p := ⟨b, off + k * 2, none⟩) (World.block_lt_of_cell? _ _ X0.out)).trans X0.out
              have y0 := (hb.cell (p := ⟨bl, ol + k, none⟩) (World.block_lt_of_cell? _ _ Y0.out)).trans Y0.out
              have hds : d < T.shape.length := by rw [← HLE.out]; exact hlt2
              obtain ⟨bs, os, rfl, s0⟩ := (HHS.out.ext hb).elem d hds
              obtain ⟨bu, ou, rfl, l0⟩ := (HHU.out.ext hb).elem d hlt2
              obtain ⟨l, hl, hl5⟩ : ∃ l : Nat, ls[d] = (l : Int) ∧ l < 5 := by
                have := HRG.out ls[d] (List.getElem_mem hlt2)
                exact ⟨ls[d].toNat, by omega, by omega⟩
              rw [hl] at l0
              have hlq : l < q.length := by rw [extD_length HQ.out, HOL.out]; exact hl5
              have qc := HO3.out.cell l hlq
              obtain ⟨y, ey⟩ : ∃ y, q[l] = y := ⟨_, rfl⟩
              obtain ⟨z, ez⟩ : ∃ z, T.shape[d] = z := ⟨_, rfl⟩
              have HBN := hid (fun h0 h1 => extD_bad (o := o) (ls := ls) (shape := T.shape) (d := d) HQ.out hlt2 hds hl hlq h0 h1)
              have HNE := hid (fun h1 => extD_next (o := o) (ls := ls) (shape := T.shape) (d := d) HQ.out hlt2 hds hl hlq h1)
              rw [ey, ez] at HBN HNE
              rw [ey] at qc
              rw [ez] at s0
              have hki : (d : Int) < (ls.length : Int) := by omega
              have hds1 : (d : Int) < (T.shape.length : Int) := by omega
              have hl5i : (l : Int) < 5 := by omega
              clear hl ey ez HQ
              have HZ := hid hb.size
              go_upto_region 15 with fail
              have qq0 := fun x : ExtW wr => (x.h.cell (p := ⟨g1, l, none⟩) (World.block_lt_of_cell? _ _ qc)).trans qc
              have qq1 := fun x : ExtW wr => (x.h.cell (p := ⟨b, off + k * 2, none⟩) (World.block_lt_of_cell? _ _ x0)).trans x0
              have qq2 := fun x : ExtW wr => (x.h.cell (p := ⟨bs, os + d, none⟩) (World.block_lt_of_cell? _ _ s0)).trans s0
              by_cases hy0 : (0 : Int) ≤ y
              · by_cases hyz : y = z
                · have hne1 : (y != z) = false := by simp [hyz]
                  have HN3 := hid (HNE.out (.inr hyz))
                  clear HBN HNE hyz
                  refine region_mk 20 (by kernel_rfl) (by kernel_rfl) ?_
                  apply Exists.intro
                  simp only [List.take_succ_cons, List.take_zero, List.drop_succ_cons, List.drop_zero]
                  repeat (first
                    | (apply grow_val (by rfl); (focus (intro x; (go_simp; try with_reducible rfl); done)); simp only [Act.put, List.setIfInBounds_toArray, List.set_cons_zero, List.set_cons_succ])
                    | (apply grow_skip (by rfl); simp only [Act.put, List.setIfInBounds_toArray, List.set_cons_zero, List.set_cons_succ]))
                  refine grow_nil ?_
                  rintro ⟨w3, hb3⟩ - -
                  have hb3 : Below wr.heap.size wr w3 := hb3
                  have x0 := (hb3.cell (p := ⟨b, off + k * 2, none⟩) (World.block_lt_of_cell? _ _ x0)).trans x0
                  have s0 := (hb3.cell (p := ⟨bs, os + d, none⟩) (World.block_lt_of_cell? _ _ s0)).trans s0
                  have qc := (hb3.cell (p := ⟨g1, l, none⟩) (World.block_lt_of_cell? _ _ qc)).trans qc
                  have HP3 := hid ((HO3.out.ext hb3).put l z)
                  have qf := (HO3.out.ext hb3).free l
                  have HB4 := hid ((hb.nx hb3 HZ.out).setCell (p := ⟨g1, l, none⟩) hgB (.int .i64 z))
                  clear qq0 qq1 qq2 y0 l0 hb3 hb
                  go_wp2
                  go_roundg (ls.length - (d + 1))
                  case measure => omega
                  case rel => exact ⟨d + 1, _, by omega, rfl, by go_num, HN3, HP3.out, HB4.out⟩
                · have hne1 : (y != z) = true := by simp [hyz]
                  have HN := hid (HCUT.out (HNX.out.trans (extD_none (HBN.out hy0 hyz) (by omega))))
                  clear HBN HNE hyz
                  refine region_mk 20 (by kernel_rfl) (by kernel_rfl) ?_
                  apply Exists.intro
                  simp only [List.take_succ_cons, List.take_zero, List.drop_succ_cons, List.drop_zero]
                  repeat (first
                    | (apply grow_val (by rfl); (focus (intro x; (go_simp; try with_reducible rfl); done)); simp only [Act.put, List.setIfInBounds_toArray, List.set_cons_zero, List.set_cons_succ])
                    | (apply grow_skip (by rfl); simp only [Act.put, List.setIfInBounds_toArray, List.set_cons_zero, List.set_cons_succ]))
                  refine grow_nil ?_
                  rintro ⟨w3, hb3⟩ - -
                  have hb3 : Below wr.heap.size wr w3 := hb3
                  have hq := hb.nx hb3 HZ.out
                  clear qq0 qq1 qq2 x0 y0 s0 l0 qc
                  go_wp2
                  refine bodyPost_ret (v := .tuple #[.slice none 0 0, .bool false]) (by simp [results, Try.results141, go_sem]) rfl ?_
                  exact ⟨_, by rw [HN.out.2], by rw [HN.out.1]; exact Own.nil _ _, hq⟩
              · have HN3 := hid (HNE.out (.inl hy0))
                have hy1 : decide ((0 : Int) ≤ y) = false := by simpa using hy0
                clear HBN HNE
                refine region_mk 20 (by kernel_rfl) (by kernel_rfl) ?_
                apply Exists.intro
                simp only [List.take_succ_cons, List.take_zero, List.drop_succ_cons, List.drop_zero]
                repeat (first
                  | (apply grow_val (by rfl); (focus (intro x; (go_simp; try with_reducible rfl); done)); simp only [Act.put, List.setIfInBounds_toArray, List.set_cons_zero, List.set_cons_succ])
                  | (apply grow_skip (by rfl); simp only [Act.put, List.setIfInBounds_toArray, List.set_cons_zero, List.set_cons_succ]))
                refine grow_nil ?_
                rintro ⟨w3, hb3⟩ - -
                have hb3 : Below wr.heap.size wr w3 := hb3
                have x0 := (hb3.cell (p := ⟨b, off + k * 2, none⟩) (World.block_lt_of_cell? _ _ x0)).trans x0
                have s0 := (hb3.cell (p := ⟨bs, os + d, none⟩) (World.block_lt_of_cell? _ _ s0)).trans s0
                have qc := (hb3.cell (p := ⟨g1, l, none⟩) (World.block_lt_of_cell? _ _ qc)).trans qc
                have HP3 := hid ((HO3.out.ext hb3).put l z)
                have qf := (HO3.out.ext hb3).free l
                have HB4 := hid ((hb.nx hb3 HZ.out).setCell (p := ⟨g1, l, none⟩) hgB (.int .i64 z))
                clear qq0 qq1 qq2 y0 l0 hb3 hb
                go_wp2
                go_roundg (ls.length - (d + 1))
                case measure => omega
                case rel => exact ⟨d + 1, _, by omega, rfl, by go_num, HN3, HP3.out, HB4.out⟩
            · obtain rfl : ls.length = d := by omega
              have HX3 := hid (HNX.out.trans HQ.out)
              have y0 := (hb.cell (p := ⟨bl, ol + k, none⟩) (World.block_lt_of_cell? _ _ Y0.out)).trans Y0.out
              go_wp2
              go_roundg (xs.length - (k + 1))
              case measure => omega
              case rel => exact ⟨k + 1, q, by omega, rfl, by go_num, HX3, HO3.out, hb⟩
        · obtain rfl : xs.length = k := by omega
          have HY := hid (yes_extents (HR.out.trans HX.out))
          go_wp2
          refine bodyPost_ret (v := .tuple #[.slice (some ⟨g1, 0, none⟩) 5 c1, .bool true]) (by simp [results, Try.results141, go_sem]) rfl ?_
          exact ⟨_, by rw [HY.out.2], by rw [HY.out.1]; exact HO.out, HB.out⟩

set_option maxRecDepth 100000 in
set_option maxHeartbeats 6400000 in
theorem sExtentsOf_any (v vl : Value) (xs : List TL) (lss : List (List Int)) (w : World) (h : TensorsV w v xs) (hl : IntsS w vl lss) :
    Calls Try.prog 70 #[v, vl] w (RetExtB w (extentsL xs lss) (okExtents xs lss)) := by
  cases hok : okTs xs lss
  · have HN := hid (no_extents (extentsR_no hok))
    go_enter Try.func70, Try.ntmps70
    go_wp2_with fail
    refine (validTensors_any _ _ xs lss _ h hl).mono ?_; rintro e w1 ⟨rfl, hb⟩
    rw [hok]
    go_wp2
    refine bodyPost_ret (v := .tuple #[.slice none 0 0, .bool false]) (by simp [results, Try.results70, go_sem]) rfl ?_
    exact ⟨_, by rw [HN.out.2], by rw [HN.out.1]; exact Own.nil _ _, hb⟩
  · have HK := hid hok
    go_enter Try.func70, Try.ntmps70
    go_wp2_with fail
    refine (validTensors_any _ _ xs lss _ h hl).mono ?_; rintro e w1 ⟨rfl, hb⟩
    rw [hok]
    clear hok
    go_wp2_with fail
    refine (extents_any _ _ xs lss _ (h.ext hb) (hl.ext hb) HK.out).mono ?_; rintro e w2 ⟨r, rfl, ho, hb2⟩
    have HO := hid (ho.mono hb.size)
    obtain ⟨A1, c1, rfl⟩ := ho.form
    have HB := hid (hb.nx hb2 hb.size)
    clear ho hb hb2
    go_wp2
    refine bodyPost_ret (v := .tuple #[.slice A1 (extentsL xs lss).length c1, .bool (okExtents xs lss)]) (by simp [results, Try.results70, go_sem]) rfl ?_
    exact ⟨_, rfl, HO.out, HB.out⟩

end Go.Proofs.Ytldblcolnjkcaaa

/-! ## EXq -/
namespace Go.Proofs.Ytldblcolnjkcaaa
open Go.RowKit

/-- The extents o that the pairs (label, extent) leave. -/
def ExtG (o : List Int) (ps : List (Int × Int)) : Prop :=
  o.length = 5 ∧ (∀ p ∈ ps, (0 ≤ p.1 ∧ p.1 ≤ 4) ∧ 0 ≤ p.2 ∧ o.getD p.1.toNat 0 = p.2) ∧ ∀ i : Nat, i < 5 → (∀ p ∈ ps, p.1 ≠ (i : Int)) → o.getD i 0 = -1
theorem getD_set_same {xs : List Int} {i : Nat} {y : Int} (h : i < xs.length) : (xs.set i y).getD i 0 = y := by simp [h]
theorem getD_set_other {xs : List Int} {i j : Nat} {y : Int} (h : i ≠ j) : (xs.set i y).getD j 0 = xs.getD j 0 := by
  simp only [List.getD_eq_getElem?_getD, List.getElem?_set_ne h]
theorem ExtG.step {o : List Int} {ps : List (Int × Int)} {l s : Int} (h : ExtG o ps) (hl : 0 ≤ l ∧ l ≤ 4) (hs : 0 ≤ s) (hn : ¬ (0 ≤ o.getD l.toNat 0 ∧ o.getD l.toNat 0 ≠ s)) : ExtG (o.set l.toNat s) (ps ++ [(l, s)]) := by
  obtain ⟨h1, h2, h3⟩ := h
  refine ⟨by rw [List.length_set]; exact h1, fun p hp => ?_, fun i hi hni => ?_⟩
  · rcases List.mem_append.1 hp with hp | hp
    · obtain ⟨a, b, c⟩ := h2 p hp
      refine ⟨a, b, ?_⟩
      by_cases e : p.1 = l
      · rw [e] at c ⊢
        rw [getD_set_same (by omega)]
        rw [c] at hn
        omega
      · rw [getD_set_other (by omega)]
        exact c
    · have e : p = (l, s) := by simpa using hp
      subst e
      exact ⟨hl, hs, getD_set_same (by show l.toNat < o.length; omega)⟩
  · have h4 : l ≠ (i : Int) := hni (l, s) (by simp)
    rw [getD_set_other (by omega)]
    exact h3 i hi fun p hp => hni p (List.mem_append.2 (.inl hp))
theorem ExtG.start : ExtG ext0 [] := ⟨rfl, fun p hp => (by cases hp), fun i hi _ => by
  simp only [ext0, List.getD_eq_getElem?_getD, List.getElem?_replicate, hi, if_true, Option.getD_some]⟩
theorem zip_snoc {xs ys : List Int} {d : Nat} (h1 : d < xs.length) (h2 : d < ys.length) : (xs.zip ys).take (d + 1) = (xs.zip ys).take d ++ [(xs.getD d 0, ys.getD d 0)] := by
  rw [take_snocI _ d (by rw [List.length_zip]; omega), List.getElem_zip]
  simp [h1, h2]
theorem ExtG.dims {o ls shape : List Int} {ps : List (Int × Int)} (h : ExtG o ps) (hl : ∀ x ∈ ls, 0 ≤ x ∧ x ≤ 4) (hs : ∀ x ∈ shape, 0 ≤ x) (he : ls.length = shape.length) :
    ∀ d, d ≤ ls.length → ∀ r, extD o ls shape d = some r → ExtG r (ps ++ (ls.zip shape).take d)
  | 0, _, r, hr => by
    simp [extD] at hr
    subst hr
    simpa using h
  | d + 1, hd, r, hr => by
    simp only [extD, Option.bind_eq_some_iff] at hr
    obtain ⟨q, hq, hr⟩ := hr
    have hG := ExtG.dims h hl hs he d (by omega) q hq
    split at hr
    · cases hr
    · rename_i hn
      rw [← Option.some.inj hr, zip_snoc (by omega) (by omega), ← List.append_assoc]
      have a : ls.getD d 0 ∈ ls := by
        rw [List.getD_eq_getElem?_getD, List.getElem?_eq_getElem (by omega)]
        exact List.getElem_mem _
      have b : shape.getD d 0 ∈ shape := by
        rw [List.getD_eq_getElem?_getD, List.getElem?_eq_getElem (by omega)]
        exact List.getElem_mem _
      exact hG.step (hl _ a) (hs _ b) hn
/-- The pairs of the first k tensors. -/
def pairsTo (xs : List TL) (lss : List (List Int)) (k : Nat) : List (Int × Int) := (List.range k).flatMap fun j => (lss.getD j []).zip (xs.getD j ⟨[], []⟩).shape
theorem ExtG.tens {xs : List TL} {lss : List (List Int)} (hT : ∀ T ∈ xs, isTensorL T = true) : ∀ k, k ≤ xs.length → ∀ r, extTo xs lss k = some r → ExtG r (pairsTo xs lss k) ∧ ∀ j, j < k → (lss.getD j []).length = (xs.getD j ⟨[], []⟩).shape.length
  | 0, _, r, hr => by
    simp [extTo] at hr
    subst hr
    exact ⟨ExtG.start, fun j hj => by omega⟩
  | k + 1, hk, r, hr => by
    simp only [extTo, Option.bind_eq_some_iff] at hr
    obtain ⟨q, hq, hr⟩ := hr
    obtain ⟨hG, hL⟩ := ExtG.tens hT k (by omega) q hq
    unfold extT at hr
    split at hr
    · rename_i hf
      simp only [fitT, Bool.and_eq_true, decide_eq_true_eq, List.all_eq_true] at hf
      have hm : xs.getD k ⟨[], []⟩ ∈ xs := by
        rw [List.getD_eq_getElem?_getD, List.getElem?_eq_getElem (by omega)]
        exact List.getElem_mem _
      have hs := shape_ext (isTensorL_and (hT _ hm)).1
      have h := ExtG.dims hG (fun x hx => inR_iff.1 (hf.2 x hx)) (fun x hx => (hs.2.1 x hx).1) hf.1 _ (Nat.le_refl _) r hr
      rw [List.take_of_length_le (by rw [List.length_zip]; omega)] at h
      refine ⟨by simpa [pairsTo, List.range_succ] using h, fun j hj => ?_⟩
      rcases Nat.lt_or_ge j k with h1 | h1
      · exact hL j h1
      · obtain rfl : j = k := by omega
        exact hf.1
    · cases hr
/-- What the law says of extents that there are. -/
theorem extents_say {xs : List TL} {lss : List (List Int)} (h : okExtents xs lss = true) : (extentsL xs lss).length = 5 ∧ lss.length = xs.length ∧
    (∀ k (h1 : k < xs.length) (h2 : k < lss.length), lss[k].length = xs[k].shape.length ∧ ∀ j (h3 : j < lss[k].length) (h4 : j < xs[k].shape.length), (0 ≤ lss[k][j] ∧ lss[k][j] ≤ 4) ∧ (extentsL xs lss).getD lss[k][j].toNat 0 = xs[k].shape[j]) ∧
    ∀ i : Nat, i < 5 → ((∃ ls ∈ lss, (i : Int) ∈ ls) ↔ 0 ≤ (extentsL xs lss).getD i 0) := by
  obtain ⟨r, hr⟩ : ∃ r, extentsR xs lss = some r := Option.isSome_iff_exists.1 h
  have e := (yes_extents hr).1
  unfold extentsR at hr
  split at hr
  case isFalse => cases hr
  rename_i hok
  simp only [okTs, Bool.and_eq_true, decide_eq_true_eq, List.all_eq_true] at hok
  obtain ⟨hG, hL⟩ := ExtG.tens hok.1.1 _ (Nat.le_refl _) r hr
  rw [e]
  obtain ⟨g1, g2, g3⟩ := hG
  have hp : ∀ k (h1 : k < xs.length) (h2 : k < lss.length) j (h3 : j < lss[k].length) (h4 : j < xs[k].shape.length), (lss[k][j], xs[k].shape[j]) ∈ pairsTo xs lss xs.length := fun k h1 h2 j h3 h4 => by
    refine List.mem_flatMap.2 ⟨k, List.mem_range.2 h1, ?_⟩
    have a : lss.getD k [] = lss[k] := by simp [h2]
    have b : xs.getD k ⟨[], []⟩ = xs[k] := by simp [h1]
    rw [a, b]
    refine List.mem_iff_getElem.2 ⟨j, by rw [List.length_zip]; omega, by simp⟩
  refine ⟨g1, hok.2, fun k h1 h2 => ?_, fun i hi => ⟨?_, fun hge => ?_⟩⟩
  · have hl := hL k h1
    have a : lss.getD k [] = lss[k] := by simp [h2]
    have b : xs.getD k ⟨[], []⟩ = xs[k] := by simp [h1]
    rw [a, b] at hl
    refine ⟨hl, fun j h3 h4 => ?_⟩
    have := g2 _ (hp k h1 h2 j h3 h4)
    exact ⟨this.1, this.2.2⟩
  · rintro ⟨ls, hls, hin⟩
    obtain ⟨k, hk, rfl⟩ := List.getElem_of_mem hls
    obtain ⟨j, hj, ej⟩ := List.getElem_of_mem hin
    have h1 : k < xs.length := by have := hok.2; omega
    have hl := hL k h1
    have a : lss.getD k [] = lss[k] := by simp [hk]
    have b : xs.getD k ⟨[], []⟩ = xs[k] := by simp [h1]
    rw [a, b] at hl
    have := g2 _ (hp k h1 hk j hj (by omega))
    rw [ej] at this
    have h5 := this.2.2
    rw [Int.toNat_natCast] at h5
    rw [h5]
    exact this.2.1
  · apply Classical.byContradiction
    intro hno
    have : r.getD i 0 = -1 := g3 i hi fun p hp ep => hno (by
      obtain ⟨k, hk, hz⟩ := List.mem_flatMap.1 hp
      have hk := List.mem_range.1 hk
      have h2 : k < lss.length := by have := hok.2; omega
      have a : lss.getD k [] = lss[k] := by simp [h2]
      rw [a] at hz
      have hm := (List.of_mem_zip (a := p.1) (b := p.2) hz).1
      exact ⟨lss[k], List.getElem_mem h2, by rw [← ep]; exact hm⟩)
    omega

end Go.Proofs.Ytldblcolnjkcaaa

/-! ## EX2 -/
namespace Go.Proofs.Ytldblcolnjkcaaa
open Go.RowKit

theorem label_eq (x : Int) : (decide (x < 0) || decide (4 < x)) = !isLabel x := by
  rw [Bool.eq_iff_iff]; simp [isLabel, inR]
set_option maxRecDepth 100000 in
set_option maxHeartbeats 800000 in
theorem areLabels1_any (x : Int) (w : World) :
    Calls Try.prog 177 #[.int .i64 x] w fun e w' => e = .returned (.bool (!isLabel x)) ∧ w = w' := by
  by_cases h1 : x < 0
  · have H := hid (show isLabel x = false by simp [isLabel, inR]; omega)
    go_enter Try.func177, Try.ntmps177
    go_wp2
    go_ret
    exact ⟨ret_bool (by rw [H.out]; rfl), rfl⟩
  · have H := hid (label_eq x)
    have h2 : decide (x < 0) = false := by simp; omega
    go_enter Try.func177, Try.ntmps177
    go_wp2
    go_ret
    exact ⟨ret_bool (by rw [← H.out, h2]; rfl), rfl⟩
theorem cf_areLabels1 (ar : Array Value) (w : World) : (callFunc 177 ar).run Try.prog w = .ok (.enter 177 ar) w := by kernel_rfl
set_option maxRecDepth 100000 in
set_option maxHeartbeats 6400000 in
theorem areLabels_any (v : Value) (xs : List Int) (w : World) (h : Ints w v xs) :
    Calls Try.prog 165 #[v] w fun e w' => e = .returned (.bool (xs.all isLabel)) ∧ w = w' := by
  have HN := hid (any_not_all xs isLabel)
  go_enter Try.func165, Try.ntmps165
  go_wp2_with fail
  refine (ContainsFunc_any 177 cf_areLabels1 (fun x => !isLabel x) areLabels1_any _ xs _ h).mono ?_; rintro e w' ⟨rfl, rfl⟩
  go_wp2
  go_ret
  exact ⟨ret_bool HN.out, rfl⟩
/-- The first k places of five hold -1. -/
def neg5 (k : Nat) : List Int := (List.range 5).map fun j => if j < k then -1 else 0
theorem neg5_len (k : Nat) : (neg5 k).length = 5 := by simp [neg5]
theorem neg5_put (k : Nat) (_ : k < 5) : (neg5 k).set k (-1) = neg5 (k + 1) := by
  apply List.ext_getElem
  · simp [neg5]
  · intro i h1 h2
    rw [List.getElem_set]
    simp only [neg5, List.getElem_map, List.getElem_range]
    split
    · rename_i e; subst e; rw [if_pos (by omega)]
    · rename_i e
      by_cases h : i < k
      · rw [if_pos h, if_pos (by omega)]
      · rw [if_neg h, if_neg (by omega)]

set_option maxRecDepth 100000 in
set_option maxHeartbeats 6400000 in
theorem extentsOf_any (v vl : Value) (xs : List TL) (lss : List (List Int)) (w : World) (h : TensorsV w v xs) (hl : IntsS w vl lss) :
    Calls Try.prog 142 #[v, vl] w (RetExtB w (extentsL xs lss) (okExtents xs lss)) := by
  obtain ⟨A, c, rfl, hk, hm⟩ := h.form
  obtain ⟨Al, cl, rfl, hkl, hml⟩ := hl.form
  by_cases h1 : xs.length < 1
  · have h1i : (xs.length : Int) < 1 := by omega
    have HN := hid (no_extents (extentsR_no (show okTs xs lss = false by unfold okTs; simp; omega)))
    go_enter Try.func142, Try.ntmps142
    go_wp2
    refine bodyPost_ret (v := .tuple #[.slice none 0 0, .bool false]) (by simp [results, Try.results142, go_sem]) rfl ?_
    exact ⟨_, by rw [HN.out.2], by rw [HN.out.1]; exact Own.nil _ _, Below.refl _ _⟩
  have h1d : decide ((xs.length : Int) < 1) = false := by simp; omega
  by_cases h3 : 3 < xs.length
  · have h3d : decide ((3 : Int) < (xs.length : Int)) = true := by simp; omega
    have HN := hid (no_extents (extentsR_no (show okTs xs lss = false by unfold okTs; simp; omega)))
    go_enter Try.func142, Try.ntmps142
    go_wp2
    refine bodyPost_ret (v := .tuple #[.slice none 0 0, .bool false]) (by simp [results, Try.results142, go_sem]) rfl ?_
    exact ⟨_, by rw [HN.out.2], by rw [HN.out.1]; exact Own.nil _ _, Below.refl _ _⟩
  have h3d : decide ((3 : Int) < (xs.length : Int)) = false := by simp; omega
  by_cases hll : lss.length = xs.length
  case neg =>
    have hne : (((lss.length : Nat) : Int) != ((xs.length : Nat) : Int)) = true := by simp; omega
    have HN := hid (no_extents (extentsR_no (show okTs xs lss = false by unfold okTs; simp [hll])))
    clear hll
    go_enter Try.func142, Try.ntmps142
    go_wp2
    refine bodyPost_ret (v := .tuple #[.slice none 0 0, .bool false]) (by simp [results, Try.results142, go_sem]) rfl ?_
    exact ⟨_, by rw [HN.out.2], by rw [HN.out.1]; exact Own.nil _ _, Below.refl _ _⟩
  have hne : (((lss.length : Nat) : Int) != ((xs.length : Nat) : Int)) = false := by simp [hll]
  have HLL := hid hll
  have HALL := hid (fun (hv : xs.all isTensorL = true) => show extentsR xs lss = extTo xs lss xs.length by
    have : okTs xs lss = true := by unfold okTs; rw [hv]; simp; omega
    simp [extentsR, this])
  have HINV := hid (fun (hv : xs.all isTensorL = false) => no_extents (extentsR_no (show okTs xs lss = false by unfold okTs; rw [hv]; rfl)))
  clear hll
  go_enter Try.func142, Try.ntmps142
  go_wp2_with (at_make; refine mk0 _ rfl _ _ rfl 5 rfl rfl (by omega) ?_)
  intro w1 hown1 hb1
  have HO1 := hid (show Own w1 w.heap.size (.slice (some ⟨w.heap.size, 0, none⟩) 5 5) (neg5 0) from hown1)
  have HB1 := hid hb1
  obtain ⟨g1, hg1⟩ : ∃ g, g = w.heap.size := ⟨_, rfl⟩
  rw [← hg1] at HO1 ⊢
  have HG1 := hid hg1
  clear hown1 hb1 hg1
  go_upto_region 5 with fail
  go_loopg [30] 5 (fun g i wr => ∃ k : Nat, k ≤ 5 ∧ g = 5 - k ∧ i = .int .i64 k ∧ Own wr g1 (.slice (some ⟨g1, 0, none⟩) 5 5) (neg5 k) ∧ Below w.heap.size w wr)
  case atStart => exact ⟨0, Nat.zero_le _, rfl, rfl, HO1.out, HB1.out⟩
  case round =>
    obtain ⟨k, hk1, rfl, rfl, hown, hb⟩ := hrel
    clear HO1 HB1
    have HO := hid hown
    have HB := hid hb
    by_cases hlt : k < 5
    · have hki : (k : Int) < 5 := by omega
      have qc := HO.out.cell k (by rw [neg5_len]; exact hlt)
      have qf := HO.out.free k
      have HP := hid (HO.out.put k (-1))
      rw [neg5_put k hlt] at HP
      have HB2 := hid (hb.setCell (p := ⟨g1, k, none⟩) (Nat.le_of_eq HG1.out.symm) (.int .i64 (-1)))
      clear hown hb HO HB
      go_wp2
      go_roundg (5 - (k + 1))
      case measure => omega
      case rel => exact ⟨k + 1, by omega, rfl, by go_num, HP.out, HB2.out⟩
    · obtain rfl : k = 5 := by omega
      have HO2 := hid (show Own wr g1 (.slice (some ⟨g1, 0, none⟩) 5 5) ext0 from HO.out)
      have HBw := hid hb
      clear HO HB hown hb
      obtain ⟨wz, rfl⟩ : ∃ wz : World, wz = wr := ⟨_, rfl⟩
      go_upto_region 10 with fail
      go_loopg [39] xs.length (fun m z wr => ∃ (k : Nat) (o : List Int), k ≤ xs.length ∧ m = xs.length - k ∧ z = .int .i64 k ∧ Hid (extTo xs lss k = some o) ∧ Hid ((xs.take k).all isTensorL = true) ∧ Own wr g1 (.slice (some ⟨g1, 0, none⟩) 5 5) o ∧ Below w.heap.size w wr)
      case atStart => exact ⟨0, ext0, Nat.zero_le _, rfl, rfl, hid rfl, hid (by simp), HO2.out, HBw.out⟩
      case round =>
        obtain ⟨k, o, hk1, rfl, rfl, HX, HAT, hown, hb⟩ := hrel
        clear HO2 HBw
        have HO := hid hown
        have HB := hid hb
        have hsz := hb.size
        clear hown
        by_cases hlt : k < xs.length
        · have hkl : k < lss.length := by rw [HLL.out]; exact hlt
          obtain ⟨b, off, u1, u2, rfl, x0, x1, hT⟩ := h.at_ k hlt
          obtain ⟨bl, ol, ul, rfl, y0, hu⟩ := hl.elem k hkl
          obtain ⟨s1, t1, ev, hs, ht⟩ := hT
          have ev1 : u1 = s1 ∧ u2 = t1 := by simpa using ev
          obtain ⟨rfl, rfl⟩ := ev1
          obtain ⟨As, cs, es⟩ := hs.form
          obtain ⟨At, ct, et⟩ := ht.form
          obtain ⟨Au, cu, eu⟩ := hu.form
          subst es et eu
          clear ev hb
          have hki : (k : Int) < (xs.length : Int) := by omega
          have hkli : (k : Int) < (lss.length : Int) := by omega
          have HBAD := hid (fun hf => extTo_bad (k := k) HX.out hlt hkl hf)
          have HFIT := hid (fun hf => extTo_fit (k := k) HX.out hlt hkl hf)
          have HOL := hid (extTo_length HX.out)
          have HCUT := hid (fun e => no_extents (extentsR_cut (xs := xs) (lss := lss) (k := k + 1) e (by omega)))
          have HS := hid (allT_snoc isTensorL xs k hlt HAT.out)
          have HF := hid (fun hp => HINV.out (allT_false isTensorL xs k hlt hp))
          obtain ⟨ls, els⟩ : ∃ ls, lss[k] = ls := ⟨_, rfl⟩
          obtain ⟨T, eT⟩ : ∃ T, xs[k] = T := ⟨_, rfl⟩
          rw [els] at hu y0 HBAD HFIT
          rw [eT] at hs ht x0 x1 HBAD HFIT HS HF
          clear els eT
          have HHS := hid hs
          have HHT := hid ht
          have HHU := hid hu
          have hlm : ls.length ≤ 9223372036854775807 := by
            obtain ⟨_, _, _, h1, h2, _⟩ := HHU.out
            unfold maxLen at h2
            omega
          have X0 := hid x0
          have Y0 := hid y0
          have x0 := (HB.out.cell (p := ⟨b, off + k * 2, none⟩) (World.block_lt_of_cell? _ _ x0)).trans x0
          have x1 := (HB.out.cell (p := ⟨b, off + k * 2 + 1, none⟩) (World.block_lt_of_cell? _ _ x1)).trans x1
          have hT := hid (show TensorV w (.agg #[.slice As T.shape.length cs, .slice At T.values.length ct]) T from ⟨_, _, rfl, HHS.out, HHT.out⟩)
          clear hs ht hu HX HAT
          have hZ := Blk.new wr 75 #[.slice As T.shape.length cs, .slice At T.values.length ct]
          have hbz := below_alloc wr (.cells #[.slice As T.shape.length cs, .slice At T.values.length ct] 75)
          have HB0 := hid (HB.out.nx hbz hsz)
          have HO0 := hid (HO.out.ext hbz)
          have hzs : wr.heap.size < (wr.alloc (.cells #[.slice As T.shape.length cs, .slice At T.values.length ct] 75)).heap.size := by simp
          have hgne : g1 < wr.heap.size := (HO.out.lt g1 rfl).2
          go_upto_region 12 with fail
          clear x0 x1 hbz
          generalize wr.alloc (.cells #[.slice As T.shape.length cs, .slice At T.values.length ct] 75) = w2 at *
          obtain ⟨gz, egz⟩ : ∃ gz, wr.heap.size = gz := ⟨_, rfl⟩
          rw [egz] at hZ hzs hgne ⊢
          have y0 := (HB0.out.cell (p := ⟨bl, ol + k, none⟩) (World.block_lt_of_cell? _ _ Y0.out)).trans Y0.out
          have hsz2 := HB0.out.size
          have HUR := hid (HHU.out.ext HB0.out)
          have HTR := hid (TensorV.ext hT.out HB0.out)
          have qz := fun x : ExtW w2 => (x.at_ hZ).all2.1
          have qy := fun x : ExtW w2 => (x.h.cell (p := ⟨bl, ol + k, none⟩) (World.block_lt_of_cell? _ _ y0)).trans y0
          clear HB HO hsz egz
          cases hit : isTensorL T
          · have HN := hid (HF.out hit)
            have HA : ∀ x : ExtW w2, Calls Try.prog 139 #[.agg #[.slice As T.shape.length cs, .slice At T.values.length ct]] x.v fun e w' => e = .returned (.bool false) ∧ Below x.v.heap.size x.v w' := fun x => (isTensor_any _ T x.v (TensorV.ext HTR.out x.h)).mono fun _ _ h => ⟨by rw [h.1]; exact ret_bool hit, h.2⟩
            have HA := hid HA
            clear HBAD HFIT HCUT HS HF hit
            refine region_mk 22 (by kernel_rfl) (by kernel_rfl) ?_
            apply Exists.intro
            simp only [List.take_succ_cons, List.take_zero, List.drop_succ_cons, List.drop_zero]
            repeat (first
              | (apply grow_val (by rfl); (focus (intro x; (go_simp; try with_reducible rfl); done)); simp only [Act.put, List.setIfInBounds_toArray, List.set_cons_zero, List.set_cons_succ])
              | (apply grow_skip (by rfl); simp only [Act.put, List.setIfInBounds_toArray, List.set_cons_zero, List.set_cons_succ])
              | (apply grow_call (by rfl); (focus (intro x K Q hK; go_simp; (first | (go_at_call 139; (with_reducible refine (HA.out x).mono ?_); rintro e w' ⟨rfl, hb⟩; exact hK _ hb)); done)); simp only [Act.put, List.setIfInBounds_toArray, List.set_cons_zero, List.set_cons_succ]))
            refine grow_nil ?_
            rintro ⟨w3, hb3⟩ - -
            have hb3 : Below w2.heap.size w2 w3 := hb3
            have hq := HB0.out.nx hb3 hsz2
            clear qz qy
            go_wp2
            refine bodyPost_ret (v := .tuple #[.slice none 0 0, .bool false]) (by simp [results, Try.results142, go_sem]) rfl ?_
            exact ⟨_, by rw [HN.out.2], by rw [HN.out.1]; exact Own.nil _ _, hq⟩
          have HIT : ∀ x : ExtW w2, Calls Try.prog 139 #[.agg #[.slice As T.shape.length cs, .slice At T.values.length ct]] x.v fun e w' => e = .returned (.bool true) ∧ Below x.v.heap.size x.v w' := fun x => (isTensor_any _ T x.v (TensorV.ext HTR.out x.h)).mono fun _ _ h => ⟨by rw [h.1]; exact ret_bool hit, h.2⟩
          have HIT := hid HIT
          have HS1 := hid (HS.out.trans hit)
          clear HS HF hit
          by_cases hle : ls.length = T.shape.length
          case neg =>
            have hne2 : (((ls.length : Nat) : Int) != ((T.shape.length : Nat) : Int)) = true := by simp; omega
            have HN := hid (HCUT.out (HBAD.out (by simp [fitT, hle])))
            clear HBAD HFIT HCUT hle
            refine region_mk 22 (by kernel_rfl) (by kernel_rfl) ?_
            apply Exists.intro
            simp only [List.take_succ_cons, List.take_zero, List.drop_succ_cons, List.drop_zero]
            repeat (first
              | (apply grow_val (by rfl); (focus (intro x; (go_simp; try with_reducible rfl); done)); simp only [Act.put, List.setIfInBounds_toArray, List.set_cons_zero, List.set_cons_succ])
              | (apply grow_skip (by rfl); simp only [Act.put, List.setIfInBounds_toArray, List.set_cons_zero, List.set_cons_succ])
              | (apply grow_call (by rfl); (focus (intro x K Q hK; go_simp; (first | (go_at_call 139; (with_reducible refine (HIT.out x).mono ?_); rintro e w' ⟨rfl, hb⟩; exact hK _ hb)); done)); simp only [Act.put, List.setIfInBounds_toArray, List.set_cons_zero, List.set_cons_succ]))
            refine grow_nil ?_
            rintro ⟨w3, hb3⟩ - -
            have hb3 : Below w2.heap.size w2 w3 := hb3
            have hq := HB0.out.nx hb3 hsz2
            clear qz qy
            go_wp2
            refine bodyPost_ret (v := .tuple #[.slice none 0 0, .bool false]) (by simp [results, Try.results142, go_sem]) rfl ?_
            exact ⟨_, by rw [HN.out.2], by rw [HN.out.1]; exact Own.nil _ _, hq⟩
          have hne2 : (((ls.length : Nat) : Int) != ((T.shape.length : Nat) : Int)) = false := by simp; omega
          have HLE := hid hle
          cases hal : ls.all isLabel
          · have HN := hid (HCUT.out (HBAD.out (by simp [fitT, hal])))
            have HA : ∀ x : ExtW w2, Calls Try.prog 165 #[.slice Au ls.length cu] x.v fun e w' => e = .returned (.bool false) ∧ Below x.v.heap.size x.v w' := fun x => (areLabels_any _ ls x.v (HUR.out.ext x.h)).mono fun _ _ h => ⟨by rw [h.1]; exact ret_bool hal, h.2 ▸ Below.refl _ _⟩
            have HA := hid HA
            clear HBAD HFIT HCUT hle hal
            refine region_mk 22 (by kernel_rfl) (by kernel_rfl) ?_
            apply Exists.intro
            simp only [List.take_succ_cons, List.take_zero, List.drop_succ_cons, List.drop_zero]
            repeat (first
              | (apply grow_val (by rfl); (focus (intro x; (go_simp; try with_reducible rfl); done)); simp only [Act.put, List.setIfInBounds_toArray, List.set_cons_zero, List.set_cons_succ])
              | (apply grow_skip (by rfl); simp only [Act.put, List.setIfInBounds_toArray, List.set_cons_zero, List.set_cons_succ])
              | (apply grow_call (by rfl); (focus (intro x K Q hK; go_simp; (first | (go_at_call 139; (with_reducible refine (HIT.out x).mono ?_); rintro e w' ⟨rfl, hb⟩; exact hK _ hb) | (go_at_call 165; (with_reducible refine (HA.out x).mono ?_); rintro e w' ⟨rfl, hb⟩; exact hK _ hb)); done)); simp only [Act.put, List.setIfInBounds_toArray, List.set_cons_zero, List.set_cons_succ]))
            refine grow_nil ?_
            rintro ⟨w3, hb3⟩ - -
            have hb3 : Below w2.heap.size w2 w3 := hb3
            have hq := HB0.out.nx hb3 hsz2
            clear qz qy
            go_wp2
            refine bodyPost_ret (v := .tuple #[.slice none 0 0, .bool false]) (by simp [results, Try.results142, go_sem]) rfl ?_
            exact ⟨_, by rw [HN.out.2], by rw [HN.out.1]; exact Own.nil _ _, hq⟩
          have HA : ∀ x : ExtW w2, Calls Try.prog 165 #[.slice Au ls.length cu] x.v fun e w' => e = .returned (.bool true) ∧ Below x.v.heap.size x.v w' := fun x => (areLabels_any _ ls x.v (HUR.out.ext x.h)).mono fun _ _ h => ⟨by rw [h.1]; exact ret_bool hal, h.2 ▸ Below.refl _ _⟩
          have HA := hid HA
          have hfit : fitT T ls = true := by simp [fitT, hal, hle]
          have HRG := hid (fitT_and hfit).2
          have HNX := hid (HFIT.out hfit)
          clear HBAD HFIT hle hal hfit
          refine region_mk 22 (by kernel_rfl) (by kernel_rfl) ?_
          apply Exists.intro
          simp only [List.take_succ_cons, List.take_zero, List.drop_succ_cons, List.drop_zero]
          repeat (first
            | (apply grow_val (by rfl); (focus (intro x; (go_simp; try with_reducible rfl); done)); simp only [Act.put, List.setIfInBounds_toArray, List.set_cons_zero, List.set_cons_succ])
            | (apply grow_skip (by rfl); simp only [Act.put, List.setIfInBounds_toArray, List.set_cons_zero, List.set_cons_succ])
            | (apply grow_call (by rfl); (focus (intro x K Q hK; go_simp; (first | (go_at_call 139; (with_reducible refine (HIT.out x).mono ?_); rintro e w' ⟨rfl, hb⟩; exact hK _ hb) | (go_at_call 165; (with_reducible refine (HA.out x).mono ?_); rintro e w' ⟨rfl, hb⟩; exact hK _ hb)); done)); simp only [Act.put, List.setIfInBounds_toArray, List.set_cons_zero, List.set_cons_succ]))
          refine grow_nil ?_
          rintro ⟨w3, hb3⟩ - -
          have hb3 : Below w2.heap.size w2 w3 := hb3
          clear qz qy HA HIT
          have HB3 := hid (HB0.out.nx hb3 hsz2)
          have HO3 := hid (HO0.out.ext hb3)
          have HZ3 := hid (Blk.ext hZ hb3 hZ.lt)
          have y0 := (hb3.cell (p := ⟨bl, ol + k, none⟩) (World.block_lt_of_cell? _ _ y0)).trans y0
          clear hb3 HB0 HO0 hZ HUR HTR hzs
          obtain ⟨wo, rfl⟩ : ∃ wo : World, wo = w3 := ⟨_, rfl⟩
          go_upto_region 15 with fail
          go_loopg [71] ls.length (fun m z wr => ∃ (d : Nat) (q : List Int), d ≤ ls.length ∧ m = ls.length - d ∧ z = .int .i64 d ∧ Hid (extD o ls T.shape d = some q) ∧ Own wr g1 (.slice (some ⟨g1, 0, none⟩) 5 5) q ∧ Below w.heap.size w wr ∧ Blk wr gz 75 #[.slice As T.shape.length cs, .slice At T.values.length ct])
          case atStart => exact ⟨0, o, Nat.zero_le _, rfl, rfl, hid rfl, HO3.out, HB3.out, HZ3.out⟩
          case round =>
            obtain ⟨d, q, hd1, rfl, rfl, HQ, hown, hb, hZ⟩ := hrel
            clear HO3 HB3 HZ3 y0
            have HO3 := hid hown
            clear hown
            by_cases hlt2 : d < ls.length
            · have hds : d < T.shape.length := by rw [← HLE.out]; exact hlt2
              obtain ⟨bs, os, rfl, s0⟩ := (HHS.out.ext hb).elem d hds
              obtain ⟨bu, ou, rfl, l0⟩ := (HHU.out.ext hb).elem d hlt2
              obtain ⟨l, hl, hl5⟩ : ∃ l : Nat, ls[d] = (l : Int) ∧ l < 5 := by
                have := HRG.out ls[d] (List.getElem_mem hlt2)
                exact ⟨ls[d].toNat, by omega, by omega⟩
              rw [hl] at l0
              have hlq : l < q.length := by rw [extD_length HQ.out, HOL.out]; exact hl5
              have qc := HO3.out.cell l hlq
              obtain ⟨y, ey⟩ : ∃ y, q[l] = y := ⟨_, rfl⟩
              obtain ⟨z, ez⟩ : ∃ z, T.shape[d] = z := ⟨_, rfl⟩
              have HBN := hid (fun h0 h1 => extD_bad (o := o) (ls := ls) (shape := T.shape) (d := d) HQ.out hlt2 hds hl hlq h0 h1)
              have HNE := hid (fun h1 => extD_next (o := o) (ls := ls) (shape := T.shape) (d := d) HQ.out hlt2 hds hl hlq h1)
              rw [ey, ez] at HBN HNE
              rw [ey] at qc
              rw [ez] at s0
              have hdi : (d : Int) < (ls.length : Int) := by omega
              have hds1 : (d : Int) < (T.shape.length : Int) := by omega
              have hl5i : (l : Int) < 5 := by omega
              clear hl ey ez HQ
              have HZ := hid hb.size
              go_upto_region 17 with fail
              have qq0 := fun x : ExtW wr => (x.h.cell (p := ⟨g1, l, none⟩) (World.block_lt_of_cell? _ _ qc)).trans qc
              have qq1 := fun x : ExtW wr => (x.at_ hZ).all2.1
              have qq2 := fun x : ExtW wr => (x.h.cell (p := ⟨bs, os + d, none⟩) (World.block_lt_of_cell? _ _ s0)).trans s0
              by_cases hy0 : (0 : Int) ≤ y
              · by_cases hyz : y = z
                · have hne1 : (y != z) = false := by simp [hyz]
                  have HN3 := hid (HNE.out (.inr hyz))
                  clear HBN HNE hyz
                  refine region_mk 17 (by kernel_rfl) (by kernel_rfl) ?_
                  apply Exists.intro
                  simp only [List.take_succ_cons, List.take_zero, List.drop_succ_cons, List.drop_zero]
                  repeat (first
                    | (apply grow_val (by rfl); (focus (intro x; (go_simp; try with_reducible rfl); done)); simp only [Act.put, List.setIfInBounds_toArray, List.set_cons_zero, List.set_cons_succ])
                    | (apply grow_skip (by rfl); simp only [Act.put, List.setIfInBounds_toArray, List.set_cons_zero, List.set_cons_succ]))
                  refine grow_nil ?_
                  rintro ⟨w3, hb3⟩ - -
                  have hb3 : Below wr.heap.size wr w3 := hb3
                  have hZ3 := Blk.ext hZ hb3 hZ.lt
                  obtain ⟨⟨z0, z1⟩, -⟩ := id hZ3.all2
                  have s0 := (hb3.cell (p := ⟨bs, os + d, none⟩) (World.block_lt_of_cell? _ _ s0)).trans s0
                  have qc := (hb3.cell (p := ⟨g1, l, none⟩) (World.block_lt_of_cell? _ _ qc)).trans qc
                  have HP3 := hid ((HO3.out.ext hb3).put l z)
                  have qf := (HO3.out.ext hb3).free l
                  have HB4 := hid ((hb.nx hb3 HZ.out).setCell (p := ⟨g1, l, none⟩) (Nat.le_of_eq HG1.out.symm) (.int .i64 z))
                  have HZ4 := hid (hZ3.far (p := ⟨g1, l, none⟩) (by show gz ≠ g1; omega) (.int .i64 z))
                  clear qq0 qq1 qq2 l0 hb3 hb
                  go_wp2
                  go_roundg (ls.length - (d + 1))
                  case measure => omega
                  case rel => exact ⟨d + 1, _, by omega, rfl, by go_num, HN3, HP3.out, HB4.out, HZ4.out⟩
                · have hne1 : (y != z) = true := by simp [hyz]
                  have HN := hid (HCUT.out (HNX.out.trans (extD_none (HBN.out hy0 hyz) (by omega))))
                  clear HBN HNE hyz
                  refine region_mk 17 (by kernel_rfl) (by kernel_rfl) ?_
                  apply Exists.intro
                  simp only [List.take_succ_cons, List.take_zero, List.drop_succ_cons, List.drop_zero]
                  repeat (first
                    | (apply grow_val (by rfl); (focus (intro x; (go_simp; try with_reducible rfl); done)); simp only [Act.put, List.setIfInBounds_toArray, List.set_cons_zero, List.set_cons_succ])
                    | (apply grow_skip (by rfl); simp only [Act.put, List.setIfInBounds_toArray, List.set_cons_zero, List.set_cons_succ]))
                  refine grow_nil ?_
                  rintro ⟨w3, hb3⟩ - -
                  have hb3 : Below wr.heap.size wr w3 := hb3
                  have hq := hb.nx hb3 HZ.out
                  clear qq0 qq1 qq2 s0 l0 qc
                  go_wp2
                  refine bodyPost_ret (v := .tuple #[.slice none 0 0, .bool false]) (by simp [results, Try.results142, go_sem]) rfl ?_
                  exact ⟨_, by rw [HN.out.2], by rw [HN.out.1]; exact Own.nil _ _, hq⟩
              · have HN3 := hid (HNE.out (.inl hy0))
                have hy1 : decide ((0 : Int) ≤ y) = false := by simpa using hy0
                clear HBN HNE
                refine region_mk 17 (by kernel_rfl) (by kernel_rfl) ?_
                apply Exists.intro
                simp only [List.take_succ_cons, List.take_zero, List.drop_succ_cons, List.drop_zero]
                repeat (first
                  | (apply grow_val (by rfl); (focus (intro x; (go_simp; try with_reducible rfl); done)); simp only [Act.put, List.setIfInBounds_toArray, List.set_cons_zero, List.set_cons_succ])
                  | (apply grow_skip (by rfl); simp only [Act.put, List.setIfInBounds_toArray, List.set_cons_zero, List.set_cons_succ]))
                refine grow_nil ?_
                rintro ⟨w3, hb3⟩ - -
                have hb3 : Below wr.heap.size wr w3 := hb3
                have hZ3 := Blk.ext hZ hb3 hZ.lt
                obtain ⟨⟨z0, z1⟩, -⟩ := id hZ3.all2
                have s0 := (hb3.cell (p := ⟨bs, os + d, none⟩) (World.block_lt_of_cell? _ _ s0)).trans s0
                have qc := (hb3.cell (p := ⟨g1, l, none⟩) (World.block_lt_of_cell? _ _ qc)).trans qc
                have HP3 := hid ((HO3.out.ext hb3).put l z)
                have qf := (HO3.out.ext hb3).free l
                have HB4 := hid ((hb.nx hb3 HZ.out).setCell (p := ⟨g1, l, none⟩) (Nat.le_of_eq HG1.out.symm) (.int .i64 z))
                have HZ4 := hid (hZ3.far (p := ⟨g1, l, none⟩) (by show gz ≠ g1; omega) (.int .i64 z))
                clear qq0 qq1 qq2 l0 hb3 hb
                go_wp2
                go_roundg (ls.length - (d + 1))
                case measure => omega
                case rel => exact ⟨d + 1, _, by omega, rfl, by go_num, HN3, HP3.out, HB4.out, HZ4.out⟩
            · obtain rfl : ls.length = d := by omega
              have HX3 := hid (HNX.out.trans HQ.out)
              go_wp2
              go_roundg (xs.length - (k + 1))
              case measure => omega
              case rel => exact ⟨k + 1, q, by omega, rfl, by go_num, HX3, HS1, HO3.out, hb⟩
        · obtain rfl : xs.length = k := by omega
          rw [List.take_of_length_le (Nat.le_refl _)] at HAT
          have HY := hid (yes_extents ((HALL.out HAT.out).trans HX.out))
          go_wp2
          refine bodyPost_ret (v := .tuple #[.slice (some ⟨g1, 0, none⟩) 5 5, .bool true]) (by simp [results, Try.results142, go_sem]) rfl ?_
          exact ⟨_, by rw [HY.out.2], by rw [HY.out.1]; exact HO.out.mono (Nat.le_of_eq HG1.out.symm), HB.out⟩

set_option maxRecDepth 100000 in
set_option maxHeartbeats 6400000 in
theorem ExtentsOf_any (v vl : Value) (xs : List TL) (lss : List (List Int)) (w : World) (h : TensorsV w v xs) (hl : IntsS w vl lss) :
    Calls Try.prog 73 #[v, vl] w (RetExtB w (extentsL xs lss) (okExtents xs lss)) := by
  go_enter Try.func73, Try.ntmps73
  go_wp2_with fail
  refine (extentsOf_any _ _ xs lss _ h hl).mono ?_; rintro e w2 ⟨r, rfl, ho, hb⟩
  have HO := hid ho
  obtain ⟨A1, c1, rfl⟩ := ho.form
  clear ho
  go_wp2
  refine bodyPost_ret (v := .tuple #[.slice A1 (extentsL xs lss).length c1, .bool (okExtents xs lss)]) (by simp [results, Try.results73, go_sem]) rfl ?_
  exact ⟨_, rfl, HO.out, hb⟩

end Go.Proofs.Ytldblcolnjkcaaa

/-! ## LEa -/
namespace Go.Proofs.Ytldblcolnjkcaaa
open Go.RowKit

set_option maxRecDepth 100000 in
set_option maxHeartbeats 6400000 in
theorem equalInts_same (v u : Value) (xs : List Int) (w : World) (h : Ints w v xs) (k : Ints w u xs) :
    Calls Try.prog 19 #[v, u] w fun e w' => e = .returned (.bool true) ∧ Below w.heap.size w w' := by
  obtain ⟨A, c, rfl, h1, h2, h3⟩ := h
  obtain ⟨A', c', rfl, k1, k2, k3⟩ := k
  unfold maxLen at h2 k2
  go_enter Try.func19, Try.ntmps19
  go_wp2_with fail
  go_loopg [5] xs.length (fun m i wr => ∃ k : Nat, k ≤ xs.length ∧ m = xs.length - k ∧ i = .int .i64 k ∧ Below w.heap.size w wr)
  case atStart => exact ⟨0, Nat.zero_le _, rfl, rfl, Below.refl _ _⟩
  case round =>
    obtain ⟨k, hk, hm, rfl, hB⟩ := hrel
    have HM := hid hm
    clear hm
    by_cases hlt : k < xs.length
    · obtain ⟨b, off, rfl, hb, hc⟩ := h3 (by omega)
      obtain ⟨b', off', rfl, hb', hc'⟩ := k3 (by omega)
      obtain ⟨y, hy⟩ : ∃ y, xs[k] = y := ⟨_, rfl⟩
      have hx := (hB.cell (p := ⟨b, off + k, none⟩) hb).trans (hc k y (by simp [hlt, hy]))
      have hx' := (hB.cell (p := ⟨b', off' + k, none⟩) hb').trans (hc' k y (by simp [hlt, hy]))
      have hki : (k : Int) < (xs.length : Int) := by omega
      clear hc hc' h3 k3 hy
      go_upto_region 6 with fail
      go_quiet (fail)
      go_wp2
      go_roundg (xs.length - (k + 1))
      case measure => have := HM.out; omega
      case rel => exact ⟨k + 1, by omega, rfl, by go_num, hB.trans ((below_drewN _ _).mono hB.size)⟩
    · have hki : ¬ (k : Int) < (xs.length : Int) := by omega
      clear h3 k3
      go_wp2
      go_ret
      exact ⟨rfl, hB⟩

end Go.Proofs.Ytldblcolnjkcaaa

/-! ## LEi -/
namespace Go.Proofs.Ytldblcolnjkcaaa
open Go.RowKit

set_option maxRecDepth 100000 in
set_option maxHeartbeats 6400000 in
theorem isIn_any (v : Value) (xs : List Int) (n : Int) (w : World) (h : Ints w v xs) :
    Calls Try.prog 83 #[v, .int .i64 n] w fun e w' => e = .returned (.bool (decide (n ∈ xs))) ∧ w = w' := by
  obtain ⟨A, c, rfl, h1, h2, h3⟩ := h
  unfold maxLen at h2
  go_enter Try.func83, Try.ntmps83
  go_wp2_with fail
  go_loopg [5] xs.length (fun m i wr => ∃ k : Nat, k ≤ xs.length ∧ m = xs.length - k ∧ i = .int .i64 k ∧ Hid (∀ j : Nat, j < k → xs[j]? ≠ some n) ∧ wr = w)
  case atStart => exact ⟨0, Nat.zero_le _, rfl, rfl, hid (fun j hj => absurd hj (by omega)), rfl⟩
  case round =>
    obtain ⟨k, hk, hm, rfl, HN, rfl⟩ := hrel
    have HM := hid hm
    clear hm
    by_cases hlt : k < xs.length
    · obtain ⟨b, off, rfl, hb, hc⟩ := h3 (by omega)
      have hx := hc k xs[k] (by simp [hlt])
      have hki : (k : Int) < (xs.length : Int) := by omega
      clear hc h3
      by_cases he : xs[k] = n
      · have hE : (xs[k] == n) = true := by simp [he]
        have HQ := hid (show decide (n ∈ xs) = true by simp only [decide_eq_true_eq]; rw [← he]; exact List.getElem_mem hlt)
        clear he
        go_wp2
        go_ret
        exact ⟨ret_bool HQ.out.symm, rfl⟩
      · have hE : (xs[k] == n) = false := by simp [he]
        have HE := hid he
        clear he
        go_wp2
        go_roundg (xs.length - (k + 1))
        case measure => have := HM.out; omega
        case rel => exact ⟨k + 1, by omega, rfl, by go_num, hid (fun j hj => by
          by_cases h : j = k
          · subst h
            rw [List.getElem?_eq_getElem hlt]
            exact fun e => HE.out (by injection e)
          · exact HN.out j (by omega)), rfl⟩
    · have HQ := hid (show decide (n ∈ xs) = false by
        simp only [decide_eq_false_iff_not]
        intro hm
        obtain ⟨j, hj, he⟩ := List.mem_iff_getElem.1 hm
        exact HN.out j (by omega) (by rw [List.getElem?_eq_getElem hj, he]))
      have hki : ¬ (k : Int) < (xs.length : Int) := by omega
      clear h3
      go_wp2
      go_ret
      exact ⟨ret_bool HQ.out.symm, rfl⟩

end Go.Proofs.Ytldblcolnjkcaaa

/-! ## Gr -/
namespace Go.Proofs.Ytldblcolnjkcaaa
open Go.RowKit

/-- A row that is not empty, within a value. -/
def Ent.row (f : Value → Value) (N : Nat) (xs : List Int) : Ent :=
  ⟨fun _ w v => ∃ g c, v = f (.slice (some ⟨g, 0, none⟩) xs.length c) ∧ N ≤ g ∧ Own w N (.slice (some ⟨g, 0, none⟩) xs.length c) xs,
   fun v => ∃ g c, v = f (.slice (some ⟨g, 0, none⟩) xs.length c) ∧ N ≤ g, fun v b => ∃ c, v = f (.slice (some ⟨b, 0, none⟩) xs.length c)⟩
theorem Ent.row_good (f : Value → Value) (hf : ∀ a b, f a = f b → a = b) (N : Nat) (xs : List Int) : Good (Ent.row f N xs) := by
  refine ⟨fun _ _ _ _ hb ⟨g, c, h1, h2, h3⟩ => ⟨g, c, h1, h2, Own.ext h3 hb⟩, fun _ _ _ ⟨g, c, h1, h2, _⟩ => ⟨g, c, h1, h2⟩, ⟨_, N, 0, rfl, Nat.le_refl _⟩, fun _ w v b ⟨g, c, h1, h2, h3⟩ ⟨c', hb⟩ => ?_⟩
  have e := hf _ _ (h1.symm.trans hb)
  simp only [Value.slice.injEq, Option.some.injEq, Addr.mk.injEq, and_true, true_and] at e
  obtain ⟨rfl, rfl⟩ := e
  exact (Own.lt h3 g rfl).2
/-- A value that is known, with a fact that lasts. -/
def Ent.fact (c : Value) (G : World → Prop) : Ent := ⟨fun _ w v => v = c ∧ G w, fun v => v = c, fun _ _ => False⟩
theorem Ent.fact_good (c : Value) {G : World → Prop} (hG : ∀ w w', Below w.heap.size w w' → G w → G w') : Good (Ent.fact c G) :=
  ⟨fun _ _ _ _ hb h => ⟨h.1, hG _ _ hb h.2⟩, fun _ _ _ h => h.1, ⟨c, rfl⟩, fun _ _ _ _ _ h => h.elim⟩
/-- A cell that is there. -/
def HasCell (g i : Nat) (u : Value) (w : World) : Prop := w.cell? ⟨g, i, none⟩ = some u ∧ g < w.heap.size
theorem HasCell.nx (g i : Nat) (u : Value) (w w' : World) (hb : Below w.heap.size w w') (h : HasCell g i u w) : HasCell g i u w' :=
  ⟨(hb.cell (p := ⟨g, i, none⟩) h.2).trans h.1, Nat.lt_of_lt_of_le h.2 hb.size⟩
/-- A pointer to a cell that is there. -/
def Ent.cellAt (i : Nat) (u : Value) : Ent := ⟨fun _ w v => ∃ g, v = .pointer (some ⟨g, i, none⟩) ∧ HasCell g i u w, fun v => ∃ g, v = .pointer (some ⟨g, i, none⟩), fun _ _ => False⟩
theorem Ent.cellAt_good (i : Nat) (u : Value) : Good (Ent.cellAt i u) :=
  ⟨fun _ _ _ _ hb ⟨g, h1, h2⟩ => ⟨g, h1, HasCell.nx g i u _ _ hb h2⟩, fun _ _ _ ⟨g, h1, _⟩ => ⟨g, h1⟩, ⟨_, 0, rfl⟩, fun _ _ _ _ _ h => h.elim⟩
theorem HasCell.of_own {w : World} {N g c n : Nat} {xs : List Int} (h : Own w N (.slice (some ⟨g, 0, none⟩) n c) xs) {k : Nat} {x : Int} (hk : xs[k]? = some x) : HasCell g k (.int .i64 x) w := by
  obtain ⟨hk1, rfl⟩ := List.getElem?_eq_some_iff.1 hk
  exact ⟨h.cell k hk1, (h.lt g rfl).2⟩

section
variable {P : Program} {ops : Array Oper} {W : World} {R : Act → World → Prop} {k : Nat} {Es : List Ent} {o : Oper} {rest : List Oper} {a : Act} {s : Seen}
theorem idf_inj (x y : Value) (h : (fun v : Value => v) x = (fun v : Value => v) y) : x = y := h
theorem grow_rowF (f : Value → Value) (hf : ∀ a b, f a = f b → a = b) (xs : List Int) (hl : 0 < xs.length) (hw : Region.wanted o (yielded ops a.tmps) = true)
    (h : ∀ x : ExtW W, (∀ j, (autoDeps ops k).contains j = true → s.fact j x.v) → ∀ (K : Act → World → Prop) (Q : Exit → Act → World → Prop), (∀ v w', Below x.v.heap.size x.v w' → Own w' x.v.heap.size v xs → K (a.put o.dst (f v)) w') → o.wp P a x.v K Q)
    (hr : ∀ g c, W.heap.size ≤ g → ∀ (F : World → Prop) (O : Nat → Prop), (∀ w, F w → Own w W.heap.size (.slice (some ⟨g, 0, none⟩) xs.length c) xs) → O g →
      wpGrow P ops W R (k + 1) Es rest (a.put o.dst (f (.slice (some ⟨g, 0, none⟩) xs.length c))) (s.push (f (.slice (some ⟨g, 0, none⟩) xs.length c)) F O)) :
    wpGrow P ops W R k (Ent.row f W.heap.size xs :: Es) (o :: rest) a s := by
  refine grow_mk _ (Ent.row_good f hf _ _) hw (fun x hF _ K Q hK => h x hF K Q fun v w' hb ho => ?_) fun v hV F O hF hO => ?_
  · obtain ⟨g, c, e, h1, h2⟩ := ho.row hl
    subst e
    refine hK _ w' hb ⟨g, c, rfl, Nat.le_trans x.h.size h1, ho.mono x.h.size⟩ fun b ⟨c', hb'⟩ => ?_
    have e := hf _ _ hb'
    simp only [Value.slice.injEq, Option.some.injEq, Addr.mk.injEq, and_true, true_and] at e
    omega
  · obtain ⟨g, c, rfl, hg⟩ := hV
    refine hr g c hg F O (fun w hw => ?_) (hO g ⟨c, rfl⟩)
    obtain ⟨g', c', e, _, h2⟩ := hF w hw
    have e := hf _ _ e
    simp only [Value.slice.injEq, Option.some.injEq, Addr.mk.injEq, and_true, true_and] at e
    obtain ⟨rfl, rfl⟩ := e
    exact h2
theorem grow_idx (g1 i : Nat) (u : Value) (hw : Region.wanted o (yielded ops a.tmps) = true)
    (h : ∀ x : ExtW W, (∀ j, (autoDeps ops k).contains j = true → s.fact j x.v) → (execOp a.eval o).run P x.v = .ok (.value (.pointer (some ⟨g1, i, none⟩))) x.v ∧ HasCell g1 i u x.v)
    (hr : ∀ g, ∀ F : World → Prop, (∀ w, F w → HasCell g i u w) → wpGrow P ops W R (k + 1) Es rest (a.put o.dst (.pointer (some ⟨g, i, none⟩))) (s.push (.pointer (some ⟨g, i, none⟩)) F (fun _ => False))) :
    wpGrow P ops W R k (Ent.cellAt i u :: Es) (o :: rest) a s := by
  refine ⟨Ent.cellAt_good i u, fun w hC hF _ K Q hK => ?_, fun v hV => ?_⟩
  · rw [if_pos hw]
    obtain ⟨h1, h2⟩ := h ⟨w, hC⟩ hF
    unfold Oper.wp
    rw [h1]
    exact hK _ w ⟨Below.refl _ _, ⟨g1, rfl, h2⟩, fun b hb => hb.elim⟩
  · obtain ⟨g, rfl⟩ := hV
    exact hr g _ fun w ⟨g', e, h⟩ => by
      simp only [Value.pointer.injEq, Option.some.injEq, Addr.mk.injEq, and_true] at e
      exact e ▸ h
/-- What is read under the facts of what it looks at. -/
theorem grow_read (c : Value) (hw : Region.wanted o (yielded ops a.tmps) = true)
    (h : ∀ x : ExtW W, (∀ j, (autoDeps ops k).contains j = true → s.fact j x.v) → (execOp a.eval o).run P x.v = .ok (.value c) x.v)
    (hr : wpGrow P ops W R (k + 1) Es rest (a.put o.dst c) (s.push c (fun _ => c = c ∧ True) (fun _ => False))) :
    wpGrow P ops W R k (Ent.fact c (fun _ => True) :: Es) (o :: rest) a s := by
  refine ⟨Ent.fact_good c fun _ _ _ h => h, fun w hC hF _ K Q hK => ?_, fun v hV => ?_⟩
  · rw [if_pos hw]
    have h1 := h ⟨w, hC⟩ hF
    unfold Oper.wp
    rw [h1]
    exact hK c w ⟨Below.refl _ _, ⟨rfl, trivial⟩, fun b hb => hb.elim⟩
  · cases hV
    exact hr
end

theorem run_lit1 (w : World) (x : Int) : (Instr.buildSlice 23 1 #[(0, .int .i64 x)]).run Try.prog w = .ok (.slice (some ⟨w.heap.size, 0, none⟩) 1 1) (w.alloc (.cells #[.int .i64 x] 3)) := by kernel_rfl
theorem run_lit2 (w : World) (x y : Int) : (Instr.buildSlice 23 2 #[(0, .int .i64 x), (1, .int .i64 y)]).run Try.prog w = .ok (.slice (some ⟨w.heap.size, 0, none⟩) 2 2) (w.alloc (.cells #[.int .i64 x, .int .i64 y] 3)) := by kernel_rfl
theorem Own.lit1 (w : World) (x : Int) : Own (w.alloc (.cells #[.int .i64 x] 3)) w.heap.size (.slice (some ⟨w.heap.size, 0, none⟩) 1 1) [x] :=
  ⟨by simp, .inr ⟨w.heap.size, 1, #[.int .i64 x], rfl, Nat.le_refl _, heap_alloc_new w _, Nat.le_refl _, by unfold maxLen; omega, rfl, rfl⟩⟩
theorem Own.lit2 (w : World) (x y : Int) : Own (w.alloc (.cells #[.int .i64 x, .int .i64 y] 3)) w.heap.size (.slice (some ⟨w.heap.size, 0, none⟩) 2 2) [x, y] :=
  ⟨by simp, .inr ⟨w.heap.size, 2, #[.int .i64 x, .int .i64 y], rfl, Nat.le_refl _, heap_alloc_new w _, Nat.le_refl _, by unfold maxLen; omega, rfl, rfl⟩⟩
section
variable {ops : Array Oper} {W : World} {R : Act → World → Prop} {k : Nat} {Es : List Ent} {o : Oper} {rest : List Oper} {a : Act} {s : Seen}
theorem grow_lit1 (e : Operand) (x : Int) (hop : o.op = .buildSlice 23 1 #[(0, e)]) (he : a.eval e = .int .i64 x) (hw : Region.wanted o (yielded ops a.tmps) = true)
    (hr : ∀ g c, W.heap.size ≤ g → ∀ (F : World → Prop) (O : Nat → Prop), (∀ w, F w → Own w W.heap.size (.slice (some ⟨g, 0, none⟩) 1 c) [x]) → O g →
      wpGrow Try.prog ops W R (k + 1) Es rest (a.put o.dst (.slice (some ⟨g, 0, none⟩) 1 c)) (s.push (.slice (some ⟨g, 0, none⟩) 1 c) F O)) :
    wpGrow Try.prog ops W R k (Ent.row (fun v => v) W.heap.size [x] :: Es) (o :: rest) a s :=
  grow_rowF (fun v => v) idf_inj [x] (by simp) hw (fun x' _ K Q hK => wp_value x'.v _ _ (by simp [execOp, hop, he, run_lit1]) (hK _ _ (below_alloc _ _) (Own.lit1 _ _))) hr
theorem grow_lit2 (e f : Operand) (x y : Int) (hop : o.op = .buildSlice 23 2 #[(0, e), (1, f)]) (he : a.eval e = .int .i64 x) (hf : a.eval f = .int .i64 y) (hw : Region.wanted o (yielded ops a.tmps) = true)
    (hr : ∀ g c, W.heap.size ≤ g → ∀ (F : World → Prop) (O : Nat → Prop), (∀ w, F w → Own w W.heap.size (.slice (some ⟨g, 0, none⟩) 2 c) [x, y]) → O g →
      wpGrow Try.prog ops W R (k + 1) Es rest (a.put o.dst (.slice (some ⟨g, 0, none⟩) 2 c)) (s.push (.slice (some ⟨g, 0, none⟩) 2 c) F O)) :
    wpGrow Try.prog ops W R k (Ent.row (fun v => v) W.heap.size [x, y] :: Es) (o :: rest) a s :=
  grow_rowF (fun v => v) idf_inj [x, y] (by simp) hw (fun x' _ K Q hK => wp_value x'.v _ _ (by simp [execOp, hop, he, hf, run_lit2]) (hK _ _ (below_alloc _ _) (Own.lit2 _ _ _))) hr
end

end Go.Proofs.Ytldblcolnjkcaaa

/-! ## EX4 -/
namespace Go.Proofs.Ytldblcolnjkcaaa
open Go.RowKit

/-- What drawing tensors and labels leaves. -/
def RetDrawTL (w : World) (e : Ending) (w' : World) : Prop := ∃ (xs : List TL) (lss : List (List Int)) (vt vl : Value), e = .returned (.tuple #[vt, vl]) ∧ TensorsV w' vt xs ∧ IntsS w' vl lss ∧ Below w.heap.size w w'
theorem flat_take {lss : List (List Int)} {k : Nat} (h : k < lss.length) : (lss.take (k + 1)).flatten = (lss.take k).flatten ++ lss[k] := by
  rw [take_snocI _ k h, List.flatten_append]; simp
theorem flat_len {lss : List (List Int)} (h : ∀ ls ∈ lss, ls.length ≤ 4) (hl : lss.length ≤ 3) (k : Nat) : ((lss.take k).flatten).length ≤ 12 := by
  have : ∀ (ys : List (List Int)), (∀ ls ∈ ys, ls.length ≤ 4) → ys.flatten.length ≤ 4 * ys.length := by
    intro ys
    induction ys with
    | nil => intro _; simp
    | cons y ys ih =>
      intro hy
      have := ih fun ls hls => hy ls (List.mem_cons_of_mem _ hls)
      have := hy y List.mem_cons_self
      simp only [List.flatten_cons, List.length_append, List.length_cons]
      omega
  have h1 := this (lss.take k) fun ls hls => h ls (List.mem_of_mem_take hls)
  have h2 : (lss.take k).length ≤ lss.length := by rw [List.length_take]; omega
  omega
theorem mem_flat {lss : List (List Int)} {i : Int} : i ∈ lss.flatten ↔ ∃ ls ∈ lss, i ∈ ls := List.mem_flatten

set_option maxRecDepth 100000 in
set_option maxHeartbeats 6400000 in
theorem FnExtentsOf_core (v : Value) (n : Nat) (w : World) (h : BytesV w v n) (HD : Hid (Calls Try.prog 82 #[v] w (RetDrawTL w))) :
    Calls Try.prog 13 #[v] w fun e w' => e = .returned (.bool true) ∧ Below w.heap.size w w' := by
  obtain ⟨A, c, rfl, h1, h2, -⟩ := h
  by_cases hn : 1048576 < n
  · have hni : (1048576 : Int) < (n : Int) := by omega
    go_enter Try.func13, Try.ntmps13
    go_wp2
    go_ret
    exact ⟨rfl, Below.refl _ _⟩
  have hni : ¬ (1048576 : Int) < (n : Int) := by omega
  go_enter Try.func13, Try.ntmps13
  go_wp2_with fail
  refine HD.out.mono ?_; rintro e w1 ⟨xs, lss, vt, vl, rfl, hT, hL, hz⟩
  obtain ⟨At, ct, rfl, -⟩ := hT.form
  obtain ⟨Al, cl, rfl, -⟩ := hL.form
  clear h1 h2 HD
  have HT := hid hT
  have HL := hid hL
  have HZ := hid hz
  clear hT hL hz
  go_wp2_with fail
  refine (ExtentsOf_any _ _ xs lss _ HT.out HL.out).mono ?_; rintro e w2 ⟨r, rfl, hr, hb⟩
  have H2 := hid ((Hp.start w1).row hr hb)
  simp only [List.nil_append] at H2
  have hT := HT.out.ext H2.out.below
  have hL := HL.out.ext H2.out.below
  obtain ⟨Ar, cr, rfl⟩ := hr.form
  clear hr hb
  go_wp2_with fail
  refine (sExtentsOf_any _ _ xs lss _ hT hL).mono ?_; rintro e w3 ⟨r2, rfl, hr2, hb⟩
  have H3 := hid (H2.out.row hr2 hb)
  simp only [List.cons_append, List.nil_append] at H3
  obtain ⟨Ar2, cr2, rfl⟩ := hr2.form
  clear hr2 hb hT hL H2
  have i1 := (H3.out.ints 0 rfl).ints
  have i2 := (H3.out.ints 1 rfl).ints
  obtain ⟨b, hbb⟩ : ∃ b, okExtents xs lss = b := ⟨_, rfl⟩
  have HBB := hid hbb
  rw [hbb]
  clear hbb
  go_wp2_with fail
  refine (equalInts_same _ _ _ _ i1 i2).mono ?_; rintro e w4 ⟨rfl, hb⟩
  have H4 := hid (H3.out.nx hb)
  clear hb i1 i2 H3
  cases b
  · have i1 := (H4.out.ints 0 rfl).ints
    have i2 := (H4.out.ints 1 rfl).ints
    go_wp2_with fail
    refine (equalInts_same _ _ _ _ i1 i2).mono ?_; rintro e w5 ⟨rfl, hb⟩
    have HF := hid (HZ.out.nx (H4.out.nx hb).below HZ.out.size)
    clear i1 i2
    go_wp2
    go_ret
    exact ⟨rfl, HF.out⟩
  have HS := hid (extents_say HBB.out)
  obtain ⟨R, hR⟩ : ∃ R, extentsL xs lss = R := ⟨_, rfl⟩
  rw [hR] at HS H4 ⊢
  have HR5 := hid HS.out.1
  have HLL := hid HS.out.2.1
  have HEQ := hid HS.out.2.2.1
  have HIN := hid HS.out.2.2.2
  clear hR HS
  rw [HR5.out] at H4 ⊢
  have HX3 := hid (show xs.length ≤ 3 ∧ ∀ T ∈ xs, isTensorL T = true by
    have hk := HBB.out
    have : okTs xs lss = true := by
      cases hc : okTs xs lss
      · rw [(no_extents (extentsR_no hc)).2] at hk; cases hk
      · rfl
    simp only [okTs, Bool.and_eq_true, decide_eq_true_eq, List.all_eq_true] at this
    exact ⟨this.1.2.2, this.1.1⟩)
  have HL4 := hid (show ∀ ls ∈ lss, ls.length ≤ 4 from fun ls hls => by
    obtain ⟨k, hk, rfl⟩ := List.getElem_of_mem hls
    have hkx : k < xs.length := by have := HLL.out; omega
    have := (HEQ.out k hkx hk).1
    have := (shape_ext (isTensorL_and (HX3.out.2 _ (List.getElem_mem hkx))).1).1
    omega)
  have HFL := hid (fun k => flat_len HL4.out (by have := HLL.out; have := HX3.out.1; omega) k)
  have H5 := hid (H4.out.row (Own.empty w4 rfl (Nat.le_refl _)) (below_alloc w4 (.cells #[] 3)))
  have H5 := hid (H5.out.pick [0, 2] (by decide))
  clear H4
  go_upto_region 10 with fail
  generalize (w4.alloc (.cells #[] 3)) = w5 at *
  generalize Value.slice (some ⟨w4.heap.size, 0, none⟩) 0 0 = u0 at *
  have H6 : Hid (Hp w1.heap.size w1 w5 [.ints (.slice Ar 5 cr) R, .ints u0 []]) := H5
  clear H5
  go_loopg [9, 10, 11] xs.length (fun m u i j wr => ∃ k : Nat, k ≤ xs.length ∧ m = xs.length - k ∧ i = .int .i64 k ∧ Hp w1.heap.size w1 wr [.ints (.slice Ar 5 cr) R, .ints u ((lss.take k).flatten)])
  case atStart => exact ⟨0, Nat.zero_le _, rfl, rfl, H6.out⟩
  case round =>
    obtain ⟨k, hk, rfl, rfl, H⟩ := hrel
    clear H6
    have HH := hid H
    clear H
    by_cases hlt : k < xs.length
    · have hki : (k : Int) < (xs.length : Int) := by omega
      have hkl : k < lss.length := by have := HLL.out; omega
      have hkli : (k : Int) < (lss.length : Int) := by omega
      obtain ⟨b0, off, u1, u2, rfl, x0, -, hTk⟩ := HT.out.at_ k hlt
      obtain ⟨bl, ol, u3, rfl, y0, hu⟩ := HL.out.elem k hkl
      obtain ⟨su, tu, eT, hs, -⟩ := hTk
      have eT : u1 = su ∧ u2 = tu := by simpa using eT
      obtain ⟨rfl, rfl⟩ := eT
      have heq := HEQ.out k hlt hkl
      obtain ⟨As, cs, rfl, -⟩ := hs.form
      obtain ⟨Au, cu, rfl, -⟩ := hu.form
      have HFT := hid (flat_take hkl)
      have HLS4 := hid (HL4.out _ (List.getElem_mem hkl))
      obtain ⟨ls, els⟩ : ∃ ls, lss[k] = ls := ⟨_, rfl⟩
      obtain ⟨T, eTT⟩ : ∃ T, xs[k] = T := ⟨_, rfl⟩
      have hpr : ls.length = T.shape.length ∧ ∀ j (h3 : j < ls.length) (h4 : j < T.shape.length), (0 ≤ ls[j] ∧ ls[j] ≤ 4) ∧ R.getD ls[j].toNat 0 = T.shape[j] := by
        subst els eTT; exact heq
      rw [els] at hu y0 HFT HLS4
      rw [eTT] at hs x0
      have X0 := hid x0
      have Y0 := hid y0
      have HSH := hid hs
      have HU := hid hu
      have HPR := hid hpr
      have hb0 : b0 < w1.heap.size := World.block_lt_of_cell? _ _ x0
      have hbl : bl < w1.heap.size := World.block_lt_of_cell? _ _ y0
      have hls4 : ls.length ≤ 4 := HLS4.out
      clear els eTT hu hs x0 y0 heq hpr
      go_upto_region 13 with fail
      go_loopg [9, 11] ls.length (fun m u j wr => ∃ q : Nat, q ≤ ls.length ∧ m = ls.length - q ∧ j = .int .i64 q ∧ Hp w1.heap.size w1 wr [.ints (.slice Ar 5 cr) R, .ints u ((lss.take k).flatten ++ ls.take q)])
      case atStart => exact ⟨0, Nat.zero_le _, rfl, rfl, by simpa using HH.out⟩
      case round =>
        obtain ⟨q, hq, rfl, rfl, H⟩ := hrel
        clear HH
        have HH := hid H
        clear H
        have x0 := (HH.out.below.cell (p := ⟨b0, off + k * 2, none⟩) hb0).trans X0.out
        have y0 := (HH.out.below.cell (p := ⟨bl, ol + k, none⟩) hbl).trans Y0.out
        have hUB : ((lss.take k).flatten ++ ls.take q).length ≤ 1000000000000 := by
          have := HFL.out k
          rw [List.length_append, List.length_take]
          omega
        obtain ⟨UL, hUL⟩ : ∃ UL, (lss.take k).flatten ++ ls.take q = UL := ⟨_, rfl⟩
        have HUL := hid hUL
        rw [hUL] at HH hUB
        have HLN := hid hUB
        clear hUL hUB
        by_cases hlq : q < ls.length
        · have hqi : (q : Int) < (ls.length : Int) := by omega
          have hqs : q < T.shape.length := by have := HPR.out.1; omega
          have hqsi : (q : Int) < (T.shape.length : Int) := by omega
          have hval := HPR.out.2 q hlq hqs
          obtain ⟨bu, ou, rfl, l0⟩ := HU.out.elem q hlq
          obtain ⟨bs, os, rfl, s0⟩ := HSH.out.elem q hqs
          obtain ⟨a, ha⟩ : ∃ a : Nat, ls[q] = (a : Int) := ⟨ls[q].toNat, by omega⟩
          have HTK := hid (show (lss.take k).flatten ++ ls.take (q + 1) = UL ++ [ls[q]] by rw [take_snocI ls q hlq, ← List.append_assoc, HUL.out])
          rw [ha] at hval l0 HTK
          rw [Int.toNat_natCast] at hval
          have ha5 : a < R.length := by have := HR5.out; omega
          obtain ⟨br, orr, rfl, r0⟩ := (HH.out.ints 0 rfl).ints.elem a ha5
          obtain ⟨E, hE⟩ : ∃ E, T.shape[q] = E := ⟨_, rfl⟩
          have hRE : R[a] = E := by rw [← hE, ← hval.2]; simp [ha5]
          rw [hE] at s0
          rw [hRE] at r0
          have ha0 : (0 : Int) ≤ (a : Int) := by omega
          have hai : (a : Int) < 5 := by omega
          have hne : (E != E) = false := by simp
          have hwq : IntKind.i64.wrap ((q : Int) + 1) = (q : Int) + 1 := IntWalk.i64_in _ (by omega)
          obtain ⟨A9, c9, e9⟩ := (HH.out.ints 1 rfl).form
          have HO := hid (HH.out.ints 1 rfl)
          have hbs2 : bs < w1.heap.size := World.block_lt_of_cell? _ _ s0
          have hbu2 : bu < w1.heap.size := World.block_lt_of_cell? _ _ l0
          have HRE := hid hRE
          have S0 := hid s0
          have L0 := hid l0
          have l0 := (HH.out.below.cell (p := ⟨bu, ou + q, none⟩) hbu2).trans L0.out
          clear ha hval hE hRE s0 r0
          subst e9
          go_wp2_with (at_builtin; refine app1 _ rfl _ _ rfl w1.heap.size _ UL rfl (HO.out.alloc _) ⟨wr.heap.size, 0, none⟩ 1 a rfl (cell_new1 _ _ _) HLN.out (le_alloc HH.out.size _) ?_)
          intro v9 w9 ho9 hg9 hat9
          rw [← World.size_alloc wr (.cells #[.int .i64 a] 3)] at hat9
          rw [← HTK.out] at ho9
          have H9 := hid ((HH.out.nx (below_alloc wr (.cells #[.int .i64 a] 3))).grown 1 rfl ho9 hg9 hat9)
          simp only [List.set_cons_succ, List.set_cons_zero] at H9
          obtain ⟨A8, c8, e8⟩ := ho9.form
          subst e8
          clear ho9 hg9 hat9 x0 y0 l0 HH HO HLN
          have x0 := (H9.out.below.cell (p := ⟨b0, off + k * 2, none⟩) hb0).trans X0.out
          have y0 := (H9.out.below.cell (p := ⟨bl, ol + k, none⟩) hbl).trans Y0.out
          have l0 := (H9.out.below.cell (p := ⟨bu, ou + q, none⟩) hbu2).trans L0.out
          have s0 := (H9.out.below.cell (p := ⟨bs, os + q, none⟩) hbs2).trans S0.out
          obtain ⟨br', orr', er, r0⟩ := (H9.out.ints 0 rfl).ints.elem a ha5
          simp only [Option.some.injEq, Addr.mk.injEq, and_true] at er
          obtain ⟨rfl, rfl⟩ := er
          rw [HRE.out] at r0
          go_upto_region 16 with fail
          have qx := fun x : ExtW w9 => (x.h.cell (p := ⟨b0, off + k * 2, none⟩) (World.block_lt_of_cell? _ _ x0)).trans x0
          have qy := fun x : ExtW w9 => (x.h.cell (p := ⟨bl, ol + k, none⟩) (World.block_lt_of_cell? _ _ y0)).trans y0
          have ql := fun x : ExtW w9 => (x.h.cell (p := ⟨bu, ou + q, none⟩) (World.block_lt_of_cell? _ _ l0)).trans l0
          have qs := fun x : ExtW w9 => (x.h.cell (p := ⟨bs, os + q, none⟩) (World.block_lt_of_cell? _ _ s0)).trans s0
          have qr := fun x : ExtW w9 => (x.h.cell (p := ⟨br, orr + a, none⟩) (World.block_lt_of_cell? _ _ r0)).trans r0
          refine region_mk 19 (by kernel_rfl) (by kernel_rfl) ?_
          apply Exists.intro
          simp only [List.take_succ_cons, List.take_zero, List.drop_succ_cons, List.drop_zero]
          repeat (first
            | (apply grow_val (by rfl); (focus (intro x; (go_simp; try with_reducible rfl); done)); simp only [Act.put, List.setIfInBounds_toArray, List.set_cons_zero, List.set_cons_succ])
            | (apply grow_skip (by rfl); simp only [Act.put, List.setIfInBounds_toArray, List.set_cons_zero, List.set_cons_succ]))
          refine grow_nil ?_
          rintro ⟨wa, hba⟩ hF hS
          have hba : Below w9.heap.size w9 wa := hba
          have HA := hid (H9.out.nx hba)
          clear hF hS qx qy ql qs qr hba x0 y0 l0 s0 r0 H9
          go_wp2
          go_roundg (ls.length - (q + 1))
          case measure => omega
          case rel => exact ⟨q + 1, by omega, rfl, by congr 1, HA.out⟩
        · have hqi : ¬ (q : Int) < (ls.length : Int) := by omega
          have HE := hid (show (lss.take (k + 1)).flatten = UL by rw [← HUL.out, HFT.out, show ls.take q = ls from List.take_of_length_le (by omega)])
          have HA := hid HH.out
          have hwk : IntKind.i64.wrap ((k : Int) + 1) = (k : Int) + 1 := IntWalk.i64_in _ (by have := HX3.out.1; omega)
          go_wp2
          go_roundg (xs.length - (k + 1))
          case measure => omega
          case rel => exact ⟨k + 1, by omega, rfl, by congr 1, by rw [HE.out]; exact HA.out⟩
    · have hki : ¬ (k : Int) < (xs.length : Int) := by omega
      have hfl : (lss.take k).flatten = lss.flatten := by rw [List.take_of_length_le (by have := HLL.out; omega)]
      obtain ⟨FL, hFL⟩ : ∃ FL, lss.flatten = FL := ⟨_, rfl⟩
      rw [hfl, hFL] at HH
      have HMF := hid (fun i : Int => show i ∈ FL ↔ ∃ ls ∈ lss, i ∈ ls by rw [← hFL]; exact mem_flat)
      clear hfl hFL
      obtain ⟨wo, rfl⟩ : ∃ wo : World, wo = wr := ⟨_, rfl⟩
      obtain ⟨A9, c9, e9⟩ := (HH.out.ints 1 rfl).form
      subst e9
      go_upto_region 19 with fail
      go_loopg [12] 5 (fun m i wr => ∃ k : Nat, k ≤ 5 ∧ m = 5 - k ∧ i = .int .i64 k ∧ Hp w1.heap.size w1 wr [.ints (.slice Ar 5 cr) R, .ints (.slice A9 FL.length c9) FL])
      case atStart => exact ⟨0, by omega, rfl, rfl, HH.out⟩
      case round =>
        obtain ⟨p, hp, rfl, rfl, H⟩ := hrel
        clear HH
        have HH := hid H
        clear H
        by_cases hp5 : p < 5
        · have hpi : (p : Int) < 5 := by omega
          have hpr : p < R.length := by have := HR5.out; omega
          obtain ⟨br, orr, rfl, r0⟩ := (HH.out.ints 0 rfl).ints.elem p hpr
          obtain ⟨E, hE⟩ : ∃ E, R[p] = E := ⟨_, rfl⟩
          have hin := HIN.out p hp5
          have hRE : R.getD p 0 = E := by rw [← hE]; simp [hpr]
          rw [hRE] at hin
          rw [hE] at r0
          have hrow := (HH.out.ints 1 rfl).ints
          have hwp : IntKind.i64.wrap ((p : Int) + 1) = (p : Int) + 1 := IntWalk.i64_in _ (by omega)
          by_cases hge : 0 ≤ E
          · have hd : decide ((p : Int) ∈ FL) = true := by rw [decide_eq_true_eq, HMF.out]; exact hin.2 hge
            have HISI : ∀ x : ExtW wr, Calls Try.prog 83 #[.slice A9 FL.length c9, .int .i64 p] x.v fun e w' => e = .returned (.bool true) ∧ Below x.v.heap.size x.v w' := fun x => (isIn_any _ FL p x.v (hrow.nx x.h)).mono fun _ _ h => ⟨by rw [h.1, hd], h.2 ▸ Below.refl _ _⟩
            have HISI := hid HISI
            clear hin hRE hE hrow hd
            go_upto_region 21 with fail
            have qr := fun x : ExtW wr => (x.h.cell (p := ⟨br, orr + p, none⟩) (World.block_lt_of_cell? _ _ r0)).trans r0
            refine region_mk 9 (by kernel_rfl) (by kernel_rfl) ?_
            apply Exists.intro
            simp only [List.take_succ_cons, List.take_zero, List.drop_succ_cons, List.drop_zero]
            repeat (first
              | (apply grow_val (by rfl); (focus (intro x; (go_simp; try with_reducible rfl); done)); simp only [Act.put, List.setIfInBounds_toArray, List.set_cons_zero, List.set_cons_succ])
              | (apply grow_skip (by rfl); simp only [Act.put, List.setIfInBounds_toArray, List.set_cons_zero, List.set_cons_succ])
              | (apply grow_call (by rfl); (focus (intro x K Q hK; go_simp; (first | (go_at_call 83; (with_reducible refine (HISI.out x).mono ?_); rintro e w' ⟨rfl, hb⟩; exact hK _ hb)); done)); simp only [Act.put, List.setIfInBounds_toArray, List.set_cons_zero, List.set_cons_succ]))
            refine grow_nil ?_
            rintro ⟨wa, hba⟩ hF hS
            have hba : Below wr.heap.size wr wa := hba
            have HA := hid (HH.out.nx hba)
            clear hF hS qr hba r0 HH
            go_wp2
            go_roundg (5 - (p + 1))
            case measure => omega
            case rel => exact ⟨p + 1, by omega, rfl, by congr 1, HA.out⟩
          · have hge' : E < 0 := by omega
            have hd : decide ((p : Int) ∈ FL) = false := by rw [decide_eq_false_iff_not, HMF.out]; exact fun h => hge (hin.1 h)
            have HISI : ∀ x : ExtW wr, Calls Try.prog 83 #[.slice A9 FL.length c9, .int .i64 p] x.v fun e w' => e = .returned (.bool false) ∧ Below x.v.heap.size x.v w' := fun x => (isIn_any _ FL p x.v (hrow.nx x.h)).mono fun _ _ h => ⟨by rw [h.1, hd], h.2 ▸ Below.refl _ _⟩
            have HISI := hid HISI
            clear hin hRE hE hrow hd hge
            go_upto_region 21 with fail
            have qr := fun x : ExtW wr => (x.h.cell (p := ⟨br, orr + p, none⟩) (World.block_lt_of_cell? _ _ r0)).trans r0
            refine region_mk 9 (by kernel_rfl) (by kernel_rfl) ?_
            apply Exists.intro
            simp only [List.take_succ_cons, List.take_zero, List.drop_succ_cons, List.drop_zero]
            repeat (first
              | (apply grow_val (by rfl); (focus (intro x; (go_simp; try with_reducible rfl); done)); simp only [Act.put, List.setIfInBounds_toArray, List.set_cons_zero, List.set_cons_succ])
              | (apply grow_skip (by rfl); simp only [Act.put, List.setIfInBounds_toArray, List.set_cons_zero, List.set_cons_succ])
              | (apply grow_call (by rfl); (focus (intro x K Q hK; go_simp; (first | (go_at_call 83; (with_reducible refine (HISI.out x).mono ?_); rintro e w' ⟨rfl, hb⟩; exact hK _ hb)); done)); simp only [Act.put, List.setIfInBounds_toArray, List.set_cons_zero, List.set_cons_succ]))
            refine grow_nil ?_
            rintro ⟨wa, hba⟩ hF hS
            have hba : Below wr.heap.size wr wa := hba
            have HA := hid (HH.out.nx hba)
            clear hF hS qr hba r0 HH
            go_wp2
            go_roundg (5 - (p + 1))
            case measure => omega
            case rel => exact ⟨p + 1, by omega, rfl, by congr 1, HA.out⟩
        · have hpi : ¬ (p : Int) < 5 := by omega
          have HF := hid (HZ.out.nx HH.out.below HZ.out.size)
          go_wp2
          go_ret
          exact ⟨rfl, HF.out⟩

end Go.Proofs.Ytldblcolnjkcaaa

/-! ## FIa -/
namespace Go.Proofs.Ytldblcolnjkcaaa
open Go.RowKit

theorem Ints.away {w w' : World} {v : Value} {xs : List Int} (h : Ints w v xs) {row : Option Nat} (hg : w.grownBy w' row) (hn : ∀ k, v.ownBlock = some k → row ≠ some k) : Ints w' v xs := by
  obtain ⟨A, c, rfl, h1, h2, h3⟩ := h
  refine ⟨A, c, rfl, h1, h2, fun h => ?_⟩
  obtain ⟨b, off, rfl, hb, hc⟩ := h3 h
  refine ⟨b, off, rfl, Nat.lt_of_lt_of_le hb hg.size, fun j x hx => ?_⟩
  rw [hg.cell_far ⟨b, off + j, none⟩ hb (fun e => hn b rfl e.symm)]
  exact hc j x hx

end Go.Proofs.Ytldblcolnjkcaaa

/-! ## FKa -/
namespace Go.Proofs.Ytldblcolnjkcaaa
open Go.RowKit

theorem ints_lt {w : World} {v : Value} {xs : List Int} (h : Ints w v xs) (hn : 0 < xs.length) : ∃ k, v.ownBlock = some k ∧ k < w.heap.size := by
  obtain ⟨A, c, rfl, -, -, h3⟩ := h
  obtain ⟨b, off, rfl, hb, -⟩ := h3 hn
  exact ⟨b, rfl, hb⟩
theorem Ints.off {w w' : World} {v : Value} {xs : List Int} (h : Ints w v xs) {row : Option Nat} (hg : w.grownBy w' row) (hn : 0 < xs.length → ∀ k, v.ownBlock = some k → row ≠ some k) : Ints w' v xs := by
  rcases Nat.eq_zero_or_pos xs.length with h0 | h0
  · obtain ⟨A, c, e, h1, h2, -⟩ := h
    exact ⟨A, c, e, h1, h2, fun h => by omega⟩
  · exact h.away hg (hn h0)
/-- A row of lists; the lists lie from block B on, and not in the row's own block. -/
structure LN (w : World) (B : Nat) (v : Value) (us : List Value) (xss : List (List Int)) : Prop where
  len : us.length = xss.length
  row : w.ownsRow B 23 1 v us.length us
  rows : ∀ (j : Nat) (u : Value) (xs : List Int), us[j]? = some u → xss[j]? = some xs → Ints w u xs ∧ (0 < xs.length → ∀ k, u.ownBlock = some k → B ≤ k ∧ v.ownBlock ≠ some k)
section
variable {w w' : World} {B : Nat} {v : Value} {us : List Value} {xss : List (List Int)}
theorem LN.lt (h : LN w B v us xss) : ∀ k, v.ownBlock = some k → B ≤ k ∧ k < w.heap.size := World.ownsRow.lt h.row
theorem LN.grown (h : LN w B v us xss) {g : Nat} (hg : w.grownBy w' (some g)) (hB : g < B) : LN w' B v us xss := by
  refine ⟨h.len, World.ownsRow.kept h.row hg (.inr fun e => by have := (h.lt g e).1; omega), fun j u xs hj hx => ?_⟩
  obtain ⟨h1, h2⟩ := h.rows j u xs hj hx
  exact ⟨h1.off hg (fun hn k e e2 => by have := (h2 hn k e).1; injection e2 with e2; omega), h2⟩
theorem LN.nx (h : LN w B v us xss) (hb : Below w.heap.size w w') : LN w' B v us xss := by
  refine ⟨h.len, World.ownsRow.kept (row := none) h.row ⟨hb.os, hb.tape, hb.output, hb.size, fun k hk _ => hb.block k hk⟩ (by cases hv : v.ownBlock <;> simp), fun j u xs hj hx => ?_⟩
  obtain ⟨h1, h2⟩ := h.rows j u xs hj hx
  exact ⟨h1.nx hb, h2⟩
theorem LN.form (h : LN w B v us xss) : ∃ A c, v = .slice A xss.length c := by
  rcases h.row.2 with ⟨e, h0⟩ | ⟨g, cap, cur, e, _⟩
  · exact ⟨none, 0, by rw [e, ← h.len, h0]⟩
  · exact ⟨_, _, by rw [e, h.len]⟩
theorem LN.ints (h : LN w B v us xss) : IntsS w v xss := by
  have hrow := h.row
  rcases h.row.2 with ⟨e, h0⟩ | ⟨g, cap, cur, e, hg, hh, hn, hc, hs, ht⟩
  · exact ⟨none, 0, by rw [e, ← h.len, h0], by rw [← h.len]; omega, by unfold maxLen; omega, fun h1 => by rw [← h.len] at h1; omega⟩
  · subst e
    refine ⟨_, _, by rw [h.len], by rw [← h.len]; exact hn, hc, fun h0 => ⟨g, 0, rfl, (Array.getElem?_eq_some_iff.1 hh).1, fun j xs hx => ?_⟩⟩
    have hj : j < us.length := by have := (List.getElem?_eq_some_iff.1 hx).1; rw [h.len]; exact this
    refine ⟨us[j], ?_, (h.rows j _ xs (List.getElem?_eq_getElem hj) hx).1⟩
    rw [Nat.zero_add, hrow.cellAt j (by omega)]
    exact List.getElem?_eq_getElem hj
theorem LN.empty (w : World) {B g : Nat} (hg : g = w.heap.size) (hB : B ≤ g) : LN (w.alloc (.cells #[] 23)) B (.slice (some ⟨g, 0, none⟩) 0 0) [] [] := by
  subst hg
  exact ⟨rfl, ⟨by simp, .inr ⟨w.heap.size, 0, #[], rfl, hB, heap_alloc_new w _, Nat.le_refl _, by unfold maxLen; omega, rfl, rfl⟩⟩, fun j u xs hj => by simp at hj⟩
end
section
variable {ops : Array Oper} {rest : List Oper} {o : Oper} {a : Act} {Q : Exit → Act → World → Prop}
theorem appN (w : World) (hgd : o.guard = none) (s x : Operand) (ho : o.op = .call { callee := .builtin .append, args := #[s, x], argTypes := #[82, 82] })
    (B : Nat) (v : Value) (us : List Value) (xss : List (List Int)) (hs : a.eval s = v) (hown : LN w B v us xss) (ad : Addr) (c : Nat) (A0 : Option Addr) (n0 c0 : Nat) (ys : List Int) (hx : a.eval x = .slice (some ad) 1 c) (hc : w.cell? ad = some (.slice A0 n0 c0))
    (hu : Ints w (.slice A0 n0 c0) ys) (hv : 0 < ys.length → ∀ k, (Value.slice A0 n0 c0).ownBlock = some k → B ≤ k ∧ v.ownBlock ≠ some k)
    (hlen : xss.length ≤ 1000000000) (hB : B ≤ w.heap.size)
    (h : ∀ v' w', LN w' B v' (us ++ [.slice A0 n0 c0]) (xss ++ [ys]) → w.grownBy w' v.ownBlock → (v'.ownBlock = v.ownBlock ∨ v'.ownBlock = some w.heap.size) → wpList Try.prog ops Q rest (a.put o.dst v') w') : wpList Try.prog ops Q (o :: rest) a w := by
  refine wpList_plain hgd fun K hK => ?_
  obtain ⟨i0, hi, hz0, hz1, hz2⟩ := info_parts Try.infoRow
  have hul : us.length ≤ 1000000000 := by rw [hown.len]; exact hlen
  obtain ⟨v', w', hr, h2, h3, _, h5⟩ := run_append_own_at (P := Try.prog) w B 82 o.type 23 i0 (.slice none 0 0) 1 24 Try.underlying82 hi hz0 hz1 hz2 rfl (by decide) v us.length _ hown.row ad 1 c [.slice A0 n0 c0] rfl
    (by intro j u hj; match j, hj with | 0, hj => simp at hj; subst hj; simpa [Addr.add] using hc) (by intro u hu; simp at hu; subst hu; rfl) (by unfold maxLen; omega) (by omega) hB
  unfold Oper.wp execOp
  simp only [ho, resolve, invoke, builtin, Sem.run_bind, Sem.run_pure, Result.andThen_ok, List.map_toArray, List.map_cons, List.map_nil, hs, hx, hr]
  have hkeep : ∀ (u : Value) (xs : List Int), Ints w u xs → (0 < xs.length → ∀ k, u.ownBlock = some k → B ≤ k ∧ v.ownBlock ≠ some k) → Ints w' u xs ∧ (0 < xs.length → ∀ k, u.ownBlock = some k → B ≤ k ∧ v'.ownBlock ≠ some k) := fun u xs h1 h2' => by
    refine ⟨h1.off h3 (fun hn k e => (h2' hn k e).2), fun hn k e => ⟨(h2' hn k e).1, ?_⟩⟩
    rcases h5 with h5 | h5
    · rw [h5]; exact (h2' hn k e).2
    · rw [h5]
      obtain ⟨k', e', hlt⟩ := ints_lt h1 hn
      rw [e] at e'
      injection e' with e'
      intro e2
      injection e2 with e2
      omega
  refine hK _ _ (h v' w' ⟨by simp [hown.len], by simpa using h2, fun j u xs hj hx => ?_⟩ h3 h5)
  rcases Nat.lt_or_ge j us.length with hjl | hjl
  · rw [List.getElem?_append_left hjl] at hj
    rw [List.getElem?_append_left (by rw [← hown.len]; exact hjl)] at hx
    exact hkeep u xs (hown.rows j u xs hj hx).1 (hown.rows j u xs hj hx).2
  · rw [List.getElem?_append_right hjl] at hj
    have hj0 : j - us.length = 0 := by have := (List.getElem?_eq_some_iff.1 hj).1; simp at this; omega
    rw [hj0] at hj
    rw [List.getElem?_append_right (by rw [← hown.len]; exact hjl), ← hown.len, hj0] at hx
    simp at hj hx
    subst hj hx
    exact hkeep _ _ hu hv
end

end Go.Proofs.Ytldblcolnjkcaaa

/-! ## LT -/
namespace Go.Proofs.Ytldblcolnjkcaaa
open Go.RowKit

/-- The rows of tensors, one after the other. -/
def tRows (xs : List TL) : List (List Int) := xs.flatMap fun T => [T.shape, T.values]
theorem tRows_len (xs : List TL) : (tRows xs).length = xs.length * 2 := by
  induction xs with
  | nil => rfl
  | cons T xs ih => simp only [tRows, List.flatMap_cons, List.length_append, List.length_cons, List.length_nil] at ih ⊢; omega
theorem tRows_snoc (xs : List TL) (T : TL) : tRows (xs ++ [T]) = tRows xs ++ [T.shape, T.values] := by simp [tRows]
theorem flat_rows (xs : List TL) : flatR encT xs = (tRows xs).map Cl.row := by
  induction xs with
  | nil => rfl
  | cons T xs ih => simp only [flatR, tRows, List.flatMap_cons, List.map_append] at ih ⊢; rw [ih]; rfl
/-- A row of tensors; their rows lie from block B on, and not in the row's own block. -/
structure LT (w : World) (B : Nat) (v : Value) (us : List Value) (xs : List TL) : Prop where
  len : us.length = xs.length * 2
  row : w.ownsRow B 75 2 v xs.length us
  rows : ∀ (j : Nat) (u : Value) (ys : List Int), us[j]? = some u → (tRows xs)[j]? = some ys → Ints w u ys ∧ (0 < ys.length → ∀ k, u.ownBlock = some k → B ≤ k ∧ v.ownBlock ≠ some k)
section
variable {w w' : World} {B : Nat} {v : Value} {us : List Value} {xs : List TL}
theorem LT.lt (h : LT w B v us xs) : ∀ k, v.ownBlock = some k → B ≤ k ∧ k < w.heap.size := World.ownsRow.lt h.row
theorem LT.grown (h : LT w B v us xs) {g : Nat} (hg : w.grownBy w' (some g)) (hB : g < B) : LT w' B v us xs := by
  refine ⟨h.len, World.ownsRow.kept h.row hg (.inr fun e => by have := (h.lt g e).1; omega), fun j u ys hj hx => ?_⟩
  obtain ⟨h1, h2⟩ := h.rows j u ys hj hx
  exact ⟨h1.off hg (fun hn k e e2 => by have := (h2 hn k e).1; injection e2 with e2; omega), h2⟩
theorem LT.nx (h : LT w B v us xs) (hb : Below w.heap.size w w') : LT w' B v us xs := by
  refine ⟨h.len, World.ownsRow.kept (row := none) h.row ⟨hb.os, hb.tape, hb.output, hb.size, fun k hk _ => hb.block k hk⟩ (by cases hv : v.ownBlock <;> simp), fun j u ys hj hx => ?_⟩
  obtain ⟨h1, h2⟩ := h.rows j u ys hj hx
  exact ⟨h1.nx hb, h2⟩
theorem LT.form (h : LT w B v us xs) : ∃ A c, v = .slice A xs.length c := by
  rcases h.row.2 with ⟨e, h0⟩ | ⟨g, cap, cur, e, _⟩
  · exact ⟨none, 0, by rw [e, h0]⟩
  · exact ⟨_, _, e⟩
theorem LT.tens (h : LT w B v us xs) : TensorsV w v xs := by
  have hrow := h.row
  refine ⟨by rw [flat_rows, List.length_map, tRows_len], ?_⟩
  rcases h.row.2 with ⟨e, h0⟩ | ⟨g, cap, cur, e, hg, hh, hn, hc, hs, ht⟩
  · exact ⟨none, 0, by rw [e, h0], by omega, by unfold maxLen; omega, fun h1 => by omega⟩
  · subst e
    refine ⟨_, _, rfl, hn, hc, fun h0 => ⟨g, 0, rfl, (Array.getElem?_eq_some_iff.1 hh).1, fun j c hx => ?_⟩⟩
    rw [flat_rows, List.getElem?_map, Option.map_eq_some_iff] at hx
    obtain ⟨ys, hy, rfl⟩ := hx
    have hj : j < us.length := by have := (List.getElem?_eq_some_iff.1 hy).1; rw [tRows_len] at this; rw [h.len]; exact this
    refine ⟨us[j], ?_, (h.rows j _ ys (List.getElem?_eq_getElem hj) hy).1⟩
    have hl := h.len
    rw [Nat.zero_add, hrow.cellAt j (by omega)]
    exact List.getElem?_eq_getElem hj
theorem LT.empty (w : World) {B g : Nat} (hg : g = w.heap.size) (hB : B ≤ g) : LT (w.alloc (.cells #[] 75)) B (.slice (some ⟨g, 0, none⟩) 0 0) [] [] := by
  subst hg
  exact ⟨rfl, ⟨by simp, .inr ⟨w.heap.size, 0, #[], rfl, hB, heap_alloc_new w _, Nat.le_refl _, by unfold maxLen; omega, rfl, rfl⟩⟩, fun j u xs hj => by simp at hj⟩
end
section
variable {ops : Array Oper} {rest : List Oper} {o : Oper} {a : Act} {Q : Exit → Act → World → Prop}
theorem appT (w : World) (hgd : o.guard = none) (s x : Operand) (ho : o.op = .call { callee := .builtin .append, args := #[s, x], argTypes := #[86, 86] })
    (B : Nat) (v : Value) (us : List Value) (xs : List TL) (hs : a.eval s = v) (hown : LT w B v us xs) (ad : Addr) (c : Nat) (A0 : Option Addr) (n0 c0 : Nat) (A1 : Option Addr) (n1 c1 : Nat) (T : TL) (hx : a.eval x = .slice (some ad) 1 c)
    (hc0 : w.cell? (ad.add 0) = some (.slice A0 n0 c0)) (hc1 : w.cell? (ad.add 1) = some (.slice A1 n1 c1))
    (hu0 : Ints w (.slice A0 n0 c0) T.shape) (hv0 : 0 < T.shape.length → ∀ k, (Value.slice A0 n0 c0).ownBlock = some k → B ≤ k ∧ v.ownBlock ≠ some k)
    (hu1 : Ints w (.slice A1 n1 c1) T.values) (hv1 : 0 < T.values.length → ∀ k, (Value.slice A1 n1 c1).ownBlock = some k → B ≤ k ∧ v.ownBlock ≠ some k)
    (hlen : xs.length ≤ 1000000000) (hB : B ≤ w.heap.size)
    (h : ∀ v' w', LT w' B v' (us ++ [.slice A0 n0 c0, .slice A1 n1 c1]) (xs ++ [T]) → w.grownBy w' v.ownBlock → (v'.ownBlock = v.ownBlock ∨ v'.ownBlock = some w.heap.size) → wpList Try.prog ops Q rest (a.put o.dst v') w') : wpList Try.prog ops Q (o :: rest) a w := by
  refine wpList_plain hgd fun K hK => ?_
  have hinf : (Try.prog.info? 75).map (fun i => (i.zero, i.size, i.bytes)) = some (some (.agg #[.slice none 0 0, .slice none 0 0]), 2, 48) := by kernel_rfl
  obtain ⟨i0, hi, hz0, hz1, hz2⟩ := info_parts hinf
  obtain ⟨v', w', hr, h2, h3, _, h5⟩ := run_append_own_at (P := Try.prog) w B 86 o.type 75 i0 (.agg #[.slice none 0 0, .slice none 0 0]) 2 48 Try.underlying86 hi hz0 hz1 hz2 rfl (by decide) v xs.length _ hown.row ad 1 c [.slice A0 n0 c0, .slice A1 n1 c1] rfl
    (by intro j u hj; match j, hj with | 0, hj => (simp at hj; subst hj; exact hc0) | 1, hj => (simp at hj; subst hj; exact hc1)) (by intro u hu; simp at hu; (rcases hu with rfl | rfl) <;> rfl) (by unfold maxLen; omega) (by omega) hB
  unfold Oper.wp execOp
  simp only [ho, resolve, invoke, builtin, Sem.run_bind, Sem.run_pure, Result.andThen_ok, List.map_toArray, List.map_cons, List.map_nil, hs, hx, hr]
  have hkeep : ∀ (u : Value) (ys : List Int), Ints w u ys → (0 < ys.length → ∀ k, u.ownBlock = some k → B ≤ k ∧ v.ownBlock ≠ some k) → Ints w' u ys ∧ (0 < ys.length → ∀ k, u.ownBlock = some k → B ≤ k ∧ v'.ownBlock ≠ some k) := fun u ys h1 h2' => by
    refine ⟨h1.off h3 (fun hn k e => (h2' hn k e).2), fun hn k e => ⟨(h2' hn k e).1, ?_⟩⟩
    rcases h5 with h5 | h5
    · rw [h5]; exact (h2' hn k e).2
    · rw [h5]
      obtain ⟨k', e', hlt⟩ := ints_lt h1 hn
      rw [e] at e'
      injection e' with e'
      intro e2
      injection e2 with e2
      omega
  refine hK _ _ (h v' w' ⟨by simp [hown.len]; omega, by simpa using h2, fun j u ys hj hx => ?_⟩ h3 h5)
  rw [tRows_snoc] at hx
  have hlr := tRows_len xs
  rcases Nat.lt_or_ge j us.length with hjl | hjl
  · rw [List.getElem?_append_left hjl] at hj
    rw [List.getElem?_append_left (by rw [hlr, ← hown.len]; exact hjl)] at hx
    exact hkeep u ys (hown.rows j u ys hj hx).1 (hown.rows j u ys hj hx).2
  · rw [List.getElem?_append_right hjl] at hj
    rw [List.getElem?_append_right (by rw [hlr, ← hown.len]; exact hjl), hlr, ← hown.len] at hx
    generalize j - us.length = i at *
    match i, hj, hx with
    | 0, hj, hx => (simp at hj hx; subst hj hx; exact hkeep _ _ hu0 hv0)
    | 1, hj, hx => (simp at hj hx; subst hj hx; exact hkeep _ _ hu1 hv1)
    | i + 2, hj, hx => simp at hj
end

end Go.Proofs.Ytldblcolnjkcaaa

/-! ## HQ2 -/
namespace Go.Proofs.Ytldblcolnjkcaaa
open Go.RowKit

section
variable {ops : Array Oper} {rest : List Oper} {o : Oper} {a : Act} {Q : Exit → Act → World → Prop}
theorem appRT (w : World) (hgd : o.guard = none) (s x : Operand) (ho : o.op = .call { callee := .builtin .append, args := #[s, x], argTypes := #[86, 86] })
    (B : Nat) (v : Value) (n : Nat) (us : List Value) (hs : a.eval s = v) (hown : w.ownsRow B 75 2 v n us) (ad : Addr) (c : Nat) (A0 : Option Addr) (n0 c0 : Nat) (A1 : Option Addr) (n1 c1 : Nat) (hx : a.eval x = .slice (some ad) 1 c)
    (hc0 : w.cell? (ad.add 0) = some (.slice A0 n0 c0)) (hc1 : w.cell? (ad.add 1) = some (.slice A1 n1 c1)) (hlen : n ≤ 1000000000) (hB : B ≤ w.heap.size)
    (h : ∀ v' w', w'.ownsRow B 75 2 v' (n + 1) (us ++ [.slice A0 n0 c0, .slice A1 n1 c1]) → w.grownBy w' v.ownBlock → (v'.ownBlock = v.ownBlock ∨ v'.ownBlock = some w.heap.size) → wpList Try.prog ops Q rest (a.put o.dst v') w') : wpList Try.prog ops Q (o :: rest) a w := by
  refine wpList_plain hgd fun K hK => ?_
  have hinf : (Try.prog.info? 75).map (fun i => (i.zero, i.size, i.bytes)) = some (some (.agg #[.slice none 0 0, .slice none 0 0]), 2, 48) := by kernel_rfl
  obtain ⟨i0, hi, hz0, hz1, hz2⟩ := info_parts hinf
  obtain ⟨v', w', hr, h2, h3, _, h5⟩ := run_append_own_at (P := Try.prog) w B 86 o.type 75 i0 (.agg #[.slice none 0 0, .slice none 0 0]) 2 48 Try.underlying86 hi hz0 hz1 hz2 rfl (by decide) v n _ hown ad 1 c [.slice A0 n0 c0, .slice A1 n1 c1] rfl
    (by intro j u hj; match j, hj with | 0, hj => (simp at hj; subst hj; exact hc0) | 1, hj => (simp at hj; subst hj; exact hc1)) (by intro u hu; simp at hu; (rcases hu with rfl | rfl) <;> rfl) (by unfold maxLen; omega) (by omega) hB
  unfold Oper.wp execOp
  simp only [ho, resolve, invoke, builtin, Sem.run_bind, Sem.run_pure, Result.andThen_ok, List.map_toArray, List.map_cons, List.map_nil, hs, hx, hr]
  exact hK _ _ (h v' w' h2 h3 h5)
theorem appRL (w : World) (hgd : o.guard = none) (s x : Operand) (ho : o.op = .call { callee := .builtin .append, args := #[s, x], argTypes := #[82, 82] })
    (B : Nat) (v : Value) (n : Nat) (us : List Value) (hs : a.eval s = v) (hown : w.ownsRow B 23 1 v n us) (ad : Addr) (c : Nat) (A0 : Option Addr) (n0 c0 : Nat) (hx : a.eval x = .slice (some ad) 1 c)
    (hc0 : w.cell? (ad.add 0) = some (.slice A0 n0 c0)) (hlen : n ≤ 1000000000) (hB : B ≤ w.heap.size)
    (h : ∀ v' w', w'.ownsRow B 23 1 v' (n + 1) (us ++ [.slice A0 n0 c0]) → w.grownBy w' v.ownBlock → (v'.ownBlock = v.ownBlock ∨ v'.ownBlock = some w.heap.size) → wpList Try.prog ops Q rest (a.put o.dst v') w') : wpList Try.prog ops Q (o :: rest) a w := by
  refine wpList_plain hgd fun K hK => ?_
  obtain ⟨i0, hi, hz0, hz1, hz2⟩ := info_parts Try.infoRow
  obtain ⟨v', w', hr, h2, h3, _, h5⟩ := run_append_own_at (P := Try.prog) w B 82 o.type 23 i0 (.slice none 0 0) 1 24 Try.underlying82 hi hz0 hz1 hz2 rfl (by decide) v n _ hown ad 1 c [.slice A0 n0 c0] rfl
    (by intro j u hj; match j, hj with | 0, hj => (simp at hj; subst hj; exact hc0)) (by intro u hu; simp at hu; subst hu; rfl) (by unfold maxLen; omega) (by omega) hB
  unfold Oper.wp execOp
  simp only [ho, resolve, invoke, builtin, Sem.run_bind, Sem.run_pure, Result.andThen_ok, List.map_toArray, List.map_cons, List.map_nil, hs, hx, hr]
  exact hK _ _ (h v' w' h2 h3 h5)
end

theorem row_tens {w : World} {B : Nat} {v : Value} {us : List Value} {xs : List TL} (hrow : w.ownsRow B 75 2 v xs.length us) (hr : ∀ (j : Nat) (u : Value) (ys : List Int), us[j]? = some u → (tRows xs)[j]? = some ys → Ints w u ys) : TensorsV w v xs := by
  have hl := hrow.1
  refine ⟨by rw [flat_rows, List.length_map, tRows_len], ?_⟩
  rcases hrow.2 with ⟨e, h0⟩ | ⟨g, cap, cur, e, hg, hh, hn, hc, hs, ht⟩
  · exact ⟨none, 0, by rw [e, h0], by omega, by unfold maxLen; omega, fun h1 => by omega⟩
  · subst e
    refine ⟨_, _, rfl, hn, hc, fun h0 => ⟨g, 0, rfl, (Array.getElem?_eq_some_iff.1 hh).1, fun j c hx => ?_⟩⟩
    rw [flat_rows, List.getElem?_map, Option.map_eq_some_iff] at hx
    obtain ⟨ys, hy, rfl⟩ := hx
    have hj : j < us.length := by have := (List.getElem?_eq_some_iff.1 hy).1; rw [tRows_len] at this; rw [hl]; exact this
    refine ⟨us[j], ?_, hr j _ ys (List.getElem?_eq_getElem hj) hy⟩
    rw [Nat.zero_add, hrow.cellAt j (by omega)]
    exact List.getElem?_eq_getElem hj
theorem row_lists {w : World} {B : Nat} {v : Value} {us : List Value} {xss : List (List Int)} (hrow : w.ownsRow B 23 1 v xss.length us) (hr : ∀ (j : Nat) (u : Value) (ys : List Int), us[j]? = some u → xss[j]? = some ys → Ints w u ys) : IntsS w v xss := by
  have hl := hrow.1
  rcases hrow.2 with ⟨e, h0⟩ | ⟨g, cap, cur, e, hg, hh, hn, hc, hs, ht⟩
  · exact ⟨none, 0, by rw [e, h0], by omega, by unfold maxLen; omega, fun h1 => by omega⟩
  · subst e
    refine ⟨_, _, rfl, hn, hc, fun h0 => ⟨g, 0, rfl, (Array.getElem?_eq_some_iff.1 hh).1, fun j xs hx => ?_⟩⟩
    have hj : j < us.length := by have := (List.getElem?_eq_some_iff.1 hx).1; rw [hl]; omega
    refine ⟨us[j], ?_, hr j _ xs (List.getElem?_eq_getElem hj) hx⟩
    rw [Nat.zero_add, hrow.cellAt j (by omega)]
    exact List.getElem?_eq_getElem hj

end Go.Proofs.Ytldblcolnjkcaaa

/-! ## HR -/
namespace Go.Proofs.Ytldblcolnjkcaaa
open Go.RowKit

structure Hr (N g q : Nat) (w wx : World) (L : List Item) : Prop where
  hp : Hp w.heap.size wx wx L
  lt : g < w.heap.size
  rd : Rd N wx g q
  grew : w.grownBy wx (some g)
section
variable {N g q p : Nat} {w wx wy : World} {L L' : List Item}
theorem Hr.start (h : Rd N w g q) : Hr N g q w w [] := ⟨Hp.start w, h.lt.2, h, World.grownBy.refl w (some g)⟩
theorem Hr.op (h : Hr N g q w wx L) (hp : Hp w.heap.size wx wy L') : Hr N g q w wy L' :=
  ⟨⟨Below.refl _ _, hp.size, hp.ok, hp.sep⟩, h.lt, h.rd.keep (hp.below.mono (by have := h.rd.lt; have := h.lt; omega)) (hp.below.block g h.lt),
   hp.below.os.trans h.grew.os, hp.below.tape.trans h.grew.tape, hp.below.output.trans h.grew.output, hp.size, fun k hk hne => (hp.below.block k hk).trans (h.grew.block k hk hne)⟩
theorem Hr.nx (h : Hr N g q w wx L) (hb : Below wx.heap.size wx wy) : Hr N g q w wy L := h.op (h.hp.nx hb)
theorem Hr.ate (h : Hr N g q w wx L) (hR : Rd N wy g p) (hG : wx.grownBy wy (some g)) : Hr N g p w wy L :=
  ⟨⟨Below.refl _ _, Nat.le_trans h.hp.size hG.size, fun i hi => (h.hp.ok i hi).stay fun k hk ho => hG.block k hk fun e => by
      injection e with e
      have := (h.hp.ok i hi).lt ho
      have := h.lt
      omega, h.hp.sep⟩, h.lt, hR, h.grew.trans hG⟩
theorem Hr.blk (h : Hr N g q w wx L) (i : Nat) {b : Nat} {T : TypeId} {cs : Array Value} (hi : L[i]? = some (.blk b T cs)) : Blk wx b T cs := h.hp.blk i hi
theorem Hr.ints (h : Hr N g q w wx L) (i : Nat) {v : Value} {xs : List Int} (hi : L[i]? = some (.ints v xs)) : Own wx w.heap.size v xs := h.hp.ints i hi
theorem Hr.sz (h : Hr N g q w wx L) : w.heap.size ≤ wx.heap.size := h.hp.size
end
/-- What drawing a tensor leaves. -/
def RetTensorR (N g p n m : Nat) (w : World) (e : Ending) (w' : World) : Prop := ∃ (sv tv : Value) (T : TL) (q : Nat), e = .returned (.agg #[sv, tv]) ∧ T.shape.length ≤ n ∧ T.values.length ≤ n ∧
  Own w' w.heap.size sv T.shape ∧ Own w' w.heap.size tv T.values ∧ Sep sv tv ∧ q ≤ p + m ∧ Rd N w' g q ∧ w.grownBy w' (some g)

end Go.Proofs.Ytldblcolnjkcaaa

/-! ## PO0 -/
namespace Go.Proofs.Ytldblcolnjkcaaa
open Go.RowKit

section
variable {N g q p : Nat} {w0 w wx wy w' : World} {L L' : List Itm}
theorem Hq.perm (h : Hq N w0 w L) (hp : L.Perm L') : Hq N w0 w L' :=
  ⟨h.below, h.size, fun i hi => h.ok i (hp.mem_iff.2 hi), (hp.pairwise_iff fun {_ _} h => Itm.off_symm h).1 h.sep⟩
theorem Hs.perm (h : Hs N g q w wx L) (hp : L.Perm L') : Hs N g q w wx L' := h.op (((⟨Below.refl _ _, h.hp.size, h.hp.ok, h.hp.sep⟩ : Hq w.heap.size wx wx L)).perm hp)
theorem Hq.sub (h : Hq N w0 w L) (hs : L'.Sublist L) : Hq N w0 w L' := ⟨h.below, h.size, fun i hi => h.ok i (hs.subset hi), h.sep.sublist hs⟩
theorem Hs.sub (h : Hs N g q w wx L) (hs : L'.Sublist L) : Hs N g q w wx L' := h.op ((⟨Below.refl _ _, h.hp.size, h.hp.ok, h.hp.sep⟩ : Hq w.heap.size wx wx L).sub hs)
/-- A cell of a row of records is written. -/
theorem Hq.rowStore (h : Hq N w0 w L) (i : Nat) {T : TypeId} {s n c b : Nat} {us : List Value} (hi : L[i]? = some (.row T s n (.slice (some ⟨b, 0, none⟩) n c) us)) (j : Nat) (u : Value) :
    Hq N w0 (w.setCell ⟨b, j, none⟩ u) (L.set i (.row T s n (.slice (some ⟨b, 0, none⟩) n c) (us.set j u))) :=
  h.change i hi ((h.rowAt i hi).stored j u).1 (fun k _ hn => heap_setCell_other w ⟨b, j, none⟩ k _ (fun e => hn (by simp [Itm.owns, Value.ownBlock, e]))) (fun k hk => .inl hk) (by simp) rfl rfl rfl
theorem Hs.rowAt (h : Hs N g q w wx L) (i : Nat) {T : TypeId} {s n : Nat} {v : Value} {us : List Value} (hi : L[i]? = some (.row T s n v us)) : wx.ownsRow w.heap.size T s v n us := h.hp.rowAt i hi
theorem Hs.out_ (h : Hs N g q w wx L) {v : Value} {xs : List Int} {i : Nat} (hi : L[i]? = some (.ints v xs)) : IntsN g wx v xs := IntsN.of_own (h.ints i hi) h.lt
theorem Hs.tensd {sv tv : Value} {xs ys : List Int} (h : Hs N g q w wx L) (ho : Own wy wx.heap.size sv xs) (hp : Own wy wx.heap.size tv ys) (hs : Sep sv tv) (hR : Rd N wy g p) (hG : wx.grownBy wy (some g)) :
    Hs N g p w wy (L ++ [.ints sv xs, .ints tv ys]) := by
  have h1 := h.ate hR hG
  refine ⟨⟨Below.refl _ _, h1.hp.size, fun i hi => ?_, List.pairwise_append.2 ⟨h1.hp.sep, List.pairwise_pair.2 hs, fun a ha b hb k h2 h3 => ?_⟩⟩, h1.lt, h1.rd, h1.grew⟩
  · rcases List.mem_append.1 hi with hi | hi
    · exact h1.hp.ok i hi
    · simp at hi
      rcases hi with rfl | rfl
      · exact Own.mono ho h.sz
      · exact Own.mono hp h.sz
  · have := (h.hp.ok a ha).lt h2
    have : wx.heap.size ≤ k := by
      simp at hb
      rcases hb with rfl | rfl
      · exact (ho.lt k h3).1
      · exact (hp.lt k h3).1
    omega
end

/-- Rows of labels, rows of tensors. -/
def lI (ls : List (Value × List Int)) : List Itm := ls.map fun l => .ints l.1 l.2
def lU (ls : List (Value × List Int)) : List Value := ls.map (·.1)
def tI (ts : List (Value × Value × TL)) : List Itm := ts.flatMap fun t => [.ints t.1 t.2.2.shape, .ints t.2.1 t.2.2.values]
def tU (ts : List (Value × Value × TL)) : List Value := ts.flatMap fun t => [t.1, t.2.1]
theorem lI_snoc (ls : List (Value × List Int)) (u : Value) (xs : List Int) : lI (ls ++ [(u, xs)]) = lI ls ++ [.ints u xs] := by simp [lI]
theorem lU_snoc (ls : List (Value × List Int)) (u : Value) (xs : List Int) : lU (ls ++ [(u, xs)]) = lU ls ++ [u] := by simp [lU]
theorem tI_snoc (ts : List (Value × Value × TL)) (s t : Value) (T : TL) : tI (ts ++ [(s, t, T)]) = tI ts ++ [.ints s T.shape, .ints t T.values] := by simp [tI]
theorem tU_snoc (ts : List (Value × Value × TL)) (s t : Value) (T : TL) : tU (ts ++ [(s, t, T)]) = tU ts ++ [s, t] := by simp [tU]
theorem lI_read {N : Nat} {w : World} : ∀ {ls : List (Value × List Int)}, (∀ i ∈ lI ls, i.ok N w) → ∀ (j : Nat) (u : Value) (ys : List Int), (lU ls)[j]? = some u → (ls.map (·.2))[j]? = some ys → Ints w u ys
  | [], _, j, u, ys, h1, _ => by simp [lU] at h1
  | l :: ls, h, 0, u, ys, h1, h2 => by
    simp [lU] at h1 h2
    subst h1 h2
    exact Own.ints (h (.ints l.1 l.2) (by simp [lI]))
  | l :: ls, h, j + 1, u, ys, h1, h2 => by
    simp [lU] at h1 h2
    exact lI_read (ls := ls) (fun i hi => h i (by simp [lI] at hi ⊢; exact .inr hi)) j u ys (by simpa [lU] using h1) (by simpa using h2)
theorem tI_read {N : Nat} {w : World} : ∀ {ts : List (Value × Value × TL)}, (∀ i ∈ tI ts, i.ok N w) → ∀ (j : Nat) (u : Value) (ys : List Int), (tU ts)[j]? = some u → (tRows (ts.map (·.2.2)))[j]? = some ys → Ints w u ys
  | [], _, j, u, ys, h1, _ => by simp [tU] at h1
  | t :: ts, h, 0, u, ys, h1, h2 => by
    simp [tU, tRows] at h1 h2
    subst h1 h2
    exact Own.ints (h (.ints t.1 t.2.2.shape) (by simp [tI]))
  | t :: ts, h, 1, u, ys, h1, h2 => by
    simp [tU, tRows] at h1 h2
    subst h1 h2
    exact Own.ints (h (.ints t.2.1 t.2.2.values) (by simp [tI]))
  | t :: ts, h, j + 2, u, ys, h1, h2 => by
    refine tI_read (ts := ts) (fun i hi => h i ?_) j u ys ?_ ?_
    · simp only [tI, List.flatMap_cons, List.mem_append] at hi ⊢; exact .inr hi
    · simpa [tU] using h1
    · simpa [tRows] using h2

/-- The items while tensors and labels are drawn: the extents, the rows of tensors, of labels, all labels; then what the rows hold. -/
def pI (e vt vl va : Value) (E all : List Int) (ts : List (Value × Value × TL)) (ls : List (Value × List Int)) : List Itm :=
  .ints e E :: .row 75 2 ts.length vt (tU ts) :: .row 23 1 ls.length vl (lU ls) :: .ints va all :: (tI ts ++ lI ls)
/-- What drawing tensors, labels and labels of a result leaves. -/
def RetProd (g : Nat) (w : World) (e : Ending) (w' : World) : Prop := ∃ (xs : List TL) (lss : List (List Int)) (vt vl vo : Value), e = .returned (.tuple #[vt, vl, vo]) ∧ TensorsV w' vt xs ∧ IntsS w' vl lss ∧ w.grownBy w' (some g)
/-- From items back to what the rows read as. -/
theorem prod_done {N g q : Nat} {w wx : World} {vt vl : Value} {ts : List (Value × Value × TL)} {ls : List (Value × List Int)} {L : List Itm} (h : Hs N g q w wx L)
    (h1 : (.row 75 2 ts.length vt (tU ts)) ∈ L) (h2 : (.row 23 1 ls.length vl (lU ls)) ∈ L) (h3 : ∀ i ∈ tI ts, i ∈ L) (h4 : ∀ i ∈ lI ls, i ∈ L) (vo : Value) : RetProd g w (.returned (.tuple #[vt, vl, vo])) wx := by
  refine ⟨ts.map (·.2.2), ls.map (·.2), vt, vl, vo, rfl, ?_, ?_, h.grew⟩
  · exact row_tens (B := w.heap.size) (us := tU ts) (by rw [List.length_map]; exact h.hp.ok _ h1) (tI_read fun i hi => h.hp.ok i (h3 i hi))
  · exact row_lists (B := w.heap.size) (us := lU ls) (by rw [List.length_map]; exact h.hp.ok _ h2) (lI_read fun i hi => h.hp.ok i (h4 i hi))
/-- The round's end: the row of labels that lay ahead, and the new tensor, go to their places. -/
theorem pI_perm (A X Y : List Itm) (u s t : Itm) : (u :: (A ++ (X ++ Y)) ++ [s, t]).Perm (A ++ ((X ++ [s, t]) ++ (Y ++ [u]))) := by
  have h1 : (u :: (A ++ (X ++ Y)) ++ [s, t]).Perm ((A ++ (X ++ Y) ++ [s, t]) ++ [u]) := List.perm_append_comm (l₁ := [u])
  refine h1.trans ?_
  simp only [List.append_assoc]
  refine List.Perm.append_left A (List.Perm.append_left X ?_)
  have h2 : (Y ++ [s, t]).Perm ([s, t] ++ Y) := List.perm_append_comm
  have h3 := h2.append_right [u]
  simpa using h3
/-- The same items, with the rows' sizes, cells and all that follows them as they come. -/
def pK (e vt vl va : Value) (E all : List Int) (nT : Nat) (uT : List Value) (nL : Nat) (uL : List Value) (R : List Itm) : List Itm :=
  .ints e E :: .row 75 2 nT vt uT :: .row 23 1 nL vl uL :: .ints va all :: R
theorem pI_next {N g q : Nat} {w wx : World} {e vt vl va u s t : Value} {E all xs : List Int} {ts : List (Value × Value × TL)} {ls : List (Value × List Int)} {T : TL}
    (h : Hs N g q w wx (.ints u xs :: pK e vt vl va E (all ++ xs) (ts.length + 1) (tU ts ++ [s, t]) (ls.length + 1) (lU ls ++ [u]) ((tI ts ++ lI ls) ++ [.ints s T.shape, .ints t T.values]))) :
    Hs N g q w wx (pI e vt vl va E (all ++ xs) (ts ++ [(s, t, T)]) (ls ++ [(u, xs)])) := by
  have h2 := h.perm (pI_perm [.ints e E, .row 75 2 (ts.length + 1) vt (tU ts ++ [s, t]), .row 23 1 (ls.length + 1) vl (lU ls ++ [u]), .ints va (all ++ xs)] (tI ts) (lI ls) (.ints u xs) (.ints s T.shape) (.ints t T.values))
  unfold pI
  rw [tI_snoc, lI_snoc, tU_snoc, lU_snoc, List.length_append, List.length_append]
  exact h2
theorem pK_mid (o x : Itm) (e vt vl va : Value) (E all : List Int) (nT : Nat) (uT : List Value) (nL : Nat) (uL : List Value) (X Y : List Itm) :
    (o :: pK e vt vl va E all nT uT nL uL (X ++ x :: Y)).Perm (x :: o :: pK e vt vl va E all nT uT nL uL (X ++ Y)) :=
  List.perm_middle (l₁ := (o :: .ints e E :: .row 75 2 nT vt uT :: .row 23 1 nL vl uL :: .ints va all :: X : List Itm)) (l₂ := Y) (a := x)
theorem pI_label {N g q : Nat} {w wx : World} {o : Itm} {e vt vl va u : Value} {E all xs : List Int} {ts : List (Value × Value × TL)} {ls : List (Value × List Int)} (h : Hs N g q w wx (o :: pI e vt vl va E all ts ((u, xs) :: ls))) :
    Hs N g q w wx (.ints u xs :: o :: pK e vt vl va E all ts.length (tU ts) (ls.length + 1) (u :: lU ls) (tI ts ++ lI ls)) :=
  h.perm (pK_mid o (.ints u xs) e vt vl va E all ts.length (tU ts) (ls.length + 1) (u :: lU ls) (tI ts) (lI ls))
end Go.Proofs.Ytldblcolnjkcaaa

/-! ## SH1 -/
namespace Go.Proofs.Ytldblcolnjkcaaa
open Go.RowKit

theorem isShapeL_snoc {xs : List Int} {x : Int} (h : isShapeL xs = true) (hl : xs.length < 4) (hx : 0 ≤ x ∧ x ≤ 60) (hp : prodI xs * x ≤ 60) : isShapeL (xs ++ [x]) = true := by
  obtain ⟨h1, h2, -⟩ := shape_ext h
  have h2' : ∀ y ∈ xs ++ [x], 0 ≤ y ∧ y ≤ 60 := fun y hy => by
    rcases List.mem_append.1 hy with hy | hy
    · exact h2 y hy
    · simp at hy; subst hy; exact hx
  have b := prodW_eq (xs := xs ++ [x]) (by simp; omega) h2'
  simp only [isShapeL, Bool.and_eq_true, decide_eq_true_eq, List.all_eq_true, okExt, inR_iff]
  exact ⟨⟨by simp; omega, h2'⟩, by rw [b.1, prodI_snoc]; exact hp⟩
/-- What drawing a shape leaves. -/
def RetShapeR (N g p : Nat) (w : World) (e : Ending) (w' : World) : Prop := ∃ (u : Value) (xs : List Int) (q : Nat), e = .returned u ∧ isShapeL xs = true ∧ (∀ x ∈ xs, x ≤ 5) ∧ Own w' w.heap.size u xs ∧ q ≤ p + 5 ∧ Rd N w' g q ∧ w.grownBy w' (some g)

set_option maxRecDepth 100000 in
set_option maxHeartbeats 6400000 in
theorem goodShape_any (N g p : Nat) (w : World) (h : Rd N w g p) (hp : p ≤ 900000) :
    Calls Try.prog 150 #[.pointer (some ⟨g, 0, none⟩)] w (RetShapeR N g p w) := by
  have HM0 := hid (DMid.start h)
  go_enter Try.func150, Try.ntmps150
  go_upto_region 2 with fail
  obtain ⟨b0, hb0⟩ : ∃ b, b = w.heap.size := ⟨_, rfl⟩
  rw [← hb0] at HM0 ⊢
  have HB0 := hid hb0
  clear hb0
  generalize w.alloc (.cells #[] 3) = w0 at *
  have hL : Own (w0.alloc (.cells #[.int .i64 2, .int .i64 1, .int .i64 3, .int .i64 2, .int .i64 0, .int .i64 4] 3)) w0.heap.size (.slice (some ⟨w0.heap.size, 0, none⟩) 6 6) [2, 1, 3, 2, 0, 4] := own_lit w0 [2, 1, 3, 2, 0, 4] (by simp)
  have HA := hid (HM0.out.nx (below_alloc w0 (.cells #[.int .i64 2, .int .i64 1, .int .i64 3, .int .i64 2, .int .i64 0, .int .i64 4] 3)))
  have HE := hid (HM0.out.rd.lit 6 6)
  go_wp2_with fail
  refine (one_any _ _ (p) _ _ _ _ HA.out.rd (by omega) hL (by simp) HE.out).mono ?_; rintro e w1 ⟨r, hr, rfl, hR, hG⟩
  have HM1 := hid (HA.out.ate hR hG)
  obtain ⟨n, ey, hn⟩ : ∃ y : Int, [2, 1, 3, 2, 0, 4][r] = y ∧ y ∈ ([2, 1, 3, 2, 0, 4] : List Int) := ⟨_, rfl, List.getElem_mem hr⟩
  rw [ey]
  clear hR hG ey hr hL HA HE
  obtain ⟨k, hk, hk4⟩ : ∃ k : Nat, n = (k : Int) ∧ k ≤ 4 := ⟨n.toNat, by simp at hn; omega⟩
  subst hk
  clear hn
  go_wp2_with fail
  go_loopg [3, 4, 5] k (fun m' out z z5 wr => ∃ (j q : Nat) (xs : List Int), m' = j ∧ z = .int .i64 j ∧ q + j ≤ p + 5 ∧ xs.length + j ≤ 4 ∧ Hid (isShapeL xs = true) ∧ Hid (∀ x ∈ xs, x ≤ 5) ∧ DMid N g w b0 wr q out xs)
  case atStart => exact ⟨k, p + 1, [], rfl, rfl, by omega, by simp; omega, hid (by decide), hid (by simp), HM1.out⟩
  case round =>
    obtain ⟨j, q, xs, hm, rfl, hq, hxl, HS, H5, hM⟩ := hrel
    have HM := hid hm
    obtain ⟨Ao, co, eo⟩ := hM.own.form
    subst eo
    obtain ⟨w2, rfl⟩ : ∃ w2, w2 = wr := ⟨_, rfl⟩
    have HM2 := hid hM
    have HXL := hid hxl
    clear hm hM hxl HM0 HM1
    by_cases hj : 0 < j
    · have hji : (0 : Int) < (j : Int) := by omega
      have hL : Own (w2.alloc (.cells #[.int .i64 2, .int .i64 3, .int .i64 1, .int .i64 4, .int .i64 2, .int .i64 3, .int .i64 5, .int .i64 0] 3)) w2.heap.size (.slice (some ⟨w2.heap.size, 0, none⟩) 8 8) [2, 3, 1, 4, 2, 3, 5, 0] := own_lit w2 [2, 3, 1, 4, 2, 3, 5, 0] (by simp)
      have HA := hid (HM2.out.nx (below_alloc w2 (.cells #[.int .i64 2, .int .i64 3, .int .i64 1, .int .i64 4, .int .i64 2, .int .i64 3, .int .i64 5, .int .i64 0] 3)))
      have HE := hid (HM2.out.rd.lit 8 8)
      go_wp2_with fail
      refine (one_any _ _ (q) _ _ _ _ HA.out.rd (by omega) hL (by simp) HE.out).mono ?_; rintro e w3 ⟨r, hr, rfl, hR, hG⟩
      have HM3 := hid (HA.out.ate hR hG)
      obtain ⟨y, ey, hy⟩ : ∃ y : Int, [2, 3, 1, 4, 2, 3, 5, 0][r] = y ∧ y ∈ ([2, 3, 1, 4, 2, 3, 5, 0] : List Int) := ⟨_, rfl, List.getElem_mem hr⟩
      rw [ey]
      clear hR hG ey hr hL HA HE
      have hyb : 0 ≤ y ∧ y ≤ 5 := by simp at hy; omega
      have hsp := shape_prod HS.out
      go_wp2_with fail
      refine (count_any _ xs _ HM3.out.own.ints).mono ?_; rintro e w' ⟨rfl, rfl⟩
      rw [hsp.1]
      have hpb : 0 ≤ prodI xs * y ∧ prodI xs * y ≤ 300 := by
        have a := Int.mul_nonneg hsp.2.1 hyb.1
        have b := Int.mul_le_mul hsp.2.2 hyb.2 hyb.1 (by omega)
        omega
      have HPS := hid (fun (h1 : xs.length < 4) (h2 : prodI xs * y ≤ 60) => isShapeL_snoc HS.out h1 ⟨hyb.1, by omega⟩ h2)
      have hw : IntKind.i64.wrap (prodI xs * y) = prodI xs * y := IntWalk.i64_in _ (by omega)
      obtain ⟨PR, hPR⟩ : ∃ PR, prodI xs * y = PR := ⟨_, rfl⟩
      have hw := hw.trans hPR
      rw [hPR] at hpb HPS
      generalize prodI xs = P0 at *
      clear hsp hPR
      have hwj : IntKind.i64.wrap ((j : Int) - 1) = (j : Int) - 1 := IntWalk.i64_in _ (by omega)
      by_cases hle : PR ≤ 60
      · have HN := hid (HPS.out (by have := HXL.out; omega) hle)
        have H6 := hid (show ∀ x ∈ xs ++ [y], x ≤ 5 from fun x hx => by
          rcases List.mem_append.1 hx with hx | hx
          · exact H5.out x hx
          · simp at hx; omega)
        have HL1 := hid (show xs.length ≤ 1000000000000 by have := HXL.out; omega)
        go_wp2_with (at_builtin; refine app1 _ rfl _ _ rfl b0 _ xs rfl (HM3.out.own.alloc _) ⟨w3.heap.size, 0, none⟩ 1 y rfl (cell_new1 _ _ _) HL1.out (le_alloc HM3.out.sz _) ?_)
        intro v1 w9 ho9 hg9 hat9
        have HM9 := hid ((HM3.out.nx (below_alloc w3 (.cells #[.int .i64 y] 3))).row ho9 hg9)
        clear hg9 hat9 ho9
        go_wp2
        go_roundg (j - 1)
        case measure => have := HM.out; omega
        case rel => exact ⟨j - 1, q + 1, _, rfl, by congr 1; omega, by omega, by have := HXL.out; simp; omega, HN, H6, HM9.out⟩
      · go_wp2
        go_roundg (j - 1)
        case measure => have := HM.out; omega
        case rel => exact ⟨j - 1, q + 1, _, rfl, by congr 1; omega, by omega, by have := HXL.out; omega, HS, H5, HM3.out⟩
    · have hji : ¬ (0 : Int) < (j : Int) := by omega
      go_wp2
      go_ret
      exact ⟨_, xs, q, rfl, HS.out, H5.out, by rw [← HB0.out]; exact HM2.out.own, by omega, HM2.out.rd, HM2.out.grew⟩

set_option maxRecDepth 100000 in
set_option maxHeartbeats 6400000 in
theorem someShape_any (N g p : Nat) (w : World) (h : Rd N w g p) (hp : p ≤ 900000) :
    Calls Try.prog 87 #[.pointer (some ⟨g, 0, none⟩)] w (RetIntsR N g p 5 8 w) := by
  have hlt := h.lt
  go_enter Try.func87, Try.ntmps87
  go_wp2_with fail
  refine (goodShape_any N g p _ h hp).mono ?_; rintro e w1 ⟨u, xs, q, rfl, hs, -, hO, hq, hR, hG⟩
  have hl4 := (shape_ext hs).1
  have HM1 := hid (show DMid N g w w.heap.size w1 q u xs from ⟨⟨hlt.2, Nat.le_refl _⟩, hR, hG, hO, hG.size⟩)
  clear hs hO hR hG h
  obtain ⟨A, c, e⟩ := HM1.out.own.form
  subst e
  have HL := hid hl4
  obtain ⟨b0, hb0⟩ : ∃ b, b = w.heap.size := ⟨_, rfl⟩
  rw [← hb0] at HM1
  have HG0 := hid (World.grownBy.refl w (some g))
  clear hl4 hb0
  go_wp2_with fail
  refine (pick_any _ _ (q) 24 _ HM1.out.rd (by omega) (by omega)).mono ?_; rintro e w2 ⟨r, rfl, hr, hR, hG⟩
  have HM2 := hid (HM1.out.ate hR hG)
  clear hR hG
  by_cases h0 : r = 0
  · have h0i : ((r : Int) == 0) = true := by simp [h0]
    clear h0
    have hL : Own (w2.alloc (.cells #[.int .i64 (-1), .int .i64 61, .int .i64 40] 3)) w2.heap.size (.slice (some ⟨w2.heap.size, 0, none⟩) 3 3) [-1, 61, 40] := own_lit w2 [-1, 61, 40] (by simp)
    have HA := hid (HM2.out.nx (below_alloc w2 (.cells #[.int .i64 (-1), .int .i64 61, .int .i64 40] 3)))
    have HE := hid (HM2.out.rd.lit 3 3)
    go_wp2_with fail
    refine (one_any _ _ (q + 1) _ _ _ _ HA.out.rd (by omega) hL (by simp) HE.out).mono ?_; rintro e w3 ⟨r, hr, rfl, hR, hG⟩
    have HM3 := hid (HA.out.ate hR hG)
    obtain ⟨y, ey, hy⟩ : ∃ y : Int, [-1, 61, 40][r] = y ∧ y ∈ ([-1, 61, 40] : List Int) := ⟨_, rfl, List.getElem_mem hr⟩
    rw [ey]
    clear hR hG ey hr hL HA HE
    have HL1 := hid (show xs.length ≤ 1000000000000 by have := HL.out; omega)
    go_wp2_with (at_builtin; refine app1 _ rfl _ _ rfl b0 _ xs rfl (HM3.out.own.alloc _) ⟨w3.heap.size, 0, none⟩ 1 y rfl (cell_new1 _ _ _) HL1.out (le_alloc HM3.out.sz _) ?_)
    intro v1 w9 ho9 hg9 hat9
    have HM9 := hid ((HM3.out.nx (below_alloc w3 (.cells #[.int .i64 y] 3))).row ho9 hg9)
    clear hg9 hat9 ho9
    go_wp2
    go_ret
    exact HM9.out.ret HG0.out HM9.out.own.ints (fun k e => (HM9.out.own.lt k e).1) (by have := HL.out; simp; omega) (by omega)
  · have h0i : ((r : Int) == 0) = false := by simp; omega
    by_cases h1 : r = 1
    · have h1i : ((r : Int) == 1) = true := by simp [h1]
      clear h0 h1
      have HL5 := hid (own_lit w2 [1, 1, 1, 1, 1] (by simp))
      have HM5 := hid (HM2.out.nx (below_alloc w2 (.cells #[.int .i64 1, .int .i64 1, .int .i64 1, .int .i64 1, .int .i64 1] 3)))
      have hsz := HM2.out.sz
      go_wp2
      go_ret
      exact HM5.out.ret HG0.out HL5.out.ints (fun k e => by have := (HL5.out.lt k e).1; omega) (by simp) (by omega)
    · have h1i : ((r : Int) == 1) = false := by simp; omega
      clear h0 h1
      go_wp2
      go_ret
      exact HM2.out.ret HG0.out HM2.out.own.ints (fun k e => (HM2.out.own.lt k e).1) (by have := HL.out; omega) (by omega)

end Go.Proofs.Ytldblcolnjkcaaa

/-! ## ST1 -/
namespace Go.Proofs.Ytldblcolnjkcaaa
open Go.RowKit

set_option maxRecDepth 100000 in
set_option maxHeartbeats 6400000 in
theorem tensorFor_any (N g p : Nat) (v : Value) (ss : List Int) (w : World) (h : Rd N w g p) (hp : p ≤ 900000) (hv : IntsN g w v ss) (hs : isShapeL ss = true) :
    Calls Try.prog 166 #[.pointer (some ⟨g, 0, none⟩), v] w (RetTensorR N g p 60 60 w) := by
  have HS := hid hs
  have hl4 := (shape_ext hs).1
  have hsp := shape_prod hs
  have H1 := hid ((Hr.start h).op ((Hr.start h).hp.alloc 75 #[.slice none 0 0, .slice none 0 0]))
  have hv1 := hv.1.ext (below_alloc w (.cells #[.slice none 0 0, .slice none 0 0] 75))
  obtain ⟨A, c, e⟩ := hv.1.form
  subst e
  go_enter Try.func166, Try.ntmps166
  go_upto_region 1 with fail
  generalize (w.alloc (.cells #[.slice none 0 0, .slice none 0 0] 75)) = w1 at *
  go_wp2_with fail
  refine (copyInts_any _ ss _ hv1 (by omega)).mono ?_; rintro e w2 ⟨v1, rfl, ho, hb⟩
  obtain ⟨A1, c1, eu⟩ := ho.form
  subst eu
  have H2 := hid (H1.out.op (H1.out.hp.row ho hb))
  have H3 := hid (H2.out.op (H2.out.hp.alloc 75 #[.slice A1 ss.length c1, .slice none 0 0]))
  have hv3 := (hv1.nx hb).ext (below_alloc w2 (.cells #[.slice A1 ss.length c1, .slice none 0 0] 75))
  have H4 := hid (H3.out.op (H3.out.hp.row (Own.nil _ _) (Below.refl _ _)))
  simp only [List.nil_append, List.cons_append] at H4
  clear ho hb H1 H2 H3 hs hv hv1
  go_upto_region 2 with fail
  generalize (w2.alloc (.cells #[.slice A1 ss.length c1, .slice none 0 0] 75)) = w3 at *
  generalize w2.heap.size = b at *
  go_wp2_with fail
  refine (count_any _ ss _ hv3).mono ?_; rintro e w' ⟨rfl, rfl⟩
  rw [hsp.1]
  obtain ⟨n, hn, hn60⟩ : ∃ n : Nat, prodI ss = (n : Int) ∧ n ≤ 60 := ⟨(prodI ss).toNat, by omega, by omega⟩
  rw [hn]
  clear hsp hn hv3
  go_wp2_with fail
  go_loopg [6] n (fun m i wr => ∃ (j q : Nat) (u : Value) (xs : List Int), m = j ∧ i = .int .i64 j ∧ q + j ≤ p + 60 ∧ xs.length + j ≤ 60 ∧
    Hr N g q w wr [.blk w.heap.size 75 #[.slice none 0 0, .slice none 0 0], .ints (.slice A1 ss.length c1) ss, .blk b 75 #[.slice A1 ss.length c1, u], .ints u xs])
  case atStart => exact ⟨n, p, _, [], rfl, rfl, by omega, by simp; omega, H4.out⟩
  case round =>
    obtain ⟨j, q, u, xs, hm, rfl, hq, hxl, HH⟩ := hrel
    have HM := hid hm
    have H := hid HH
    clear hm HH H4
    obtain ⟨A2, c2, e2⟩ := (H.out.ints 3 rfl).form
    subst e2
    obtain ⟨⟨z0, z1⟩, y0, y1⟩ := (H.out.blk 2 rfl).all2
    by_cases hj : 0 < j
    · have hji : (0 : Int) < (j : Int) := by omega
      have HL := hid (show xs.length ≤ 1000000000000 by omega)
      have HX := hid hxl
      have hw : IntKind.i64.wrap ((j : Int) - 1) = (j : Int) - 1 := IntWalk.i64_in _ (by omega)
      have hqb : q ≤ 1000000 := by omega
      have HR0 := hid (H.out.rd.nx (below_drew wr))
      have HM0 := hid (H.out.nx (below_drew wr))
      clear hxl
      go_upto_region 5 with fail
      go_region_law (first
        | (rw [if_pos (wanted_of (by rfl))]; go_simp; go_at_call 89; refine (pick_any N g q 19 _ HM0.out.rd hqb (by omega)).mono ?_; rintro e w5 ⟨r, rfl, hr, hR5, hG5⟩
           have hw9 : IntKind.i64.wrap ((r : Int) - 9) = (r : Int) - 9 := IntWalk.i64_in _ (by omega)
           have H5 := hid (HM0.out.ate hR5 hG5)
           have H5l := hid (H5.out.nx (below_alloc w5 (.cells #[.int .i64 ((r : Int) - 9)] 3)))
           obtain ⟨⟨p0, p1⟩, -⟩ := (H5.out.blk 2 rfl).all2
           obtain ⟨⟨pp0, pp1⟩, -⟩ := (H5l.out.blk 2 rfl).all2
           clear hR5 hG5
           go_simp)
        | (refine step1 _ (by rfl) _ _ (by rfl) w.heap.size _ xs (by rfl) (H5l.out.ints 3 rfl) ⟨w5.heap.size, 0, none⟩ 1 ((r : Int) - 9) (by rfl) (cell_new1 _ _ _) HL.out H5l.out.sz ?_; intro s6 w6 ho6 hg6 hat6
           have H6 := hid (H5l.out.op (H5l.out.hp.grown 3 rfl ho6 hg6 hat6))
           obtain ⟨⟨v0, v1⟩, vf0, vf1⟩ := (H6.out.blk 2 rfl).all2
           obtain ⟨A6, c6, e6⟩ := ho6.form
           rw [List.length_append, List.length_singleton] at e6
           subst e6
           clear ho6 hg6 hat6))
      all_goals
        have H7 := hid (H6.out.op (H6.out.hp.store 2 rfl 1 (.slice A6 (xs.length + 1) c6)))
        have HLA := hid (show (xs ++ [(r : Int) - 9]).length = xs.length + 1 by simp)
        simp only [List.set_cons_succ, List.set_cons_zero, List.setIfInBounds_toArray] at H7
        go_wp2
        go_roundg (j - 1)
        case measure => have := HM.out; omega
        case rel => exact ⟨j - 1, q + 1, _, _, rfl, by congr 1; omega, by omega, by have := HLA.out; have := HX.out; omega, H7.out⟩
    · have hj0 : ¬ (0 : Int) < (j : Int) := by omega
      obtain ⟨⟨r0, r1⟩, s0, s1⟩ := (H.out.blk 0 rfl).all2
      have HF := hid (H.out.op (H.out.hp.store2 0 rfl (.slice A1 ss.length c1) (.slice A2 xs.length c2)))
      have HX := hid hxl
      clear hxl
      have HQ := hid (show q ≤ p + 60 by omega)
      go_wp2
      refine bodyPost_ret (v := .agg #[.slice A1 ss.length c1, .slice A2 xs.length c2]) (by simp [results, Try.results166, go_sem, r0, r1]) rfl ?_
      exact ⟨_, _, ⟨ss, xs⟩, q, rfl, (by show ss.length ≤ 60; omega), (by have := HX.out; show xs.length ≤ 60; omega), HF.out.ints 1 rfl, HF.out.ints 3 rfl, HF.out.hp.apart 1 3 rfl rfl (by omega), HQ.out, HF.out.rd, HF.out.grew⟩

end Go.Proofs.Ytldblcolnjkcaaa

/-! ## ST2 -/
namespace Go.Proofs.Ytldblcolnjkcaaa
open Go.RowKit

set_option maxRecDepth 100000 in
set_option maxHeartbeats 6400000 in
theorem someTensor_any (N g p : Nat) (w : World) (h : Rd N w g p) (hp : p ≤ 800000) :
    Calls Try.prog 143 #[.pointer (some ⟨g, 0, none⟩)] w (RetTensorR N g p 61 66 w) := by
  have H1 := hid ((Hr.start h).op ((Hr.start h).hp.alloc 75 #[.slice none 0 0, .slice none 0 0]))
  go_enter Try.func143, Try.ntmps143
  go_upto_region 1 with fail
  generalize (w.alloc (.cells #[.slice none 0 0, .slice none 0 0] 75)) = w1 at *
  go_wp2_with fail
  refine (goodShape_any N g p _ H1.out.rd (by omega)).mono ?_; rintro e w2 ⟨u, xs, q, rfl, hs, -, hO, hq, hR, hG⟩
  have H2 := hid (H1.out.ate hR hG)
  have hN := IntsN.of_own hO (show g < w1.heap.size by have := H1.out.rd.lt; omega)
  obtain ⟨A0, c0, eu⟩ := hO.form
  subst eu
  have HS := hid hs
  clear hR hG hO hs H1
  go_wp2_with fail
  refine (tensorFor_any N g q _ xs _ H2.out.rd (by omega) hN HS.out).mono ?_; rintro e w3 ⟨sv, tv, T, q3, rfl, hl1, hl2, hO1, hO2, hsp, hq3, hR, hG⟩
  obtain ⟨A1, c1, eu⟩ := hO1.form
  subst eu
  obtain ⟨A2, c2, eu⟩ := hO2.form
  subst eu
  have H3 := hid (show Hr N g q3 w w3 [.blk w.heap.size 75 #[.slice none 0 0, .slice none 0 0], .ints (.slice A1 T.shape.length c1) T.shape, .ints (.slice A2 T.values.length c2) T.values] from ⟨⟨Below.refl _ _, Nat.le_trans H2.out.sz hG.size, fun i hi => by
      simp only [List.mem_cons, List.not_mem_nil, or_false] at hi
      rcases hi with rfl | rfl | rfl
      · exact ((H2.out.ate hR hG).hp.ok _ (by simp))
      · exact hO1.mono H2.out.sz
      · exact hO2.mono H2.out.sz,
    .cons (fun i hi => by
      simp only [List.mem_cons, List.not_mem_nil, or_false] at hi
      have hz := (H2.out.blk 0 rfl).lt
      rcases hi with rfl | rfl
      · exact fun k h1 h2 => by have h1 : k = _ := h1; have := (hO1.lt k h2).1; omega
      · exact fun k h1 h2 => by have h1 : k = _ := h1; have := (hO2.lt k h2).1; omega) (List.pairwise_pair.2 fun k h1 h2 => hsp k h1 h2)⟩, H2.out.lt, hR, H2.out.grew.trans hG⟩)
  have HL := hid (And.intro hl1 hl2)
  have HQ := hid (And.intro hq hq3)
  have hqb : q3 ≤ 900000 := by omega
  clear hR hG hO1 hO2 hsp hN H2 hl1 hl2 hq hq3 HS
  have H4 := hid (H3.out.op (H3.out.hp.alloc 75 #[.slice A1 T.shape.length c1, .slice A2 T.values.length c2]))
  simp only [List.nil_append, List.cons_append] at H4
  clear H3
  go_upto_region 2 with fail
  generalize (w3.alloc (.cells #[.slice A1 T.shape.length c1, .slice A2 T.values.length c2] 75)) = w4 at *
  generalize w3.heap.size = b at *
  have HM4 := H4
  clear H4
  go_wp2_with fail
  refine (pick_any _ _ (q3) 24 _ HM4.out.rd (by omega) (by omega)).mono ?_; rintro e w5 ⟨r, rfl, hr, hR, hG⟩
  have HM5 := hid (HM4.out.ate hR hG)
  clear hR hG
  obtain ⟨⟨r0, r1⟩, s0, s1⟩ := (HM5.out.blk 0 rfl).all2
  obtain ⟨⟨z0, z1⟩, y0, y1⟩ := (HM5.out.blk 3 rfl).all2
  have HL1 := hid (show T.shape.length ≤ 1000000000000 by have := HL.out; omega)
  have HL2 := hid (show T.values.length ≤ 1000000000000 by have := HL.out; omega)
  clear HM4
  by_cases h0 : r = 0
  · have h0i : ((r : Int) == 0) = true := by simp [h0]
    clear h0
    have H6 := hid (HM5.out.nx (below_alloc w5 (.cells #[.int .i64 1] 3)))
    obtain ⟨⟨zz0, zz1⟩, -⟩ := (H6.out.blk 3 rfl).all2
    go_wp2_with (at_builtin; refine app1 _ rfl _ _ rfl w.heap.size _ T.values rfl (H6.out.ints 2 rfl) ⟨w5.heap.size, 0, none⟩ 1 1 rfl (cell_new1 _ _ _) HL2.out H6.out.sz ?_)
    intro v1 w9 ho9 hg9 hat9
    rw [← World.size_alloc w5 (.cells #[.int .i64 1] 3)] at hat9
    have H7 := hid (H6.out.op (H6.out.hp.grown 2 rfl ho9 hg9 hat9))
    simp only [List.set_cons_succ, List.set_cons_zero] at H7
    obtain ⟨Av, cv, ev⟩ := ho9.form
    rw [List.length_append, List.length_singleton] at ev
    subst ev
    obtain ⟨⟨x0, x1⟩, t0, t1⟩ := (H7.out.blk 3 rfl).all2
    have H8 := hid (H7.out.op (H7.out.hp.store 3 rfl 1 (.slice Av (T.values.length + 1) cv)))
    simp only [List.set_cons_succ, List.set_cons_zero, List.setIfInBounds_toArray] at H8
    obtain ⟨⟨r0', r1'⟩, s0', s1'⟩ := (H8.out.blk 0 rfl).all2
    obtain ⟨⟨k0, k1⟩, l0, l1⟩ := (H8.out.blk 3 rfl).all2
    have HF := hid (H8.out.op (H8.out.hp.store2 0 rfl (.slice A1 T.shape.length c1) (.slice Av (T.values.length + 1) cv)))
    have HLA := hid (show (T.values ++ [1]).length ≤ 61 by have := HL.out; simp; omega)
    clear ho9 hg9 hat9 r0 r1 s0 s1 z0 z1 y0 y1 zz0 zz1
    go_wp2
    refine bodyPost_ret (v := .agg #[.slice A1 T.shape.length c1, .slice Av (T.values.length + 1) cv]) (by simp [results, Try.results143, go_sem, r0', r1']) rfl ?_
    exact ⟨_, _, ⟨T.shape, T.values ++ [1]⟩, q3 + 1, rfl, (by have := HL.out; show T.shape.length ≤ 61; omega), HLA.out, HF.out.ints 1 rfl, HF.out.ints 2 rfl, HF.out.hp.apart 1 2 rfl rfl (by omega), by have := HQ.out; omega, HF.out.rd, HF.out.grew⟩
  · have h0i : ((r : Int) == 0) = false := by simp; omega
    by_cases h1 : r = 1
    · have h1i : ((r : Int) == 1) = true := by simp [h1]
      clear h0 h1
      have HS4 := hid (show True from trivial)
      have H6 := hid (HM5.out.nx (below_alloc w5 (.cells #[.int .i64 (-1)] 3)))
      obtain ⟨⟨zz0, zz1⟩, -⟩ := (H6.out.blk 3 rfl).all2
      go_wp2_with (at_builtin; refine app1 _ rfl _ _ rfl w.heap.size _ T.shape rfl (H6.out.ints 1 rfl) ⟨w5.heap.size, 0, none⟩ 1 (-1) rfl (cell_new1 _ _ _) HL1.out H6.out.sz ?_)
      intro v1 w9 ho9 hg9 hat9
      rw [← World.size_alloc w5 (.cells #[.int .i64 (-1)] 3)] at hat9
      have H7 := hid (H6.out.op (H6.out.hp.grown 1 rfl ho9 hg9 hat9))
      simp only [List.set_cons_succ, List.set_cons_zero] at H7
      obtain ⟨Av, cv, ev⟩ := ho9.form
      rw [List.length_append, List.length_singleton] at ev
      subst ev
      obtain ⟨⟨x0, x1⟩, t0, t1⟩ := (H7.out.blk 3 rfl).all2
      have H8 := hid (H7.out.op (H7.out.hp.store 3 rfl 0 (.slice Av (T.shape.length + 1) cv)))
      simp only [List.set_cons_succ, List.set_cons_zero, List.setIfInBounds_toArray] at H8
      obtain ⟨⟨r0', r1'⟩, s0', s1'⟩ := (H8.out.blk 0 rfl).all2
      obtain ⟨⟨k0, k1⟩, l0, l1⟩ := (H8.out.blk 3 rfl).all2
      have HF := hid (H8.out.op (H8.out.hp.store2 0 rfl (.slice Av (T.shape.length + 1) cv) (.slice A2 T.values.length c2)))
      have HLA := hid (show (T.shape ++ [-1]).length ≤ 61 by have := HL.out; simp; omega)
      clear ho9 hg9 hat9 r0 r1 s0 s1 z0 z1 y0 y1 zz0 zz1
      go_wp2
      refine bodyPost_ret (v := .agg #[.slice Av (T.shape.length + 1) cv, .slice A2 T.values.length c2]) (by simp [results, Try.results143, go_sem, r0', r1']) rfl ?_
      exact ⟨_, _, ⟨T.shape ++ [-1], T.values⟩, q3 + 1, rfl, HLA.out, by have := HL.out; show T.values.length ≤ 61; omega, HF.out.ints 1 rfl, HF.out.ints 2 rfl, HF.out.hp.apart 1 2 rfl rfl (by omega), by have := HQ.out; omega, HF.out.rd, HF.out.grew⟩
    · have h1i : ((r : Int) == 1) = false := by simp; omega
      clear h0 h1
      have HF := hid (HM5.out.op (HM5.out.hp.store2 0 rfl (.slice A1 T.shape.length c1) (.slice A2 T.values.length c2)))
      go_wp2
      refine bodyPost_ret (v := .agg #[.slice A1 T.shape.length c1, .slice A2 T.values.length c2]) (by simp [results, Try.results143, go_sem, r0, r1]) rfl ?_
      exact ⟨_, _, T, q3 + 1, rfl, by have := HL.out; omega, by have := HL.out; omega, HF.out.ints 1 rfl, HF.out.ints 2 rfl, HF.out.hp.apart 1 2 rfl rfl (by omega), by have := HQ.out; omega, HF.out.rd, HF.out.grew⟩

end Go.Proofs.Ytldblcolnjkcaaa

/-! ## SD1 -/
namespace Go.Proofs.Ytldblcolnjkcaaa
open Go.RowKit

set_option maxHeartbeats 800000 in
theorem sUpTo_any (n : Nat) (w : World) (hn : n ≤ 1000000) :
    Calls Try.prog 147 #[.int .i64 n] w (RetOwn w (upI n)) := by
  go_enter Try.func147, Try.ntmps147
  go_wp2
  go_loopw [3, 4] (fun out i wr => ∃ (k : Nat), k ≤ n ∧ i = .int .i64 k ∧ Own wr w.heap.size out (upI k) ∧ Below w.heap.size w wr) (fun _ i _ => n - (intOf i).toNat)
  case atStart => exact ⟨0, Nat.zero_le _, rfl, Own.empty w rfl (Nat.le_refl _), below_alloc w _⟩
  case round =>
    obtain ⟨k, hk, rfl, hown, hb⟩ := hrel
    by_cases hlt : k < n
    · have HT := hid (upI_succ k)
      have HL1 := hid (show (upI k).length ≤ 1000000000000 by rw [upI_length]; omega)
      have hsz : w.heap.size ≤ wr.heap.size := hb.size
      go_wp2_with (at_builtin; refine app1 _ rfl _ _ rfl w.heap.size _ (upI k) rfl (hown.alloc _) ⟨wr.heap.size, 0, none⟩ 1 (k : Int) rfl (cell_new1 _ _ _) HL1.out (le_alloc hsz _) ?_)
      intro v1 w1 ho1 hg1 hat1
      have hq := hb.trans (((below_alloc wr (.cells #[.int .i64 (k : Int)] 3)).mono hsz).trans ((hown.alloc _).under hg1 (le_alloc hsz _)))
      go_wp2
      go_roundw
      case rel => exact ⟨k + 1, by omega, by go_num, by rw [HT.out]; exact ho1, hq⟩
      case measure => simp [intOf]; omega
    · have HE := hid (show k = n by omega)
      go_wp2
      go_ret
      exact ⟨_, rfl, by rw [← HE.out]; exact hown, hb⟩

set_option maxHeartbeats 400000 in
theorem unrank5_any (v : Value) (shape : List Int) (r : Int) (w : World) (h : Ints w v shape) (hpos : ∀ x ∈ shape, 1 ≤ x ∧ x ≤ 60) (hl : shape.length ≤ 5) (hr0 : 0 ≤ r) (hr1 : r ≤ 100) :
    Calls Try.prog 160 #[v, .int .i64 r] w (RetOwn w (unr shape r)) := by
  have HP := hid hpos; clear hpos
  obtain ⟨A, c, rfl, h1, h2, h3⟩ := h
  unfold maxLen at h2
  go_enter Try.func160, Try.ntmps160
  go_wp2_with (at_make; refine mk0 _ rfl _ _ rfl shape.length rfl rfl (by omega) ?_)
  intro w0 hown0 hb0
  go_wp2
  go_loopw [1, 6] (fun q i wr => ∃ (j : Nat) (qi : Int) (xs : List Int), j ≤ shape.length ∧ i = .int .i64 ((j : Int) - 1) ∧ q = .int .i64 qi ∧ IdxRel shape r j qi xs ∧
      Own wr w.heap.size (.slice (some ⟨w.heap.size, 0, none⟩) shape.length shape.length) xs ∧ Below w.heap.size w wr) (fun _ i _ => (intOf i + 1).toNat)
  case atStart => exact ⟨shape.length, r, _, Nat.le_refl _, rfl, rfl, IdxRel.start shape r, hown0, hb0⟩
  case round =>
    obtain ⟨j, qi, xs, hj, rfl, rfl, hrl, hown, hb⟩ := hrel
    have hq := hrl.q_bd hr0 HP.out
    obtain ⟨hq0, hq1⟩ := hq
    have HR := hid hrl; clear hrl
    rcases Nat.eq_zero_or_pos j with h0 | h0
    · subst h0
      go_wp2
      go_ret
      refine ⟨_, rfl, ?_, hb⟩
      rw [← HR.out.end_]
      exact hown
    · obtain ⟨m, rfl⟩ : ∃ m, j = m + 1 := ⟨j - 1, by omega⟩
      have hm : m < shape.length := by omega
      have HS := hid (HR.out.step hm HP.out)
      have hs0 := (HP.out shape[m] (List.getElem_mem hm)).1
      have hs1 := (HP.out shape[m] (List.getElem_mem hm)).2
      obtain ⟨b, off, rfl, hlt, hc⟩ := h3 (by omega)
      have hx := (hb.cell (p := ⟨b, off + m, none⟩) hlt).trans (hc m shape[m] (by simp [hm]))
      have hxl : m < xs.length := by have := HR.out.1; omega
      have hy := hown.cell m hxl
      have hf := hown.free m
      have hne : b ≠ w.heap.size := by omega
      have HO := hid (hown.put m (qi % shape[m]))
      have HB := hid (hb.setCell (p := ⟨w.heap.size, m, none⟩) (Nat.le_refl _) (.int .i64 (qi % shape[m])))
      clear hc h3 hown hb
      go_wp2
      go_roundw
      case rel => exact ⟨m, _, _, by omega, rfl, rfl, HS.out, HO.out, HB.out⟩
      case measure => simp [intOf]


set_option maxRecDepth 100000 in
set_option maxHeartbeats 6400000 in
theorem picked_any (v vi : Value) (xs ix : List Int) (w : World) (h : Ints w v xs) (hi : Ints w vi ix) (hr : ∀ i ∈ ix, 0 ≤ i ∧ i < xs.length) (hl : ix.length ≤ 1000) :
    Calls Try.prog 167 #[v, vi] w (RetOwn w (takenL xs ix)) := by
  obtain ⟨A, c, rfl, -⟩ := h.form
  obtain ⟨A', c', rfl, -⟩ := hi.form
  have HR := hid hr
  clear hr
  go_enter Try.func167, Try.ntmps167
  have HE := hid (Own.empty w (B := w.heap.size) rfl (Nat.le_refl _))
  have HB0 := hid (below_alloc w (.cells #[] 3))
  go_wp2
  go_loopg [5, 6] ix.length (fun m out i wr => ∃ k : Nat, k ≤ ix.length ∧ m = ix.length - k ∧ i = .int .i64 k ∧ Own wr w.heap.size out (takenL xs (ix.take k)) ∧ Below w.heap.size w wr)
  case atStart => exact ⟨0, Nat.zero_le _, rfl, rfl, HE.out, HB0.out⟩
  case round =>
    obtain ⟨k, hk, rfl, rfl, hown, hb⟩ := hrel
    have HO := hid hown
    have HB := hid hb
    have hsz := hb.size
    clear HE HB0
    by_cases hlt : k < ix.length
    · have hki : (k : Int) < (ix.length : Int) := by omega
      have hin := HR.out _ (List.getElem_mem hlt)
      obtain ⟨b1, o1, rfl, x0⟩ := (hi.ext hb).elem k hlt
      obtain ⟨j, hj⟩ : ∃ j : Nat, ix[k] = (j : Int) := ⟨(ix[k]).toNat, by omega⟩
      have HT := hid (takenL_snoc xs ix k hlt)
      rw [hj] at x0 hin HT
      have hjn : j < xs.length := by omega
      obtain ⟨b2, o2, rfl, y0⟩ := (h.ext hb).elem j hjn
      have hjl : (j : Int) < (xs.length : Int) := by omega
      have hj0 : (0 : Int) ≤ (j : Int) := by omega
      obtain ⟨X, eX⟩ : ∃ X, xs[j] = X := ⟨_, rfl⟩
      have HTX := hid (show takenL xs (ix.take (k + 1)) = takenL xs (ix.take k) ++ [X] by rw [HT.out]; simp [hjn, eX])
      rw [eX] at y0
      have HL1 := hid (show (takenL xs (ix.take k)).length ≤ 1000000000000 by simp [takenL]; omega)
      have hw : IntKind.i64.wrap ((k : Int) + 1) = (k : Int) + 1 := IntWalk.i64_in _ (by omega)
      obtain ⟨A9, c9, e9⟩ := hown.form
      clear hj eX hin HT hb hown
      subst e9
      go_wp2_with (at_builtin; refine app1 _ rfl _ _ rfl w.heap.size _ (takenL xs (ix.take k)) rfl (HO.out.alloc _) ⟨wr.heap.size, 0, none⟩ 1 X rfl (cell_new1 _ _ _) HL1.out (le_alloc hsz _) ?_)
      intro v1 w1 ho1 hg1 hat1
      have hq := HB.out.trans (((below_alloc wr (.cells #[.int .i64 X] 3)).mono hsz).trans ((HO.out.alloc _).under hg1 (le_alloc hsz _)))
      clear hg1 hat1
      go_wp2
      go_roundg (ix.length - (k + 1))
      case measure => omega
      case rel => exact ⟨k + 1, by omega, rfl, by congr 1, by rw [HTX.out]; exact ho1, hq⟩
    · have hki : ¬ (k : Int) < (ix.length : Int) := by omega
      have HQ := hid (show takenL xs (ix.take k) = takenL xs ix by rw [List.take_of_length_le (by omega)])
      clear hown hb
      go_wp2
      go_ret
      exact ⟨_, rfl, by rw [← HQ.out]; exact HO.out, HB.out⟩

/-- What the space of extents is. -/
def RetSpace (w : World) (xs : List Int) (e : Ending) (w' : World) : Prop := ∃ r, e = .returned (.tuple #[r, .int .i64 (prodW (spX xs))]) ∧ Own w' w.heap.size r (spX xs) ∧ Below w.heap.size w w'
theorem spX_snoc (xs : List Int) (k : Nat) (h : k < xs.length) : spX (xs.take (k + 1)) = spX (xs.take k) ++ [if xs[k] < 0 then 1 else xs[k]] := by
  rw [take_snocI _ k h, spX, List.map_append]; rfl
set_option maxRecDepth 100000 in
set_option maxHeartbeats 6400000 in
theorem space_any (v : Value) (xs : List Int) (w : World) (h : Ints w v xs) (hl : xs.length ≤ 1000) : Calls Try.prog 179 #[v] w (RetSpace w xs) := by
  obtain ⟨A, c, rfl, -⟩ := h.form
  go_enter Try.func179, Try.ntmps179
  have HE := hid (Own.empty w (B := w.heap.size) rfl (Nat.le_refl _))
  have HB0 := hid (below_alloc w (.cells #[] 3))
  go_wp2
  go_loopg [4, 5, 6, 7] xs.length (fun m out p i t wr => ∃ k : Nat, k ≤ xs.length ∧ m = xs.length - k ∧ i = .int .i64 k ∧ p = .int .i64 (prodW (spX (xs.take k))) ∧ Own wr w.heap.size out (spX (xs.take k)) ∧ Below w.heap.size w wr)
  case atStart => exact ⟨0, Nat.zero_le _, rfl, rfl, rfl, HE.out, HB0.out⟩
  case round =>
    obtain ⟨k, hk, rfl, rfl, rfl, hown, hb⟩ := hrel
    have HO := hid hown
    have HB := hid hb
    have hsz := hb.size
    clear HE HB0
    by_cases hlt : k < xs.length
    · have hki : (k : Int) < (xs.length : Int) := by omega
      obtain ⟨b1, o1, rfl, x0⟩ := (h.ext hb).elem k hlt
      have HS := hid (spX_snoc xs k hlt)
      have HL1 := hid (show (spX (xs.take k)).length ≤ 1000000000000 by simp [spX]; omega)
      have hw : IntKind.i64.wrap ((k : Int) + 1) = (k : Int) + 1 := IntWalk.i64_in _ (by omega)
      obtain ⟨A9, c9, e9⟩ := hown.form
      obtain ⟨X, eX⟩ : ∃ X, xs[k] = X := ⟨_, rfl⟩
      rw [eX] at x0 HS
      clear hb hown eX
      subst e9
      by_cases hneg : X < 0
      · rw [if_pos hneg] at HS
        have HPS := hid (show prodW (spX (xs.take (k + 1))) = wrap64 (prodW (spX (xs.take k)) * 1) by rw [HS.out, prodW_snoc])
        go_wp2_with (at_builtin; refine app1 _ rfl _ _ rfl w.heap.size _ (spX (xs.take k)) rfl (HO.out.alloc _) ⟨wr.heap.size, 0, none⟩ 1 1 rfl (cell_new1 _ _ _) HL1.out (le_alloc hsz _) ?_)
        intro v1 w1 ho1 hg1 hat1
        have hq := HB.out.trans (((below_alloc wr (.cells #[.int .i64 1] 3)).mono hsz).trans ((HO.out.alloc _).under hg1 (le_alloc hsz _)))
        clear hg1 hat1
        go_wp2
        go_roundg (xs.length - (k + 1))
        case measure => omega
        case rel => exact ⟨k + 1, by omega, rfl, by congr 1, by rw [HPS.out, Int.mul_one], by rw [HS.out]; exact ho1, hq⟩
      · rw [if_neg hneg] at HS
        have HPS := hid (show prodW (spX (xs.take (k + 1))) = wrap64 (prodW (spX (xs.take k)) * X) by rw [HS.out, prodW_snoc])
        go_wp2_with (at_builtin; refine app1 _ rfl _ _ rfl w.heap.size _ (spX (xs.take k)) rfl (HO.out.alloc _) ⟨wr.heap.size, 0, none⟩ 1 X rfl (cell_new1 _ _ _) HL1.out (le_alloc hsz _) ?_)
        intro v1 w1 ho1 hg1 hat1
        have hq := HB.out.trans (((below_alloc wr (.cells #[.int .i64 X] 3)).mono hsz).trans ((HO.out.alloc _).under hg1 (le_alloc hsz _)))
        clear hg1 hat1
        go_wp2
        go_roundg (xs.length - (k + 1))
        case measure => omega
        case rel => exact ⟨k + 1, by omega, rfl, by congr 1, by rw [HPS.out], by rw [HS.out]; exact ho1, hq⟩
    · have hki : ¬ (k : Int) < (xs.length : Int) := by omega
      have HQ := hid (show spX (xs.take k) = spX xs by rw [List.take_of_length_le (by omega)])
      clear hown hb
      go_wp2
      refine bodyPost_ret (v := .tuple #[u4, .int .i64 (prodW (spX (xs.take k)))]) (by simp [results, Try.results179, go_sem]) rfl ?_
      exact ⟨_, by rw [HQ.out], by rw [← HQ.out]; exact HO.out, HB.out⟩

set_option maxRecDepth 100000 in
set_option maxHeartbeats 6400000 in
theorem goodOut_any (vo ve : Value) (out E : List Int) (w : World) (ho : Ints w vo out) (he : Ints w ve E) (h1 : out.all (inR · 0 4) = true) (h2 : diffL out = true) (h3 : (takenL E out).all (inR · 0 60) = true) (h4 : E.length = 5) (hl : out.length ≤ 1000) :
    Calls Try.prog 178 #[vo, ve] w fun e w' => e = .returned (.bool (isShapeL (takenL E out))) ∧ Below w.heap.size w w' := by
  have HR := hid (show ∀ i ∈ out, 0 ≤ i ∧ i < (E.length : Int) from fun i hi => by
    have := List.all_eq_true.1 h1 i hi
    rw [inR_iff] at this
    omega)
  have H1 := hid h1
  have H2 := hid h2
  have H3 := hid h3
  clear h1 h2 h3 h4
  go_enter Try.func178, Try.ntmps178
  go_wp2_with fail
  refine (allIn_any _ out 0 4 _ ho).mono ?_; rintro e w' ⟨rfl, rfl⟩
  rw [H1.out]
  go_wp2_with fail
  refine (different_any _ out _ ho).mono ?_; rintro e w1 ⟨rfl, hb1⟩
  rw [H2.out]
  have ho1 := ho.ext hb1
  have he1 := he.ext hb1
  go_wp2_with fail
  refine (picked_any _ _ E out _ he1 ho1 HR.out hl).mono ?_; rintro e w2 ⟨r1, rfl, hr1, hb2⟩
  obtain ⟨A1, c1, rfl⟩ := hr1.form
  have hb12 := hb1.nx hb2 hb1.size
  go_wp2_with fail
  refine (allIn_any _ _ 0 60 _ hr1.ints).mono ?_; rintro e w' ⟨rfl, rfl⟩
  rw [H3.out]
  have ho2 := ho.ext hb12
  have he2 := he.ext hb12
  clear hr1 hb2 ho1 he1
  go_wp2_with fail
  refine (picked_any _ _ E out _ he2 ho2 HR.out hl).mono ?_; rintro e w3 ⟨r2, rfl, hr2, hb3⟩
  obtain ⟨A2, c2, rfl⟩ := hr2.form
  have hb13 := hb12.nx hb3 hb12.size
  go_wp2_with fail
  refine (validShape_any _ _ _ hr2.ints).mono ?_; rintro e w' ⟨rfl, rfl⟩
  go_wp2
  go_ret
  exact ⟨rfl, hb13⟩

end Go.Proofs.Ytldblcolnjkcaaa

/-! ## J1 -/
namespace Go.Proofs.Ytldblcolnjkcaaa
open Go.RowKit

theorem loS_set : ∀ (xs ys : List Int) (k : Nat) (t : Int) (h1 : k < xs.length) (h2 : k < ys.length),
    loS xs (ys.set k t) = loS xs ys - min 0 ((xs[k] - 1) * ys[k]) + min 0 ((xs[k] - 1) * t) ∧ hiS xs (ys.set k t) = hiS xs ys - max 0 ((xs[k] - 1) * ys[k]) + max 0 ((xs[k] - 1) * t)
  | [], _, _, _, h, _ => by simp at h
  | _ :: _, [], _, _, _, h => by simp at h
  | x :: xs, y :: ys, 0, t, _, _ => by simp only [List.set_cons_zero, List.getElem_cons_zero, loS, hiS]; omega
  | x :: xs, y :: ys, k + 1, t, h1, h2 => by
    have := loS_set xs ys k t (by simpa using h1) (by simpa using h2)
    simp only [List.set_cons_succ, List.getElem_cons_succ, loS, hiS]; omega
theorem prodI_zero : ∀ {xs : List Int}, (0 : Int) ∈ xs → prodI xs = 0
  | [], h => by cases h
  | x :: xs, h => by
    rcases List.mem_cons.1 h with h | h
    · rw [prodI, ← h]; simp
    · rw [prodI, prodI_zero h]; simp
def diagS (V : VL) (a b : Nat) : Int := if V.shape.getD a 0 ≤ 1 then 0 else V.strides.getD a 0 + V.strides.getD b 0
def diagV (V : VL) (a b : Nat) : VL := ⟨V.base, V.shape.eraseIdx b, (V.strides.set a (diagS V a b)).eraseIdx b⟩
def okDiag (V : VL) (a b : Int) : Bool := hasDimL V a && hasDimL V b && !(a == b) && (V.shape.getD a.toNat 0 == V.shape.getD b.toNat 0)
def diagL (V : VL) (a b : Int) : VL := if okDiag V a b then tidyL (diagV V a.toNat b.toNat) else VL.zero
theorem diag_no {V : VL} {a b : Int} (h : okDiag V a b = false) : diagL V a b = VL.zero := by simp [diagL, h]
theorem diag_valid {V : VL} (h : isViewL V = true) {a b : Nat} (ha : a < V.shape.length) (hb : b < V.shape.length) (hne : a ≠ b) (he : V.shape[a] = V.shape[b]) : isViewL (tidyL (diagV V a b)) = true := by
  rw [valid_iff] at h
  obtain ⟨a1, a2, a3, a4, a5⟩ := h
  have hat : a < V.strides.length := by omega
  have hbt : b < V.strides.length := by omega
  obtain ⟨s1, s2, s3⟩ := shape_ext a1
  have sp := shape_prod a1
  have hp := prodI_erase V.shape b hb
  have q1 : (V.shape.eraseIdx b).length ≤ 4 := by rw [List.length_eraseIdx]; simp [hb]; omega
  have q2 : ∀ x ∈ V.shape.eraseIdx b, 0 ≤ x ∧ x ≤ 60 := fun x hx => s2 x (List.mem_of_mem_eraseIdx hx)
  have q3 := (prodW_eq q1 q2).2.1
  have hmem : V.shape[a] ∈ V.shape.eraseIdx b := List.mem_eraseIdx_iff_getElem.2 ⟨a, ha, hne, rfl⟩
  have hga : V.shape.getD a 0 = V.shape[a] := by simp [ha]
  have e1 := s2 _ (List.getElem_mem ha)
  have q4 : prodI (V.shape.eraseIdx b) ≤ 60 := by
    by_cases h0 : V.shape[a] = 0
    · rw [prodI_zero (h0 ▸ hmem)]; omega
    · have := Int.mul_le_mul_of_nonneg_left (show 1 ≤ V.shape[b] by omega) q3
      omega
  apply tidy_valid
  · exact isShapeL_of q1 q2 q4
  · simp only [diagV, List.length_eraseIdx, List.length_set, hb, hbt, if_true]; omega
  · intro hz
    have hz' : prodI (V.shape.eraseIdx b) ≠ 0 := hz
    have h0 : V.shape[a] ≠ 0 := fun h0 => hz' (prodI_zero (h0 ▸ hmem))
    have hne' : prodI V.shape ≠ 0 := by
      rw [hp]; exact Int.mul_ne_zero hz' (by omega)
    obtain ⟨b1, b2⟩ := a5.resolve_left hne'
    have hgs : V.strides.getD a 0 = V.strides[a] := by simp [hat]
    have hgt : V.strides.getD b 0 = V.strides[b] := by simp [hbt]
    obtain ⟨u, hu⟩ : ∃ u, u = diagS V a b := ⟨_, rfl⟩
    have hlen : b < (V.strides.set a u).length := by simpa using hbt
    obtain ⟨l1, l2⟩ := loS_erase V.shape (V.strides.set a u) b hb hlen
    obtain ⟨m1, m2⟩ := loS_set V.shape V.strides a u ha hat
    have hgb : (V.strides.set a u)[b] = V.strides[b] := by rw [List.getElem_set_ne hne]
    rw [hgb, ← he] at l1 l2
    obtain ⟨p, hp'⟩ : ∃ p, p = (V.shape[a] - 1) * V.strides[a] := ⟨_, rfl⟩
    obtain ⟨q, hq'⟩ : ∃ q, q = (V.shape[a] - 1) * V.strides[b] := ⟨_, rfl⟩
    obtain ⟨r, hr'⟩ : ∃ r, r = (V.shape[a] - 1) * u := ⟨_, rfl⟩
    rw [← hp', ← hr'] at m1 m2
    rw [← hq'] at l1 l2
    have z1 := loS_le (V.shape.eraseIdx b) ((V.strides.set a u).eraseIdx b)
    have z0 := loS_le V.shape V.strides
    have hr2 : min 0 p + min 0 q ≤ r ∧ r ≤ max 0 p + max 0 q ∧ (-60 ≤ u ∧ u ≤ 60) := by
      unfold diagS at hu
      rw [hga, hgs, hgt] at hu
      split at hu
      · subst hu; simp only [Int.mul_zero] at hr'; omega
      · rename_i h2
        have hpq : r = p + q := by rw [hr', hp', hq', hu, Int.mul_add]
        refine ⟨by omega, by omega, ?_⟩
        obtain ⟨l3, l4⟩ := loS_erase V.shape V.strides b hb hbt
        rw [← he, ← hq'] at l3 l4
        have l5 := loS_erase (V.shape.eraseIdx b) (V.strides.eraseIdx b)
        have key : -60 ≤ r ∧ r ≤ 60 := by
          have m3 := (loS_set V.shape V.strides a 0 ha hat)
          rw [← hp'] at m3
          simp only [Int.mul_zero] at m3
          have l6 := loS_erase V.shape (V.strides.set a 0) b hb (by simpa using hbt)
          rw [List.getElem_set_ne hne, ← he, ← hq'] at l6
          have z2 := loS_le (V.shape.eraseIdx b) ((V.strides.set a 0).eraseIdx b)
          omega
        constructor
        · rcases Int.lt_or_le u (-60) with hlt | hlt
          · have := Int.mul_le_mul_of_nonneg_left (show u ≤ -61 by omega) (show 0 ≤ V.shape[a] - 1 by omega)
            rw [← hr'] at this; omega
          · exact hlt
        · rcases Int.lt_or_le 60 u with hlt | hlt
          · have := Int.mul_le_mul_of_nonneg_left (show 61 ≤ u by omega) (show 0 ≤ V.shape[a] - 1 by omega)
            rw [← hr'] at this; omega
          · exact hlt
    simp only [diagV, ← hu]
    refine ⟨a3, fun x hx => ?_, by omega, by omega⟩
    have hx := List.mem_of_mem_eraseIdx hx
    rcases List.mem_or_eq_of_mem_set hx with hx | hx
    · exact a4 x hx
    · subst hx; exact hr2.2.2
theorem diagL_len (V : VL) (a b : Int) : (diagL V a b).shape.length ≤ 60 ∧ (diagL V a b).strides.length ≤ 60 := by
  cases h : okDiag V a b
  · rw [diag_no h]; simp [VL.zero]
  · have hv : isViewL V = true := by simp only [okDiag, hasDimL, Bool.and_eq_true] at h; exact h.1.1.1.1.1
    have hl := isViewL_lens hv
    simp only [diagL, h, if_true]
    unfold tidyL
    split
    · simp only [diagV, zerosL_length, List.length_eraseIdx]; split <;> omega
    · simp only [diagV, List.length_eraseIdx, List.length_set]; constructor <;> split <;> omega

end Go.Proofs.Ytldblcolnjkcaaa

/-! ## Y6 -/
namespace Go.Proofs.Ytldblcolnjkcaaa
open Go.RowKit

def cutS (st : Int) (xs : List Int) : Int := if xs.length ≤ 1 then 0 else st * (xs.getD 1 0 - xs.getD 0 0)
def cutB (st : Int) (xs : List Int) : Int := if xs.length = 0 then 0 else st * xs.getD 0 0
def cutV (V : VL) (k : Nat) (xs : List Int) : VL := ⟨V.base + cutB (V.strides.getD k 0) xs, V.shape.set k xs.length, V.strides.set k (cutS (V.strides.getD k 0) xs)⟩
def okCut (V : VL) (d : Int) (s : SL) : Bool := hasDimL V d && okSl s
def cutL (V : VL) (d : Nat) (s : SL) : VL := tidyL (cutV V d (idxL (V.shape.getD d 0) s))
def sliceL (V : VL) (d : Int) (s : SL) : VL := if okCut V d s then cutL V d.toNat s else VL.zero
theorem slice_no {V : VL} {d : Int} {s : SL} (h : okCut V d s = false) : sliceL V d s = VL.zero := by simp [sliceL, h]
theorem cut_valid {V : VL} (h : isViewL V = true) {k : Nat} (hk : k < V.shape.length) {s : SL} (hs : s.by_ ≠ 0) : isViewL (tidyL (cutV V k (idxL V.shape[k] s))) = true := by
  rw [valid_iff] at h
  obtain ⟨a1, a2, a3, a4, a5⟩ := h
  have hkt : k < V.strides.length := by omega
  obtain ⟨s1, s2, s3⟩ := shape_ext a1
  have sp := shape_prod a1
  have hn := s2 _ (List.getElem_mem hk)
  have hin := idx_in hn hs
  have hlen := idx_len hn hs
  obtain ⟨m, hm⟩ : ∃ m, m = (idxL V.shape[k] s).length := ⟨_, rfl⟩
  have hp := prodI_erase V.shape k hk
  have hks : k < (V.shape.set k (m : Int)).length := by simpa using hk
  have hp2 := prodI_erase (V.shape.set k (m : Int)) k hks
  rw [List.getElem_set_self, List.eraseIdx_set_eq] at hp2
  have q1 : (V.shape.eraseIdx k).length ≤ 4 := by rw [List.length_eraseIdx]; simp [hk]; omega
  have q2 : ∀ x ∈ V.shape.eraseIdx k, 0 ≤ x ∧ x ≤ 60 := fun x hx => s2 x (List.mem_of_mem_eraseIdx hx)
  have q3 := (prodW_eq q1 q2).2.1
  have q4 := Int.mul_le_mul_of_nonneg_left (show (m : Int) ≤ V.shape[k] by omega) q3
  rw [cutV, ← hm]
  apply tidy_valid
  · refine isShapeL_of (by simpa using s1) (fun x hx => ?_) (by show prodI (V.shape.set k (m : Int)) ≤ 60; omega)
    rcases List.mem_or_eq_of_mem_set hx with hx | rfl
    · exact s2 x hx
    · omega
  · simp; omega
  · intro hz
    have hz' : prodI (V.shape.set k (m : Int)) ≠ 0 := hz
    rw [hp2] at hz'
    have hpe : prodI (V.shape.eraseIdx k) ≠ 0 := fun e => hz' (by rw [e]; simp)
    have hm0 : m ≠ 0 := fun e => hz' (by rw [e]; simp)
    have hne : prodI V.shape ≠ 0 := by rw [hp]; exact Int.mul_ne_zero hpe (by omega)
    obtain ⟨b1, b2⟩ := a5.resolve_left hne
    have hg : V.strides.getD k 0 = V.strides[k] := by simp [hkt]
    obtain ⟨l1, l2⟩ := loS_erase V.shape V.strides k hk hkt
    have z := loS_le (V.shape.eraseIdx k) (V.strides.eraseIdx k)
    obtain ⟨st, hst⟩ : ∃ st, st = V.strides[k] := ⟨_, rfl⟩
    have hst2 := a4 _ (List.getElem_mem hkt)
    rw [← hst] at l1 l2 hst2
    have hks2 : k < (V.strides.set k (cutS st (idxL V.shape[k] s))).length := by simpa using hkt
    obtain ⟨l3, l4⟩ := loS_erase (V.shape.set k (m : Int)) (V.strides.set k (cutS st (idxL V.shape[k] s))) k hks hks2
    rw [List.getElem_set_self, List.getElem_set_self, List.eraseIdx_set_eq, List.eraseIdx_set_eq] at l3 l4
    obtain ⟨a, ha⟩ : ∃ a, a = fromL V.shape[k] s := ⟨_, rfl⟩
    have hmc : m = cnt a (toL V.shape[k] s) s.by_ := by rw [hm, idxL, numsL_length, ha]
    have hget : ∀ i : Nat, i < m → (idxL V.shape[k] s).getD i 0 = a + i * s.by_ := fun i hi => by rw [idxL, ← ha, nums_getD (by omega)]
    have hbd : ∀ i : Nat, i < m → min 0 ((V.shape[k] - 1) * st) ≤ (a + i * s.by_) * st ∧ (a + i * s.by_) * st ≤ max 0 ((V.shape[k] - 1) * st) := fun i hi => by
      have hmem : a + i * s.by_ ∈ idxL V.shape[k] s := by
        rw [← hget i hi]
        have hil : i < (idxL V.shape[k] s).length := by omega
        simp [hil]
      have := hin _ hmem
      exact one_bound this.1 this.2
    have h0 := hbd 0 (by omega)
    have e0 : (idxL V.shape[k] s).getD 0 0 = a := by rw [hget 0 (by omega)]; simp
    have eB : cutB st (idxL V.shape[k] s) = a * st := by
      unfold cutB
      rw [← hm, if_neg hm0, e0, Int.mul_comm]
    simp only [Int.natCast_zero, Int.zero_mul, Int.add_zero] at h0
    simp only [hg, ← hst, eB]
    obtain ⟨A, hA⟩ : ∃ A, A = a * st := ⟨_, rfl⟩
    rw [← hA] at h0 ⊢
    by_cases h1 : m ≤ 1
    · have eS : cutS st (idxL V.shape[k] s) = 0 := by unfold cutS; rw [← hm, if_pos h1]
      rw [eS] at l3 l4 ⊢
      simp only [Int.mul_zero] at l3 l4
      refine ⟨by omega, fun x hx => ?_, by omega, by omega⟩
      rcases List.mem_or_eq_of_mem_set hx with hx | rfl
      · exact a4 x hx
      · omega
    · have e1 : (idxL V.shape[k] s).getD 1 0 = a + s.by_ := by rw [hget 1 (by omega)]; simp
      have eS : cutS st (idxL V.shape[k] s) = s.by_ * st := by
        unfold cutS
        rw [← hm, if_neg h1, e1, e0, show a + s.by_ - a = s.by_ by omega, Int.mul_comm]
      rw [eS] at l3 l4 ⊢
      have h2 := hbd 1 (by omega)
      have h3 := hbd (m - 1) (by omega)
      simp only [Int.natCast_one, Int.one_mul, Int.add_mul] at h2
      rw [← hA] at h2
      have e3 : (a + ((m - 1 : Nat) : Int) * s.by_) * st = A + ((m : Int) - 1) * (s.by_ * st) := by
        rw [Int.add_mul, ← hA, Int.mul_assoc, show ((m - 1 : Nat) : Int) = (m : Int) - 1 by omega]
      rw [e3] at h3
      obtain ⟨T, hT⟩ : ∃ T, T = s.by_ * st := ⟨_, rfl⟩
      rw [← hT] at l3 l4 h2 h3 ⊢
      obtain ⟨U, hU⟩ : ∃ U, U = ((m : Int) - 1) * T := ⟨_, rfl⟩
      rw [← hU] at l3 l4 h3
      refine ⟨by omega, fun x hx => ?_, by omega, by omega⟩
      rcases List.mem_or_eq_of_mem_set hx with hx | rfl
      · exact a4 x hx
      · omega
theorem sliceL_len (V : VL) (d : Int) (s : SL) : (sliceL V d s).shape.length ≤ 60 ∧ (sliceL V d s).strides.length ≤ 60 := by
  cases h : okCut V d s
  · rw [slice_no h]; simp [VL.zero]
  · have hv : isViewL V = true := by simp only [okCut, hasDimL, Bool.and_eq_true] at h; exact h.1.1.1
    have hl := isViewL_lens hv
    simp only [sliceL, h, if_true, cutL]
    unfold tidyL
    split
    · simp only [cutV, zerosL_length, List.length_set]; omega
    · simp only [cutV, List.length_set]; omega

end Go.Proofs.Ytldblcolnjkcaaa

/-! ## YC -/
namespace Go.Proofs.Ytldblcolnjkcaaa
open Go.RowKit

theorem mem_getD {xs : List Int} {k : Nat} (h : k < xs.length) : xs.getD k 0 ∈ xs := by
  have e : xs.getD k 0 = xs[k] := by simp [h]
  rw [e]; exact List.getElem_mem h
theorem norm_idx {n : Int} (hn : 0 ≤ n ∧ n ≤ 60) {s : SL} (hs : s.by_ ≠ 0) (hb : -200 ≤ s.by_ ∧ s.by_ ≤ 200) :
    (0 ≤ (normL (idxL n s)).a ∧ (normL (idxL n s)).a ≤ 60) ∧ (-2 ≤ (normL (idxL n s)).b ∧ (normL (idxL n s)).b ≤ 61) ∧ (-200 ≤ (normL (idxL n s)).s ∧ (normL (idxL n s)).s ≤ 200) ∧ (normL (idxL n s)).s ≠ 0 := by
  have hin := idx_in hn hs
  have hl := numsL_length (fromL n s) (toL n s) s.by_
  obtain ⟨xs, hxs⟩ : ∃ xs, xs = idxL n s := ⟨_, rfl⟩
  rw [← hxs] at hin ⊢
  have hst : 1 < xs.length → xs.getD 1 0 - xs.getD 0 0 = s.by_ := fun h => by
    rw [hxs] at h ⊢
    unfold idxL at h ⊢
    rw [nums_getD (by omega), nums_getD (by omega)]
    simp; omega
  unfold normL
  split
  · simp
  · rename_i h0
    have h1 := hin _ (mem_getD (show 0 < xs.length by omega))
    split
    · simp only; omega
    · rename_i h2
      have h3 := hin _ (mem_getD (show xs.length - 1 < xs.length by omega))
      have h4 : lastD xs = xs.getD (xs.length - 1) 0 := rfl
      rw [hst (by omega)]
      split
      · simp only; omega
      · simp only; omega
theorem norm_start {xs : List Int} {st : Int} : (normL xs).a * st = cutB st xs := by
  unfold normL cutB
  split
  · simp
  · split
    · exact Int.mul_comm _ _
    · split <;> exact Int.mul_comm _ _
theorem norm_step {xs : List Int} {st : Int} (h : 1 < xs.length) : (normL xs).s * st = cutS st xs := by
  unfold normL cutS
  simp only [show ¬ xs.length = 0 by omega, show ¬ xs.length = 1 by omega, show ¬ xs.length ≤ 1 by omega, if_false]
  split <;> exact Int.mul_comm _ _
theorem nums_idx {n : Int} {s : SL} (hs : s.by_ ≠ 0) : numsR (normL (idxL n s)) = idxL n s := nums_norm hs

section
variable {P : Program} {ops : Array Oper} {W : World} {R : Act → World → Prop} {k : Nat} {Es : List Ent} {o : Oper} {rest : List Oper} {a : Act} {s : Seen}
/-- A call that yields one value, under the facts of what it looks at. -/
theorem grow_callF {c : Value} (hw : Region.wanted o (yielded ops a.tmps) = true) (h : ∀ x : ExtW W, (∀ j, (autoDeps ops k).contains j = true → s.fact j x.v) → ∀ (K : Act → World → Prop) (Q : Exit → Act → World → Prop), (∀ w', Below x.v.heap.size x.v w' → K (a.put o.dst c) w') → o.wp P a x.v K Q)
    (hr : wpGrow P ops W R (k + 1) Es rest (a.put o.dst c) (s.push c (fun _ => True) (fun _ => False))) : wpGrow P ops W R k (Ent.is c :: Es) (o :: rest) a s := by
  refine ⟨Ent.is_good c, fun w hC hF _ K Q hK => ?_, fun v hv => ?_⟩
  · rw [if_pos hw]
    exact h ⟨w, hC⟩ hF K Q fun w' hb => hK c w' ⟨hb, rfl, fun b h => h.elim⟩
  · cases hv
    have e : (fun _ : World => True) = (fun w => (Ent.is c).Φ ((autoDeps ops k).map s.val) w c) := by funext w; simp [Ent.is]
    rw [e] at hr
    exact hr
end

end Go.Proofs.Ytldblcolnjkcaaa

/-! ## PO1 -/
namespace Go.Proofs.Ytldblcolnjkcaaa
open Go.RowKit

/-- The sizes, each at most 4. -/
def okE (E : List Int) : Prop := E.length = 5 ∧ ∀ x ∈ E, 0 ≤ x ∧ x ≤ 4
theorem scount_is (v : Value) (xs : List Int) (n : Int) (w : World) (h : Ints w v xs) (hn : prodW xs = n) :
    Calls Try.prog 110 #[v] w fun e w' => e = .returned (.int .i64 n) ∧ Below w.heap.size w w' :=
  (count_any v xs w h).mono fun _ _ h => ⟨by rw [h.1, hn], h.2 ▸ Below.refl _ _⟩
/-- A label more. -/
theorem label_more {E ls : List Int} {k : Nat} {P X : Int} (hE : okE E) (hl : ls.length ≤ 3) (hs : isShapeL (takenL E ls) = true) (hk : k < 5) (hP : prodW (takenL E ls) = P) (hX : E[k]'(by have := hE.1; omega) = X) (hle : wrap64 (P * X) ≤ 60) :
    isShapeL (takenL E (ls ++ [(k : Int)])) = true := by
  have hk5 : k < E.length := by have := hE.1; omega
  have e : takenL E (ls ++ [(k : Int)]) = takenL E ls ++ [X] := by
    rw [← hX]; simp [takenL, hk5]
  have hXb := hE.2 X (by rw [← hX]; exact List.getElem_mem hk5)
  simp only [isShapeL, Bool.and_eq_true, decide_eq_true_eq, List.all_eq_true] at hs ⊢
  refine ⟨⟨?_, fun x hx => ?_⟩, ?_⟩
  · simp [takenL]; omega
  · rw [e] at hx
    rcases List.mem_append.1 hx with hx | hx
    · exact hs.1.2 x hx
    · simp at hx
      subst hx
      simp [okExt, inR]; omega
  · rw [e, prodW_snoc, hP]
    exact hle

set_option maxRecDepth 100000 in
set_option maxHeartbeats 6400000 in
theorem productOf_any (N g p k : Nat) (w : World) (h : Rd N w g p) (hp : p ≤ 100000) (hk : 1 ≤ k ∧ k ≤ 3) :
    Calls Try.prog 145 #[.pointer (some ⟨g, 0, none⟩), .int .i64 k] w (RetProd g w) := by
  have HM0 := hid (Hs.start h)
  go_enter Try.func145, Try.ntmps145
  go_upto_region 1 with fail
  obtain ⟨w0, hw0⟩ : ∃ w0, w0 = w := ⟨_, rfl⟩
  have HW0 := hid hw0
  rw [← hw0]
  rw [← hw0] at h
  have HM0 : Hid (Hs N g p w w0 []) := by rw [hw0]; exact HM0
  clear hw0
  have hL : Own (w0.alloc (.cells #[.int .i64 2, .int .i64 3, .int .i64 1] 3)) w0.heap.size (.slice (some ⟨w0.heap.size, 0, none⟩) 3 3) [2, 3, 1] := own_lit w0 [2, 3, 1] (by simp)
  have HA := hid (HM0.out.nx (below_alloc w0 (.cells #[.int .i64 2, .int .i64 3, .int .i64 1] 3)))
  have HE := hid (HM0.out.rd.lit 3 3)
  go_wp2_with fail
  refine (one_any _ _ (p) _ _ _ _ HA.out.rd (by omega) hL (by simp) HE.out).mono ?_; rintro e w1 ⟨r, hr, rfl, hR, hG⟩
  have HM1 := hid (HA.out.ate hR hG)
  obtain ⟨y1, ey, hy1⟩ : ∃ y : Int, [2, 3, 1][r] = y ∧ y ∈ ([2, 3, 1] : List Int) := ⟨_, rfl, List.getElem_mem hr⟩
  rw [ey]
  clear hR hG ey hr hL HA HE
  have hL : Own (w1.alloc (.cells #[.int .i64 3, .int .i64 2, .int .i64 4] 3)) w1.heap.size (.slice (some ⟨w1.heap.size, 0, none⟩) 3 3) [3, 2, 4] := own_lit w1 [3, 2, 4] (by simp)
  have HA := hid (HM1.out.nx (below_alloc w1 (.cells #[.int .i64 3, .int .i64 2, .int .i64 4] 3)))
  have HE := hid (HM1.out.rd.lit 3 3)
  go_wp2_with fail
  refine (one_any _ _ (p + 1) _ _ _ _ HA.out.rd (by omega) hL (by simp) HE.out).mono ?_; rintro e w2 ⟨r, hr, rfl, hR, hG⟩
  have HM2 := hid (HA.out.ate hR hG)
  obtain ⟨y2, ey, hy2⟩ : ∃ y : Int, [3, 2, 4][r] = y ∧ y ∈ ([3, 2, 4] : List Int) := ⟨_, rfl, List.getElem_mem hr⟩
  rw [ey]
  clear hR hG ey hr hL HA HE
  have hL : Own (w2.alloc (.cells #[.int .i64 2, .int .i64 1, .int .i64 0] 3)) w2.heap.size (.slice (some ⟨w2.heap.size, 0, none⟩) 3 3) [2, 1, 0] := own_lit w2 [2, 1, 0] (by simp)
  have HA := hid (HM2.out.nx (below_alloc w2 (.cells #[.int .i64 2, .int .i64 1, .int .i64 0] 3)))
  have HE := hid (HM2.out.rd.lit 3 3)
  go_wp2_with fail
  refine (one_any _ _ (p + 2) _ _ _ _ HA.out.rd (by omega) hL (by simp) HE.out).mono ?_; rintro e w3 ⟨r, hr, rfl, hR, hG⟩
  have HM3 := hid (HA.out.ate hR hG)
  obtain ⟨y3, ey, hy3⟩ : ∃ y : Int, [2, 1, 0][r] = y ∧ y ∈ ([2, 1, 0] : List Int) := ⟨_, rfl, List.getElem_mem hr⟩
  rw [ey]
  clear hR hG ey hr hL HA HE
  have hL : Own (w3.alloc (.cells #[.int .i64 2, .int .i64 3] 3)) w3.heap.size (.slice (some ⟨w3.heap.size, 0, none⟩) 2 2) [2, 3] := own_lit w3 [2, 3] (by simp)
  have HA := hid (HM3.out.nx (below_alloc w3 (.cells #[.int .i64 2, .int .i64 3] 3)))
  have HE := hid (HM3.out.rd.lit 2 2)
  go_wp2_with fail
  refine (one_any _ _ (p + 3) _ _ _ _ HA.out.rd (by omega) hL (by simp) HE.out).mono ?_; rintro e w4 ⟨r, hr, rfl, hR, hG⟩
  have HM4 := hid (HA.out.ate hR hG)
  obtain ⟨y4, ey, hy4⟩ : ∃ y : Int, [2, 3][r] = y ∧ y ∈ ([2, 3] : List Int) := ⟨_, rfl, List.getElem_mem hr⟩
  rw [ey]
  clear hR hG ey hr hL HA HE
  have HEE := hid (show okE [y1, y2, y3, y4, 2] from ⟨rfl, fun x hx => by simp at hx hy1 hy2 hy3 hy4; omega⟩)
  have H5 : Hid (Hs N g (p + 3 + 1) w (w4.alloc (.cells #[.int .i64 y1, .int .i64 y2, .int .i64 y3, .int .i64 y4, .int .i64 2] 3)) [.ints (.slice (some ⟨w4.heap.size, 0, none⟩) 5 5) [y1, y2, y3, y4, 2]]) := hid (HM4.out.op (HM4.out.hp.row (own_lit w4 [y1, y2, y3, y4, 2] (by simp)) (below_alloc w4 (.cells #[.int .i64 y1, .int .i64 y2, .int .i64 y3, .int .i64 y4, .int .i64 2] 3))))
  clear hy1 hy2 hy3 hy4 HM0 HM1 HM2 HM3 HM4 h
  go_upto_region 2 with fail
  generalize (w4.alloc (.cells #[.int .i64 y1, .int .i64 y2, .int .i64 y3, .int .i64 y4, .int .i64 2] 3)) = w5 at *
  generalize [y1, y2, y3, y4, 2] = E at *
  generalize w4.heap.size = gE at *
  have hE5 : E.length = 5 := HEE.out.1
  have H6 := hid (H5.out.op (H5.out.hp.newRow (w5.ownsRow_lit (e := 75) (size := 2) #[] 0 (Nat.le_refl _) (by decide) rfl) (below_alloc w5 (.cells #[] 75))))
  go_upto_region 3 with fail
  generalize w5.heap.size = gT at *
  generalize (w5.alloc (.cells #[] 75)) = w6 at *
  have H7 := hid (H6.out.op (H6.out.hp.newRow (w6.ownsRow_lit (e := 23) (size := 1) #[] 0 (Nat.le_refl _) (by decide) rfl) (below_alloc w6 (.cells #[] 23))))
  go_upto_region 4 with fail
  generalize w6.heap.size = gL at *
  generalize (w6.alloc (.cells #[] 23)) = w7 at *
  have H8 := hid (H7.out.op (H7.out.hp.row (Own.empty w7 rfl (Nat.le_refl _)) (below_alloc w7 (.cells #[] 3))))
  go_upto_region 5 with fail
  generalize w7.heap.size = gA at *
  generalize (w7.alloc (.cells #[] 3)) = w8 at *
  have H9 : Hid (Hs N g (p + 3 + 1) w w8 (pI (.slice (some ⟨gE, 0, none⟩) 5 5) (.slice (some ⟨gT, 0, none⟩) 0 0) (.slice (some ⟨gL, 0, none⟩) 0 0) (.slice (some ⟨gA, 0, none⟩) 0 0) E [] [] [])) := H8
  clear H5 H6 H7 H8
  go_upto_region 6 with fail
  go_loopg [8, 9, 10, 11] k (fun m vt vl va i wr => ∃ (j q : Nat) (ts : List (Value × Value × TL)) (ls : List (Value × List Int)) (all : List Int), j ≤ k ∧ m = k - j ∧ i = .int .i64 j ∧ q ≤ p + 4 + j * 70 ∧ Hid (ts.length = j ∧ ls.length = j ∧ all.length ≤ 4 * j ∧ ∀ l ∈ ls, l.2.length ≤ 3) ∧
    Hs N g q w wr (pI (.slice (some ⟨gE, 0, none⟩) 5 5) vt vl va E all ts ls))
  case atStart => exact ⟨0, p + 3 + 1, [], [], [], by omega, rfl, rfl, by omega, hid ⟨rfl, rfl, by simp, by simp⟩, H9.out⟩
  case round =>
    obtain ⟨j, q, ts, ls, all, hj, rfl, rfl, hq, HLEN, H⟩ := hrel
    have HH := hid H
    clear H H9
    by_cases hlt : j < k
    · have hji : (j : Int) < (k : Int) := by omega
      have H1 : Hid (Hs N g q w (wr.alloc (.cells #[] 3)) (.ints (.slice (some ⟨wr.heap.size, 0, none⟩) 0 0) [] :: pI (.slice (some ⟨gE, 0, none⟩) 5 5) u8 u9 u10 E all ts ls)) :=
        hid ((HH.out.op (HH.out.hp.row (Own.empty wr rfl (Nat.le_refl _)) (below_alloc wr (.cells #[] 3)))).perm List.perm_append_comm)
      go_upto_region 9 with fail
      clear HH
      generalize (wr.alloc (.cells #[] 3)) = w10 at *
      generalize wr.heap.size = gl at *
      have HM10 := H1
      clear H1
      have hL : Own (w10.alloc (.cells #[.int .i64 2, .int .i64 1, .int .i64 2, .int .i64 3, .int .i64 0] 3)) w10.heap.size (.slice (some ⟨w10.heap.size, 0, none⟩) 5 5) [2, 1, 2, 3, 0] := own_lit w10 [2, 1, 2, 3, 0] (by simp)
      have HA := hid (HM10.out.nx (below_alloc w10 (.cells #[.int .i64 2, .int .i64 1, .int .i64 2, .int .i64 3, .int .i64 0] 3)))
      have HE := hid (HM10.out.rd.lit 5 5)
      go_wp2_with fail
      refine (one_any _ _ (q) _ _ _ _ HA.out.rd (by omega) hL (by simp) HE.out).mono ?_; rintro e w11 ⟨r, hr, rfl, hR, hG⟩
      have HM11 := hid (HA.out.ate hR hG)
      obtain ⟨y, ey, hy⟩ : ∃ y : Int, [2, 1, 2, 3, 0][r] = y ∧ y ∈ ([2, 1, 2, 3, 0] : List Int) := ⟨_, rfl, List.getElem_mem hr⟩
      rw [ey]
      clear hR hG ey hr hL HA HE
      obtain ⟨n, hn, hn3⟩ : ∃ n : Nat, y = (n : Int) ∧ n ≤ 3 := ⟨y.toNat, by simp at hy; omega, by simp at hy; omega⟩
      subst hn
      clear hy HM10
      go_upto_region 10 with fail
      go_loopg [12, 13] n (fun m u i wr => ∃ (c q1 : Nat) (xs : List Int), m = c ∧ i = .int .i64 c ∧ q1 + c ≤ q + 1 + n ∧ c ≤ n ∧ Hid (xs.length + c ≤ n ∧ (∀ x ∈ xs, 0 ≤ x ∧ x < 5) ∧ isShapeL (takenL E xs) = true) ∧
        Hs N g q1 w wr (.ints u xs :: pI (.slice (some ⟨gE, 0, none⟩) 5 5) u8 u9 u10 E all ts ls))
      case atStart => exact ⟨n, q + 1, [], rfl, rfl, by omega, by omega, hid ⟨by simp, by simp, rfl⟩, HM11.out⟩
      case round =>
        obtain ⟨c, q1, xs, hm, rfl, hq1, hcn, HX, H⟩ := hrel
        have HMC := hid hm
        clear hm
        have HM12 := hid H
        clear H HM11
        have hwc : IntKind.i64.wrap ((c : Int) - 1) = (c : Int) - 1 := IntWalk.i64_in _ (by omega)
        by_cases hc : 0 < c
        · have hci : (0 : Int) < (c : Int) := by omega
          obtain ⟨w12, rfl⟩ : ∃ w12, w12 = wr := ⟨_, rfl⟩
          go_wp2_with fail
          refine (pick_any _ _ (q1) 5 _ HM12.out.rd (by omega) (by omega)).mono ?_; rintro e w13 ⟨r, rfl, hr, hR, hG⟩
          have HM13 := hid (HM12.out.ate hR hG)
          clear hR hG
          have hrE : r < E.length := by omega
          obtain ⟨bE, oE, eE, x0⟩ := (HM13.out.ints 1 rfl).ints.elem r hrE
          simp only [Option.some.injEq, Addr.mk.injEq, and_true] at eE
          obtain ⟨rfl, rfl⟩ := eE
          obtain ⟨X, hX⟩ : ∃ X, E[r] = X := ⟨_, rfl⟩
          obtain ⟨P, hP⟩ : ∃ P, prodW (takenL E xs) = P := ⟨_, rfl⟩
          have HXX := hid hX
          have HP := hid hP
          rw [hX, Nat.zero_add] at x0
          have hr0 : (0 : Int) ≤ (r : Int) := by omega
          have hr5 : (r : Int) < 5 := by omega
          clear hX hP
          obtain ⟨A3, c3, e3⟩ := (HM13.out.ints 0 rfl).form
          subst e3
          have HPI := hid (fun x : ExtW w13 => picked_any _ _ E xs x.v ((HM13.out.ints 1 rfl).ints.nx x.h) ((HM13.out.ints 0 rfl).ints.nx x.h) (fun i hi => by have := HX.out.2.1 i hi; omega) (by have := HX.out.1; omega))
          have q0 := fun x : ExtW w13 => (x.h.cell (p := ⟨gE, r, none⟩) (World.block_lt_of_cell? _ _ x0)).trans x0
          by_cases hle : IntKind.i64.wrap (P * X) ≤ 24
          · go_upto_region 13 with fail
            refine region_mk 10 (by kernel_rfl) (by kernel_rfl) ?_
            apply Exists.intro
            simp only [List.take_succ_cons, List.take_zero, List.drop_succ_cons, List.drop_zero]
            repeat (first
              | (apply grow_val (by rfl); (focus (intro x; (go_simp; try with_reducible rfl); done)); simp only [Act.put, List.setIfInBounds_toArray, List.set_cons_zero, List.set_cons_succ])
              | (apply grow_skip (by rfl); simp only [Act.put, List.setIfInBounds_toArray, List.set_cons_zero, List.set_cons_succ]))
            apply grow_ints (takenL E xs) (by rfl)
            · intro x hF K Q hK
              go_simp
              go_at_call 167;(with_reducible refine (HPI.out x).mono ?_);rintro e w' ⟨v1, rfl, ho, hb⟩;exact hK _ _ hb ho
            intro A2 c2 F2 O2 hF2 hO2
            simp only [Act.put, List.setIfInBounds_toArray, List.set_cons_zero, List.set_cons_succ]
            repeat (first
              | (apply grow_val (by rfl); (focus (intro x; (go_simp; try with_reducible rfl); done)); simp only [Act.put, List.setIfInBounds_toArray, List.set_cons_zero, List.set_cons_succ])
              | (apply grow_skip (by rfl); simp only [Act.put, List.setIfInBounds_toArray, List.set_cons_zero, List.set_cons_succ]))
            apply grow_callF (by rfl)
            · intro x hF K Q hK
              have h6 := (hF2 _ (hF 2 (by kernel_rfl))).ints
              go_simp
              refine (scount_is _ _ P _ h6 HP.out).mono ?_
              rintro e w' ⟨rfl, hb⟩
              exact hK _ hb
            simp only [Act.put, List.setIfInBounds_toArray, List.set_cons_zero, List.set_cons_succ]
            repeat (first
              | (apply grow_val (by rfl); (focus (intro x; (go_simp; try with_reducible rfl); done)); simp only [Act.put, List.setIfInBounds_toArray, List.set_cons_zero, List.set_cons_succ])
              | (apply grow_skip (by rfl); simp only [Act.put, List.setIfInBounds_toArray, List.set_cons_zero, List.set_cons_succ]))
            refine grow_nil ?_
            rintro ⟨wa, hba⟩ hF hS
            have hba : Below w13.heap.size w13 wa := hba
            have HA := hid (HM13.out.nx hba)
            have HLM := hid (label_more HEE.out (by have := HX.out.1; omega) HX.out.2.2 (by omega) HP.out HXX.out (by rw [← IntWalk.i64_left]; omega))
            have HLN := hid (show xs.length ≤ 1000000000000 by have := HX.out.1; omega)
            clear hF hS q0 hba x0 hF2 hO2 F2 O2 HPI HM12
            go_wp2_with (at_builtin; refine app1 _ rfl _ _ rfl w.heap.size _ xs rfl ((HA.out.ints 0 rfl).alloc _) ⟨wa.heap.size, 0, none⟩ 1 (r : Int) rfl (cell_new1 _ _ _) HLN.out (le_alloc HA.out.sz _) ?_)
            intro v9 w9 ho9 hg9 hat9
            rw [← World.size_alloc wa (.cells #[.int .i64 (r : Int)] 3)] at hat9
            have H9 := HA.out.nx (below_alloc wa (.cells #[.int .i64 (r : Int)] 3))
            have H9 : Hid (Hs N g (q1 + 1) w w9 (.ints v9 (xs ++ [(r : Int)]) :: pI (.slice (some ⟨gE, 0, none⟩) 5 5) u8 u9 u10 E all ts ls)) := hid (H9.op (H9.hp.grown 0 rfl ho9 hg9 hat9))
            clear ho9 hg9 hat9 HA
            go_wp2
            go_roundg (c - 1)
            case measure => have := HMC.out; omega
            case rel => exact ⟨c - 1, q1 + 1, xs ++ [(r : Int)], rfl, by congr 1; omega, by omega, by omega, hid ⟨by have := HX.out.1; rw [List.length_append, List.length_singleton]; omega, fun x hx => (List.mem_append.1 hx).elim (HX.out.2.1 x) (fun h => by simp at h; omega), HLM.out⟩, H9.out⟩
          · go_upto_region 13 with fail
            refine region_mk 10 (by kernel_rfl) (by kernel_rfl) ?_
            apply Exists.intro
            simp only [List.take_succ_cons, List.take_zero, List.drop_succ_cons, List.drop_zero]
            repeat (first
              | (apply grow_val (by rfl); (focus (intro x; (go_simp; try with_reducible rfl); done)); simp only [Act.put, List.setIfInBounds_toArray, List.set_cons_zero, List.set_cons_succ])
              | (apply grow_skip (by rfl); simp only [Act.put, List.setIfInBounds_toArray, List.set_cons_zero, List.set_cons_succ]))
            apply grow_ints (takenL E xs) (by rfl)
            · intro x hF K Q hK
              go_simp
              go_at_call 167;(with_reducible refine (HPI.out x).mono ?_);rintro e w' ⟨v1, rfl, ho, hb⟩;exact hK _ _ hb ho
            intro A2 c2 F2 O2 hF2 hO2
            simp only [Act.put, List.setIfInBounds_toArray, List.set_cons_zero, List.set_cons_succ]
            repeat (first
              | (apply grow_val (by rfl); (focus (intro x; (go_simp; try with_reducible rfl); done)); simp only [Act.put, List.setIfInBounds_toArray, List.set_cons_zero, List.set_cons_succ])
              | (apply grow_skip (by rfl); simp only [Act.put, List.setIfInBounds_toArray, List.set_cons_zero, List.set_cons_succ]))
            apply grow_callF (by rfl)
            · intro x hF K Q hK
              have h6 := (hF2 _ (hF 2 (by kernel_rfl))).ints
              go_simp
              refine (scount_is _ _ P _ h6 HP.out).mono ?_
              rintro e w' ⟨rfl, hb⟩
              exact hK _ hb
            simp only [Act.put, List.setIfInBounds_toArray, List.set_cons_zero, List.set_cons_succ]
            repeat (first
              | (apply grow_val (by rfl); (focus (intro x; (go_simp; try with_reducible rfl); done)); simp only [Act.put, List.setIfInBounds_toArray, List.set_cons_zero, List.set_cons_succ])
              | (apply grow_skip (by rfl); simp only [Act.put, List.setIfInBounds_toArray, List.set_cons_zero, List.set_cons_succ]))
            refine grow_nil ?_
            rintro ⟨wa, hba⟩ hF hS
            have hba : Below w13.heap.size w13 wa := hba
            have HA := hid (HM13.out.nx hba)
            clear hF hS q0 hba x0 hF2 hO2 F2 O2 HPI HM12
            go_wp2
            go_roundg (c - 1)
            case measure => have := HMC.out; omega
            case rel => exact ⟨c - 1, q1 + 1, xs, rfl, by congr 1; omega, by omega, by omega, hid ⟨by have := HX.out.1; omega, HX.out.2.1, HX.out.2.2⟩, HA.out⟩
        · obtain ⟨w12, rfl⟩ : ∃ w12, w12 = wr := ⟨_, rfl⟩
          have hc0 : ¬ (0 : Int) < (c : Int) := by omega
          obtain ⟨A3, c3, e3⟩ := (HM12.out.ints 0 rfl).form
          subst e3
          have HS := hid HX.out.2.2
          have HX1 := hid (show xs.length ≤ 3 by have := HX.out.1; omega)
          go_wp2_with fail
          refine (picked_any _ _ E xs _ (HM12.out.ints 1 rfl).ints (HM12.out.ints 0 rfl).ints (fun i hi => by have := HX.out.2.1 i hi; omega) (by have := HX.out.1; omega)).mono ?_; rintro e w13 ⟨v1, rfl, ho, hb⟩
          have HM13 := hid (HM12.out.nx hb)
          have HIN := hid (IntsN.of_own ho (Nat.lt_of_lt_of_le HM12.out.lt HM12.out.sz))
          clear ho hb HM12
          go_wp2_with fail
          refine (tensorFor_any N g q1 v1 (takenL E xs) _ HM13.out.rd (by omega) HIN.out HS.out).mono ?_; rintro e w14 ⟨sv, tv, T, q2, rfl, hl1, hl2, hO1, hO2, hsp, hq2, hR, hG⟩
          obtain ⟨A1, c1, e1⟩ := hO1.form
          subst e1
          obtain ⟨A2, c2, e2⟩ := hO2.form
          subst e2
          have HM14 := hid (HM13.out.tensd hO1 hO2 hsp hR hG)
          clear hO1 hO2 hsp hR hG hl1 hl2 HM13 HIN
          have HN := hid HLEN.out
          go_wp2_with (at_builtin; refine appRT _ rfl _ _ rfl w.heap.size _ ts.length (tU ts) rfl ((HM14.out.rowAt 2 rfl).alloc _) ⟨w14.heap.size, 0, none⟩ 1 _ _ _ _ _ _ rfl (Blk.new w14 75 #[.slice A1 T.shape.length c1, .slice A2 T.values.length c2]).all2.1.1 (Blk.new w14 75 #[.slice A1 T.shape.length c1, .slice A2 T.values.length c2]).all2.1.2 (by have := HN.out.1; omega) (le_alloc HM14.out.sz _) ?_)
          intro v15 w15 ho15 hg15 hat15
          rw [← World.size_alloc w14 (.cells #[.slice A1 T.shape.length c1, .slice A2 T.values.length c2] 75)] at hat15
          have H15 := HM14.out.nx (below_alloc w14 (.cells #[.slice A1 T.shape.length c1, .slice A2 T.values.length c2] 75))
          have HM15 : Hid (Hs N g q2 w w15 (.ints (.slice A3 xs.length c3) xs :: pK (.slice (some ⟨gE, 0, none⟩) 5 5) v15 u9 u10 E all (ts.length + 1) (tU ts ++ [.slice A1 T.shape.length c1, .slice A2 T.values.length c2]) ls.length (lU ls) ((tI ts ++ lI ls) ++ [.ints (.slice A1 T.shape.length c1) T.shape, .ints (.slice A2 T.values.length c2) T.values]))) :=
            hid (H15.op (H15.hp.rowGrown 2 rfl ho15 hg15 hat15))
          clear ho15 hg15 hat15 H15 HM14
          go_wp2_with (at_builtin; refine appRL _ rfl _ _ rfl w.heap.size _ ls.length (lU ls) rfl ((HM15.out.rowAt 3 rfl).alloc _) ⟨w15.heap.size, 0, none⟩ 1 _ _ _ rfl (cell_new1 _ _ _) (by have := HN.out.2.1; omega) (le_alloc HM15.out.sz _) ?_)
          intro v16 w16 ho16 hg16 hat16
          rw [← World.size_alloc w15 (.cells #[.slice A3 xs.length c3] 23)] at hat16
          have H16 := HM15.out.nx (below_alloc w15 (.cells #[.slice A3 xs.length c3] 23))
          have HM16 : Hid (Hs N g q2 w w16 (.ints (.slice A3 xs.length c3) xs :: pK (.slice (some ⟨gE, 0, none⟩) 5 5) v15 v16 u10 E all (ts.length + 1) (tU ts ++ [.slice A1 T.shape.length c1, .slice A2 T.values.length c2]) (ls.length + 1) (lU ls ++ [.slice A3 xs.length c3]) ((tI ts ++ lI ls) ++ [.ints (.slice A1 T.shape.length c1) T.shape, .ints (.slice A2 T.values.length c2) T.values]))) :=
            hid (H16.op (H16.hp.rowGrown 3 rfl ho16 hg16 hat16))
          clear ho16 hg16 hat16 H16 HM15
          go_wp2_with (at_builtin; refine appI _ rfl _ _ rfl w.heap.size _ all rfl (HM16.out.ints 4 rfl) A3 xs.length c3 xs rfl (HM16.out.ints 0 rfl).ints (by have := HN.out.2.2.1; have := HX1.out; omega) HM16.out.sz ?_)
          intro v17 w17 ho17 hg17 hat17
          have HM17 : Hid (Hs N g q2 w w17 (.ints (.slice A3 xs.length c3) xs :: pK (.slice (some ⟨gE, 0, none⟩) 5 5) v15 v16 v17 E (all ++ xs) (ts.length + 1) (tU ts ++ [.slice A1 T.shape.length c1, .slice A2 T.values.length c2]) (ls.length + 1) (lU ls ++ [.slice A3 xs.length c3]) ((tI ts ++ lI ls) ++ [.ints (.slice A1 T.shape.length c1) T.shape, .ints (.slice A2 T.values.length c2) T.values]))) :=
            hid (HM16.out.op (HM16.out.hp.grown 4 rfl ho17 hg17 hat17))
          clear ho17 hg17 hat17 HM16
          have HFI := hid (pI_next HM17.out)
          clear HM17
          have hwj : IntKind.i64.wrap ((j : Int) + 1) = (j : Int) + 1 := IntWalk.i64_in _ (by omega)
          go_wp2
          go_roundg (k - (j + 1))
          case measure => omega
          case rel => exact ⟨j + 1, q2, ts ++ [(.slice A1 T.shape.length c1, .slice A2 T.values.length c2, T)], ls ++ [(.slice A3 xs.length c3, xs)], all ++ xs, by omega, by omega, by congr 1, by omega, hid ⟨by have := HN.out.1; rw [List.length_append, List.length_singleton]; omega, by have := HN.out.2.1; rw [List.length_append, List.length_singleton]; omega, by have := HN.out.2.2.1; have := HX1.out; rw [List.length_append]; omega, fun l hl => (List.mem_append.1 hl).elim (HN.out.2.2.2 l) (fun h => by rw [List.mem_singleton] at h; subst h; exact HX1.out)⟩, HFI.out⟩
    · have hji : ¬ (j : Int) < (k : Int) := by omega
      obtain ⟨w20, rfl⟩ : ∃ w20, w20 = wr := ⟨_, rfl⟩
      have hjk : j = k := by omega
      subst hjk
      have H1 : Hid (Hs N g q w (w20.alloc (.cells #[] 3)) (.ints (.slice (some ⟨w20.heap.size, 0, none⟩) 0 0) [] :: pI (.slice (some ⟨gE, 0, none⟩) 5 5) u8 u9 u10 E all ts ls)) :=
        hid ((HH.out.op (HH.out.hp.row (Own.empty w20 rfl (Nat.le_refl _)) (below_alloc w20 (.cells #[] 3)))).perm List.perm_append_comm)
      go_upto_region 19 with fail
      clear HH
      generalize (w20.alloc (.cells #[] 3)) = w21 at *
      generalize w20.heap.size = go at *
      have HN := hid HLEN.out
      have hqj : q ≤ p + 300 := by omega
      clear hq HLEN hlt hji
      go_upto_region 20 with fail
      go_loopg [15, 16] 5 (fun m u i wr => ∃ (c q1 : Nat) (xs : List Int), c ≤ 5 ∧ m = 5 - c ∧ i = .int .i64 c ∧ q1 ≤ q + 2 * c ∧ Hid (xs.length ≤ 4 ∧ ∀ x ∈ xs, 0 ≤ x ∧ x < 5) ∧
        Hs N g q1 w wr (.ints u xs :: pI (.slice (some ⟨gE, 0, none⟩) 5 5) u8 u9 u10 E all ts ls))
      case atStart => exact ⟨0, q, [], by omega, rfl, rfl, by omega, hid ⟨by simp, by simp⟩, H1.out⟩
      case round =>
        obtain ⟨c, q1, xs, hc5, rfl, rfl, hq1, HX, H⟩ := hrel
        have HM12 := hid H
        clear H H1
        obtain ⟨w12, rfl⟩ : ∃ w12, w12 = wr := ⟨_, rfl⟩
        obtain ⟨A3, c3, e3⟩ := (HM12.out.ints 0 rfl).form
        subst e3
        have hxl4 : xs.length ≤ 4 := HX.out.1
        by_cases hc : c < 5
        · have hci : (c : Int) < 5 := by omega
          have hwc : IntKind.i64.wrap ((c : Int) + 1) = (c : Int) + 1 := IntWalk.i64_in _ (by omega)
          have hc0 : (0 : Int) ≤ (c : Int) := by omega
          go_upto_region 22 with fail
          go_cut [107] (fun sb wx => ∃ (b : Bool) (q2 : Nat), sb = .bool b ∧ q2 ≤ q1 + 1 ∧ Hid (b = true → xs.length < 4) ∧ Hid (Hs N g q2 w wx (.ints (.slice A3 xs.length c3) xs :: pI (.slice (some ⟨gE, 0, none⟩) 5 5) u8 u9 u10 E all ts ls)))
          case first =>
            obtain ⟨F, hF⟩ : ∃ F, findI (· == (c : Int)) all = F := ⟨_, rfl⟩
            have HMD := hid (HM12.out.nx (below_drew w12))
            have HF := hid hF
            clear hF
            have HPX : ∀ x : ExtW w12, Calls Try.prog 129 #[u10, .int .i64 c] x.v fun e w' => e = .returned (.int .i64 F) ∧ Below x.v.heap.size x.v w' := fun x => by
              have := placeIn_any u10 all c x.v (((HM12.out.ints 4 rfl).ints).nx x.h)
              rw [HF.out] at this
              exact this.mono fun _ _ h => ⟨h.1, h.2 ▸ Below.refl _ _⟩
            have HPX := hid HPX
            have HPD : Hid (∀ x : ExtW w12.drew, Calls Try.prog 129 #[u10, .int .i64 c] x.v fun e w' => e = .returned (.int .i64 F) ∧ Below x.v.heap.size x.v w') := hid fun x => HPX.out ⟨x.v, (below_drew w12).trans x.h⟩
            by_cases hF0 : 0 ≤ F
            · refine region_at (by kernel_rfl) ?_
              refine phase_next 0 6 (by kernel_rfl) (by decide) (Below.refl _ _) ?_
              apply Exists.intro
              intro vs
              simp only [List.take_succ_cons, List.take_zero, List.drop_zero]
              repeat (first
                | (apply grow_val (by rfl); (focus (intro x; (go_simp; try with_reducible rfl); done)); simp only [Act.put, List.setIfInBounds_toArray, List.set_cons_zero, List.set_cons_succ])
                | (apply grow_skip (by rfl); simp only [Act.put, List.setIfInBounds_toArray, List.set_cons_zero, List.set_cons_succ])
                | (apply grow_call (by rfl); (focus (intro x K Q hK; go_simp; (first | (go_at_call 129; (with_reducible refine (HPD.out x).mono ?_); rintro e w' ⟨rfl, hb⟩; exact hK _ hb)); done)); simp only [Act.put, List.setIfInBounds_toArray, List.set_cons_zero, List.set_cons_succ]))
              refine grow_nil ?_
              rintro ⟨wa, hba⟩ hF hS
              have hba : Below w12.drew.heap.size w12.drew wa := hba
              have HMA := hid (HMD.out.nx hba)
              clear hF hS hba
              refine wpOp_go (by rfl) (by rfl) ?_
              go_simp
              go_at_call 89
              refine (pick_any N g q1 2 _ HMA.out.rd (by omega) (by omega)).mono ?_; rintro e w13 ⟨r, rfl, hr, hR, hG⟩
              have HM13 := hid (HMA.out.ate hR hG)
              clear hR hG
              by_cases h0 : r = 0
              · have h0i : ((r : Int) == 0) = true := by simp [h0]
                clear h0
                have hcE : c < E.length := by omega
                obtain ⟨bE, oE, eE, x0⟩ := (HM13.out.ints 1 rfl).ints.elem c hcE
                simp only [Option.some.injEq, Addr.mk.injEq, and_true] at eE
                obtain ⟨rfl, rfl⟩ := eE
                obtain ⟨X, hX⟩ : ∃ X, E[c] = X := ⟨_, rfl⟩
                obtain ⟨P, hP⟩ : ∃ P, prodW (takenL E xs) = P := ⟨_, rfl⟩
                have HP := hid hP
                rw [hX, Nat.zero_add] at x0
                clear hX hP
                have HPI := hid (fun x : ExtW w13 => picked_any _ _ E xs x.v ((HM13.out.ints 1 rfl).ints.nx x.h) ((HM13.out.ints 0 rfl).ints.nx x.h) (fun i hi => by have := HX.out.2 i hi; omega) (by have := HX.out.1; omega))
                have q0 := fun x : ExtW w13 => (x.h.cell (p := ⟨gE, c, none⟩) (World.block_lt_of_cell? _ _ x0)).trans x0
                clear x0
                by_cases hle : IntKind.i64.wrap (P * X) ≤ 60
                · by_cases hl4 : xs.length < 4
                  · have hl4i : (xs.length : Int) < 4 := by omega
                    have HL4 := hid hl4
                    clear hl4
                    refine phase_last 7 26 (by kernel_rfl) (by decide) (Below.refl _ _) ?_
                    apply Exists.intro
                    intro vs
                    simp only [List.take_succ_cons, List.take_zero, List.drop_succ_cons, List.drop_zero]
                    repeat (first
                      | (apply grow_val (by rfl); (focus (intro x; (go_simp; try with_reducible rfl); done)); simp only [Act.put, List.setIfInBounds_toArray, List.set_cons_zero, List.set_cons_succ])
                      | (apply grow_skip (by rfl); simp only [Act.put, List.setIfInBounds_toArray, List.set_cons_zero, List.set_cons_succ]))
                    apply grow_ints (takenL E xs) (by rfl)
                    · intro x hF K Q hK
                      go_simp
                      go_at_call 167;(with_reducible refine (HPI.out x).mono ?_);rintro e w' ⟨v1, rfl, ho, hb⟩;exact hK _ _ hb ho
                    intro A12 c12 F12 O12 hF12 hO12
                    simp only [Act.put, List.setIfInBounds_toArray, List.set_cons_zero, List.set_cons_succ]
                    repeat (first
                      | (apply grow_val (by rfl); (focus (intro x; (go_simp; try with_reducible rfl); done)); simp only [Act.put, List.setIfInBounds_toArray, List.set_cons_zero, List.set_cons_succ])
                      | (apply grow_skip (by rfl); simp only [Act.put, List.setIfInBounds_toArray, List.set_cons_zero, List.set_cons_succ]))
                    apply grow_callF (by rfl)
                    · intro x hF K Q hK
                      have h6 := (hF12 _ (hF 12 (by kernel_rfl))).ints
                      go_simp
                      refine (scount_is _ _ P _ h6 HP.out).mono ?_
                      rintro e w' ⟨rfl, hb⟩
                      exact hK _ hb
                    simp only [Act.put, List.setIfInBounds_toArray, List.set_cons_zero, List.set_cons_succ]
                    repeat (first
                      | (apply grow_val (by rfl); (focus (intro x; (go_simp; try with_reducible rfl); done)); simp only [Act.put, List.setIfInBounds_toArray, List.set_cons_zero, List.set_cons_succ])
                      | (apply grow_skip (by rfl); simp only [Act.put, List.setIfInBounds_toArray, List.set_cons_zero, List.set_cons_succ]))
                    refine grow_nil ?_
                    rintro ⟨wb, hbb⟩ hF hS
                    have hbb : Below w13.heap.size w13 wb := hbb
                    have HMB := hid (HM13.out.nx hbb)
                    clear hF hS hbb
                    go_wp2
                    go_meet
                    exact ⟨true, q1 + 1, rfl, by omega, hid (fun _ => HL4.out), HMB⟩
                  · have hl4i : ¬ (xs.length : Int) < 4 := by omega
                    clear hl4
                    refine phase_last 7 26 (by kernel_rfl) (by decide) (Below.refl _ _) ?_
                    apply Exists.intro
                    intro vs
                    simp only [List.take_succ_cons, List.take_zero, List.drop_succ_cons, List.drop_zero]
                    repeat (first
                      | (apply grow_val (by rfl); (focus (intro x; (go_simp; try with_reducible rfl); done)); simp only [Act.put, List.setIfInBounds_toArray, List.set_cons_zero, List.set_cons_succ])
                      | (apply grow_skip (by rfl); simp only [Act.put, List.setIfInBounds_toArray, List.set_cons_zero, List.set_cons_succ]))
                    apply grow_ints (takenL E xs) (by rfl)
                    · intro x hF K Q hK
                      go_simp
                      go_at_call 167;(with_reducible refine (HPI.out x).mono ?_);rintro e w' ⟨v1, rfl, ho, hb⟩;exact hK _ _ hb ho
                    intro A12 c12 F12 O12 hF12 hO12
                    simp only [Act.put, List.setIfInBounds_toArray, List.set_cons_zero, List.set_cons_succ]
                    repeat (first
                      | (apply grow_val (by rfl); (focus (intro x; (go_simp; try with_reducible rfl); done)); simp only [Act.put, List.setIfInBounds_toArray, List.set_cons_zero, List.set_cons_succ])
                      | (apply grow_skip (by rfl); simp only [Act.put, List.setIfInBounds_toArray, List.set_cons_zero, List.set_cons_succ]))
                    apply grow_callF (by rfl)
                    · intro x hF K Q hK
                      have h6 := (hF12 _ (hF 12 (by kernel_rfl))).ints
                      go_simp
                      refine (scount_is _ _ P _ h6 HP.out).mono ?_
                      rintro e w' ⟨rfl, hb⟩
                      exact hK _ hb
                    simp only [Act.put, List.setIfInBounds_toArray, List.set_cons_zero, List.set_cons_succ]
                    repeat (first
                      | (apply grow_val (by rfl); (focus (intro x; (go_simp; try with_reducible rfl); done)); simp only [Act.put, List.setIfInBounds_toArray, List.set_cons_zero, List.set_cons_succ])
                      | (apply grow_skip (by rfl); simp only [Act.put, List.setIfInBounds_toArray, List.set_cons_zero, List.set_cons_succ]))
                    refine grow_nil ?_
                    rintro ⟨wb, hbb⟩ hF hS
                    have hbb : Below w13.heap.size w13 wb := hbb
                    have HMB := hid (HM13.out.nx hbb)
                    clear hF hS hbb
                    go_wp2
                    go_meet
                    exact ⟨false, q1 + 1, rfl, by omega, hid (by simp), HMB⟩
                · have hle' : 60 < IntKind.i64.wrap (P * X) := by omega
                  refine phase_last 7 26 (by kernel_rfl) (by decide) (Below.refl _ _) ?_
                  apply Exists.intro
                  intro vs
                  simp only [List.take_succ_cons, List.take_zero, List.drop_succ_cons, List.drop_zero]
                  repeat (first
                    | (apply grow_val (by rfl); (focus (intro x; (go_simp; try with_reducible rfl); done)); simp only [Act.put, List.setIfInBounds_toArray, List.set_cons_zero, List.set_cons_succ])
                    | (apply grow_skip (by rfl); simp only [Act.put, List.setIfInBounds_toArray, List.set_cons_zero, List.set_cons_succ]))
                  apply grow_ints (takenL E xs) (by rfl)
                  · intro x hF K Q hK
                    go_simp
                    go_at_call 167;(with_reducible refine (HPI.out x).mono ?_);rintro e w' ⟨v1, rfl, ho, hb⟩;exact hK _ _ hb ho
                  intro A12 c12 F12 O12 hF12 hO12
                  simp only [Act.put, List.setIfInBounds_toArray, List.set_cons_zero, List.set_cons_succ]
                  repeat (first
                    | (apply grow_val (by rfl); (focus (intro x; (go_simp; try with_reducible rfl); done)); simp only [Act.put, List.setIfInBounds_toArray, List.set_cons_zero, List.set_cons_succ])
                    | (apply grow_skip (by rfl); simp only [Act.put, List.setIfInBounds_toArray, List.set_cons_zero, List.set_cons_succ]))
                  apply grow_callF (by rfl)
                  · intro x hF K Q hK
                    have h6 := (hF12 _ (hF 12 (by kernel_rfl))).ints
                    go_simp
                    refine (scount_is _ _ P _ h6 HP.out).mono ?_
                    rintro e w' ⟨rfl, hb⟩
                    exact hK _ hb
                  simp only [Act.put, List.setIfInBounds_toArray, List.set_cons_zero, List.set_cons_succ]
                  repeat (first
                    | (apply grow_val (by rfl); (focus (intro x; (go_simp; try with_reducible rfl); done)); simp only [Act.put, List.setIfInBounds_toArray, List.set_cons_zero, List.set_cons_succ])
                    | (apply grow_skip (by rfl); simp only [Act.put, List.setIfInBounds_toArray, List.set_cons_zero, List.set_cons_succ]))
                  refine grow_nil ?_
                  rintro ⟨wb, hbb⟩ hF hS
                  have hbb : Below w13.heap.size w13 wb := hbb
                  have HMB := hid (HM13.out.nx hbb)
                  clear hF hS hbb
                  go_wp2
                  go_meet
                  exact ⟨false, q1 + 1, rfl, by omega, hid (by simp), HMB⟩
              · have h0i : ((r : Int) == 0) = false := by simp; omega
                clear h0
                refine phase_last 7 26 (by kernel_rfl) (by decide) (Below.refl _ _) ?_
                apply Exists.intro
                intro vs
                simp only [List.take_succ_cons, List.take_zero, List.drop_succ_cons, List.drop_zero]
                repeat (first
                  | (apply grow_val (by rfl); (focus (intro x; (go_simp; try with_reducible rfl); done)); simp only [Act.put, List.setIfInBounds_toArray, List.set_cons_zero, List.set_cons_succ])
                  | (apply grow_skip (by rfl); simp only [Act.put, List.setIfInBounds_toArray, List.set_cons_zero, List.set_cons_succ]))
                refine grow_nil ?_
                rintro ⟨wb, hbb⟩ hF hS
                have hbb : Below w13.heap.size w13 wb := hbb
                have HMB := hid (HM13.out.nx hbb)
                clear hF hS hbb
                go_wp2
                go_meet
                exact ⟨false, q1 + 1, rfl, by omega, hid (by simp), HMB⟩
            · have hF1 : F < 0 := by omega
              refine region_mk 26 (by kernel_rfl) (by kernel_rfl) ?_
              apply Exists.intro
              simp only [List.take_succ_cons, List.take_zero, List.drop_succ_cons, List.drop_zero]
              repeat (first
                | (apply grow_val (by rfl); (focus (intro x; (go_simp; try with_reducible rfl); done)); simp only [Act.put, List.setIfInBounds_toArray, List.set_cons_zero, List.set_cons_succ])
                | (apply grow_skip (by rfl); simp only [Act.put, List.setIfInBounds_toArray, List.set_cons_zero, List.set_cons_succ])
                | (apply grow_call (by rfl); (focus (intro x K Q hK; go_simp; (first | (go_at_call 129; (with_reducible refine (HPX.out x).mono ?_); rintro e w' ⟨rfl, hb⟩; exact hK _ hb)); done)); simp only [Act.put, List.setIfInBounds_toArray, List.set_cons_zero, List.set_cons_succ]))
              refine grow_nil ?_
              rintro ⟨wb, hbb⟩ hF hS
              have hbb : Below w12.heap.size w12 wb := hbb
              have HMB := hid (HM12.out.nx hbb)
              clear hF hS hbb
              go_wp2
              go_meet
              exact ⟨false, q1, rfl, by omega, hid (by simp), HMB⟩
          case rest =>
            obtain ⟨b, q2, rfl, hq2, HB4, HM14⟩ := hcut
            obtain ⟨w14, rfl⟩ : ∃ w14, w14 = wc := ⟨_, rfl⟩
            clear HM12
            cases b
            · go_wp2
              go_roundg (5 - (c + 1))
              case measure => omega
              case rel => exact ⟨c + 1, q2, xs, by omega, rfl, by congr 1, by omega, HX, HM14.out⟩
            · have hx4 : xs.length < 4 := HB4.out rfl
              have hP := pick_any N g q2 (xs.length + 1) _ HM14.out.rd (by omega) (by omega)
              rw [show (((xs.length + 1 : Nat)) : Int) = (xs.length : Int) + 1 by omega] at hP
              have HP := hid hP
              have hw1 : IntKind.i64.wrap ((xs.length : Int) + 1) = (xs.length : Int) + 1 := IntWalk.i64_in _ (by omega)
              clear hP HB4
              go_wp2_with fail
              refine HP.out.mono ?_; rintro e w15 ⟨r, rfl, hr, hR, hG⟩
              have HM15 := hid (HM14.out.ate hR hG)
              clear hR hG HP HM14
              go_wp2_with fail
              refine (insert_any _ xs r (c : Int) _ (HM15.out.ints 0 rfl).ints (by omega) (by omega)).mono ?_; rintro e w16 ⟨v, rfl, ho, hb⟩
              have H16 := HM15.out.op (HM15.out.hp.row ho hb)
              have HM16 : Hid (Hs N g (q2 + 1) w w16 (.ints v (insAt xs r (c : Int)) :: pI (.slice (some ⟨gE, 0, none⟩) 5 5) u8 u9 u10 E all ts ls)) :=
                hid ((H16.perm (List.perm_append_comm (l₂ := [Itm.ints v (insAt xs r (c : Int))]))).sub (List.Sublist.cons_cons _ (List.sublist_cons_self _ _)))
              have HXI := hid (show (insAt xs r (c : Int)).length ≤ 4 ∧ ∀ x ∈ insAt xs r (c : Int), 0 ≤ x ∧ x < 5 from by
                refine ⟨by simp [insAt]; omega, fun x hx => ?_⟩
                simp only [insAt, List.mem_append, List.mem_cons] at hx
                rcases hx with h | h | h
                · exact HX.out.2 x (List.mem_of_mem_take h)
                · omega
                · exact HX.out.2 x (List.mem_of_mem_drop h))
              clear ho hb H16 HM15
              go_wp2
              go_roundg (5 - (c + 1))
              case measure => omega
              case rel => exact ⟨c + 1, q2 + 1, insAt xs r (c : Int), by omega, rfl, by congr 1, by omega, HXI, HM16.out⟩
        · have hci : ¬ (c : Int) < 5 := by omega
          go_wp2_with fail
          refine (pick_any _ _ (q1) 24 _ HM12.out.rd (by omega) (by omega)).mono ?_; rintro e w13 ⟨r, rfl, hr, hR, hG⟩
          have HM13 := hid (HM12.out.ate hR hG)
          clear hR hG
          clear HM12
          have HTl : Hid (0 < ts.length ∧ 0 < ls.length) := hid ⟨by have := HN.out.1; omega, by have := HN.out.2.1; omega⟩
          by_cases h0 : r = 0
          · have h0i : ((r : Int) == 0) = true := by simp [h0]
            clear h0
            have hL : Own (w13.alloc (.cells #[.int .i64 4, .int .i64 (-1), .int .i64 5] 3)) w13.heap.size (.slice (some ⟨w13.heap.size, 0, none⟩) 3 3) [4, -1, 5] := own_lit w13 [4, -1, 5] (by simp)
            have HA := hid (HM13.out.nx (below_alloc w13 (.cells #[.int .i64 4, .int .i64 (-1), .int .i64 5] 3)))
            have HE := hid (HM13.out.rd.lit 3 3)
            go_wp2_with fail
            refine (one_any _ _ (q1 + 1) _ _ _ _ HA.out.rd (by omega) hL (by simp) HE.out).mono ?_; rintro e w14 ⟨r, hr, rfl, hR, hG⟩
            have HM14 := hid (HA.out.ate hR hG)
            obtain ⟨y, ey, hy⟩ : ∃ y : Int, [4, -1, 5][r] = y ∧ y ∈ ([4, -1, 5] : List Int) := ⟨_, rfl, List.getElem_mem hr⟩
            rw [ey]
            clear hR hG ey hr hL HA HE
            have HLX := hid (show xs.length ≤ 1000000000000 by omega)
            go_wp2_with (at_builtin; refine app1 _ rfl _ _ rfl w.heap.size _ xs rfl ((HM14.out.ints 0 rfl).alloc _) ⟨w14.heap.size, 0, none⟩ 1 y rfl (cell_new1 _ _ _) HLX.out (le_alloc HM14.out.sz _) ?_)
            intro v9 w9 ho9 hg9 hat9
            rw [← World.size_alloc w14 (.cells #[.int .i64 y] 3)] at hat9
            have H9 := HM14.out.nx (below_alloc w14 (.cells #[.int .i64 y] 3))
            have H9 : Hid (Hs N g (q1 + 1 + 1) w w9 (.ints v9 (xs ++ [y]) :: pI (.slice (some ⟨gE, 0, none⟩) 5 5) u8 u9 u10 E all ts ls)) := hid (H9.op (H9.hp.grown 0 rfl ho9 hg9 hat9))
            have HF := hid (prod_done H9.out (vt := u8) (vl := u9) (ts := ts) (ls := ls) (by simp [pI]) (by simp [pI]) (fun i hi => by simp [pI, hi]) (fun i hi => by simp [pI, hi]) v9)
            clear ho9 hg9 hat9 H9
            go_wp2
            refine bodyPost_ret (v := .tuple #[u8, u9, v9]) (by simp [results, Try.results145, go_sem]) rfl ?_
            exact HF.out
          · have h0i : ((r : Int) == 0) = false := by simp; omega
            by_cases h1 : r = 1
            · have h1i : ((r : Int) == 1) = true := by simp [h1]
              clear h0 h1
              obtain ⟨⟨u0, xs0⟩, ls', rfl⟩ : ∃ l ls', ls = l :: ls' := by
                cases ls with
                | nil => have := HTl.out.2; simp at this
                | cons l ls' => exact ⟨l, ls', rfl⟩
              obtain ⟨gR, cR, hR9, -, -⟩ := (HM13.out.rowAt 3 rfl).form HTl.out.2
              subst hR9
              have HM14 := hid (pI_label HM13.out)
              obtain ⟨A0, c0, e0⟩ := (HM14.out.ints 0 rfl).form
              subst e0
              have HLX := hid (show xs0.length ≤ 1000000000000 by have := HN.out.2.2.2 _ (List.mem_cons_self ..); simp only at this; omega)
              have HRW : w13.ownsRow w.heap.size 23 1 (.slice (some ⟨gR, 0, none⟩) (ls'.length + 1) cR) (ls'.length + 1) (.slice A0 xs0.length c0 :: lU ls') := HM14.out.rowAt 4 rfl
              have x0 : w13.cell? ⟨gR, 0, none⟩ = some (.slice A0 xs0.length c0) := HRW.cellAt 0 (by omega)
              have x1 : (w13.alloc (.cells #[.int .i64 1] 3)).cell? ⟨gR, 0, none⟩ = some (.slice A0 xs0.length c0) := (HRW.alloc _).cellAt 0 (by omega)
              have hlr : (0 : Int) < (ls'.length : Int) + 1 := by omega
              clear HM13
              go_wp2_with (at_builtin; refine app1 _ rfl _ _ rfl w.heap.size _ xs0 rfl ((HM14.out.ints 0 rfl).alloc _) ⟨w13.heap.size, 0, none⟩ 1 1 rfl (cell_new1 _ _ _) HLX.out (le_alloc HM14.out.sz _) ?_)
              intro v9 w9 ho9 hg9 hat9
              rw [← World.size_alloc w13 (.cells #[.int .i64 1] 3)] at hat9
              have H9 := HM14.out.nx (below_alloc w13 (.cells #[.int .i64 1] 3))
              have H9 : Hid (Hs N g (q1 + 1) w w9 (.ints v9 (xs0 ++ [1]) :: .ints (.slice A3 xs.length c3) xs :: pK (.slice (some ⟨gE, 0, none⟩) 5 5) u8 (.slice (some ⟨gR, 0, none⟩) (ls'.length + 1) cR) u10 E all ts.length (tU ts) (ls'.length + 1) (.slice A0 xs0.length c0 :: lU ls') (tI ts ++ lI ls'))) :=
                hid (H9.op (H9.hp.grown 0 rfl ho9 hg9 hat9))
              obtain ⟨A8, c8, e8⟩ := ho9.form
              rw [List.length_append, List.length_singleton] at e8
              subst e8
              clear x0 x1 HRW HM14
              have HRW : w9.ownsRow w.heap.size 23 1 (.slice (some ⟨gR, 0, none⟩) (ls'.length + 1) cR) (ls'.length + 1) (.slice A0 xs0.length c0 :: lU ls') := H9.out.rowAt 4 rfl
              have x0 : w9.cell? ⟨gR, 0, none⟩ = some (.slice A0 xs0.length c0) := HRW.cellAt 0 (by omega)
              have xf := HRW.frozenAt 0
              have H10 : Hid (Hs N g (q1 + 1) w (w9.setCell ⟨gR, 0, none⟩ (.slice A8 (xs0.length + 1) c8)) (.ints (.slice A8 (xs0.length + 1) c8) (xs0 ++ [1]) :: .ints (.slice A3 xs.length c3) xs :: pK (.slice (some ⟨gE, 0, none⟩) 5 5) u8 (.slice (some ⟨gR, 0, none⟩) (ls'.length + 1) cR) u10 E all ts.length (tU ts) (ls'.length + 1) (.slice A8 (xs0.length + 1) c8 :: lU ls') (tI ts ++ lI ls'))) :=
                hid (H9.out.op (H9.out.hp.rowStore 4 rfl 0 (.slice A8 (xs0.length + 1) c8)))
              have HF := hid (prod_done H10.out (vt := u8) (vl := .slice (some ⟨gR, 0, none⟩) (ls'.length + 1) cR) (ts := ts) (ls := (.slice A8 (xs0.length + 1) c8, xs0 ++ [1]) :: ls') (by simp [pK]) (by simp [pK, lU]) (fun i hi => by simp [pK, hi]) (fun i hi => by simp [lI] at hi; simp [pK, lI]; rcases hi with h | h; exact .inl h; exact .inr (.inr (.inr (.inr (.inr (.inr (.inr h))))))) (.slice A3 xs.length c3))
              clear ho9 hg9 hat9 H9 HRW
              go_wp2
              refine bodyPost_ret (v := .tuple #[u8, .slice (some ⟨gR, 0, none⟩) (ls'.length + 1) cR, .slice A3 xs.length c3]) (by simp [results, Try.results145, go_sem]) rfl ?_
              exact HF.out
            · have h1i : ((r : Int) == 1) = false := by simp; omega
              by_cases h2 : r = 2
              · have h2i : ((r : Int) == 2) = true := by simp [h2]
                clear h0 h1 h2
                obtain ⟨⟨s0, t0, T0⟩, ts', rfl⟩ : ∃ l ts', ts = l :: ts' := by
                  cases ts with
                  | nil => have := HTl.out.1; simp at this
                  | cons l ts' => exact ⟨l, ts', rfl⟩
                obtain ⟨gR, cR, hR9, -, -⟩ := (HM13.out.rowAt 2 rfl).form HTl.out.1
                subst hR9
                have hlr : (0 : Int) < (ts'.length : Int) + 1 := by omega
                go_wp2_with fail
                refine (someTensor_any N g (q1 + 1) _ HM13.out.rd (by omega)).mono ?_; rintro e w14 ⟨sv, tv, T, q2, rfl, hl1, hl2, hO1, hO2, hsp, hq2, hR, hG⟩
                obtain ⟨A1, c1, e1⟩ := hO1.form
                subst e1
                obtain ⟨A2, c2, e2⟩ := hO2.form
                subst e2
                have HM14 := hid (HM13.out.tensd hO1 hO2 hsp hR hG)
                clear hO1 hO2 hsp hR hG hl1 hl2 HM13
                have HRW : w14.ownsRow w.heap.size 75 2 (.slice (some ⟨gR, 0, none⟩) (ts'.length + 1) cR) (ts'.length + 1) (s0 :: t0 :: tU ts') := HM14.out.rowAt 2 rfl
                have x0 : w14.cell? ⟨gR, 0, none⟩ = some s0 := HRW.cellAt 0 (by omega)
                have x1 : w14.cell? ⟨gR, 1, none⟩ = some t0 := HRW.cellAt 1 (by omega)
                have xf := HRW.frozenAt 0
                have xg := HRW.frozenAt 1
                have H9 := HM14.out.op (HM14.out.hp.rowStore 2 rfl 0 (.slice A1 T.shape.length c1))
                have H10 := H9.op (H9.hp.rowStore 2 rfl 1 (.slice A2 T.values.length c2))
                have H11 : Hid (Hs N g q2 w ((w14.setCell ⟨gR, 0, none⟩ (.slice A1 T.shape.length c1)).setCell ⟨gR, 1, none⟩ (.slice A2 T.values.length c2)) ((.ints (.slice A3 xs.length c3) xs :: pK (.slice (some ⟨gE, 0, none⟩) 5 5) (.slice (some ⟨gR, 0, none⟩) (ts'.length + 1) cR) u9 u10 E all (ts'.length + 1) (.slice A1 T.shape.length c1 :: .slice A2 T.values.length c2 :: tU ts') ls.length (lU ls) (tI ((s0, t0, T0) :: ts') ++ lI ls)) ++ [.ints (.slice A1 T.shape.length c1) T.shape, .ints (.slice A2 T.values.length c2) T.values])) := hid H10
                have HF := hid (prod_done H11.out (vt := .slice (some ⟨gR, 0, none⟩) (ts'.length + 1) cR) (vl := u9) (ts := (.slice A1 T.shape.length c1, .slice A2 T.values.length c2, T) :: ts') (ls := ls) (by simp [pK, tU]) (by simp [pK])
                  (fun i hi => by
                    simp only [tI, List.flatMap_cons, List.mem_append] at hi ⊢
                    rcases hi with hi | hi
                    · exact .inr hi
                    · refine .inl ?_
                      simp only [pK, List.mem_cons, List.mem_append]
                      exact .inr (.inr (.inr (.inr (.inr (.inl (.inr hi)))))))
                  (fun i hi => by simp [pK, hi]) (.slice A3 xs.length c3))
                clear H9 H10 HRW
                go_wp2
                refine bodyPost_ret (v := .tuple #[.slice (some ⟨gR, 0, none⟩) (ts'.length + 1) cR, u9, .slice A3 xs.length c3]) (by simp [results, Try.results145, go_sem]) rfl ?_
                exact HF.out
              · have h2i : ((r : Int) == 2) = false := by simp; omega
                have HF := hid (prod_done HM13.out (vt := u8) (vl := u9) (ts := ts) (ls := ls) (by simp [pI]) (by simp [pI]) (fun i hi => by simp [pI, hi]) (fun i hi => by simp [pI, hi]) (.slice A3 xs.length c3))
                go_wp2
                refine bodyPost_ret (v := .tuple #[u8, u9, .slice A3 xs.length c3]) (by simp [results, Try.results145, go_sem]) rfl ?_
                exact HF.out

end Go.Proofs.Ytldblcolnjkcaaa

/-! ## EX4w -/
namespace Go.Proofs.Ytldblcolnjkcaaa
open Go.RowKit

set_option maxRecDepth 100000 in
set_option maxHeartbeats 6400000 in
theorem DrawExtentsOf_any (v : Value) (n : Nat) (w : World) (h : BytesV w v n) :
    Calls Try.prog 82 #[v] w (RetDrawTL w) := by
  go_enter Try.func82, Try.ntmps82
  go_wp2_with fail
  refine (newReader_any _ n _ h).mono ?_; rintro e w1 ⟨rfl, hR, hb1, hlt⟩
  have HM1 := hid (Hs.start hR)
  have HB := hid hb1
  obtain ⟨g, hg⟩ : ∃ g, g = w.heap.size := ⟨_, rfl⟩
  rw [← hg] at HM1 ⊢
  have HG := hid hg
  clear hR hb1 hlt hg
  have hL : Own (w1.alloc (.cells #[.int .i64 2, .int .i64 1, .int .i64 3] 3)) w1.heap.size (.slice (some ⟨w1.heap.size, 0, none⟩) 3 3) [2, 1, 3] := own_lit w1 [2, 1, 3] (by simp)
  have HA := hid (HM1.out.nx (below_alloc w1 (.cells #[.int .i64 2, .int .i64 1, .int .i64 3] 3)))
  have HE := hid (HM1.out.rd.lit 3 3)
  go_wp2_with fail
  refine (one_any _ _ (0) _ _ _ _ HA.out.rd (by omega) hL (by simp) HE.out).mono ?_; rintro e w2 ⟨r, hr, rfl, hR, hG⟩
  have HM2 := hid (HA.out.ate hR hG)
  obtain ⟨y, ey, hy⟩ : ∃ y : Int, [2, 1, 3][r] = y ∧ y ∈ ([2, 1, 3] : List Int) := ⟨_, rfl, List.getElem_mem hr⟩
  rw [ey]
  clear hR hG ey hr hL HA HE
  obtain ⟨k, hk, hk3⟩ : ∃ k : Nat, y = (k : Int) ∧ 1 ≤ k ∧ k ≤ 3 := ⟨y.toNat, by simp at hy; omega, by simp at hy; omega⟩
  subst hk
  clear hy
  go_wp2_with fail
  refine (productOf_any _ g (0 + 1) k _ HM2.out.rd (by omega) hk3).mono ?_; rintro e w3 ⟨xs, lss, vt, vl, vo, rfl, hT, hL, hG⟩
  have HF := hid (HB.out.trans (Own.below (HM2.out.grew.trans hG) HB.out.size (fun k e => by have := HG.out; injection e with e; omega)))
  have HT := hid hT
  have HL := hid hL
  clear hT hL hG HM1 HM2
  go_wp2
  refine bodyPost_ret (v := .tuple #[vt, vl]) (by simp [results, Try.results82, go_sem]) rfl ?_
  exact ⟨xs, lss, vt, vl, rfl, HT.out, HL.out, HF.out⟩

theorem FnExtentsOf_walk (v : Value) (n : Nat) (w : World) (h : BytesV w v n) :
    Calls Try.prog 13 #[v] w fun e w' => e = .returned (.bool true) ∧ Below w.heap.size w w' :=
  FnExtentsOf_core v n w h (hid (DrawExtentsOf_any v n w h))

end Go.Proofs.Ytldblcolnjkcaaa
