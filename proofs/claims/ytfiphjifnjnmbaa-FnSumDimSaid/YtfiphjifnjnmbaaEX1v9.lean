/- The contracts of the reference's extents of labels. No conditions. -/
import Derived.Test.YtfiphjifnjnmbaaEXpv9
import Derived.Test.YtfiphjifnjnmbaaRT
import Derived.Test.YtfiphjifnjnmbaaLL
import Derived.Test.YtfiphjifnjnmbaaIE
import Derived.Test.YtfiphjifnjnmbaaSR
import Derived.Deep.Cut
import Derived.Deep.LoopGhost
namespace Go.Proofs.Ytfiphjifnjnmbaa
open Go.RowKit

/-- What a function that returns a new list and whether there is one leaves. -/
def RetExtB (w : World) (xs : List Int) (b : Bool) (e : Ending) (w' : World) : Prop := ∃ r, e = .returned (.tuple #[r, .bool b]) ∧ Own w' w.heap.size r xs ∧ Below w.heap.size w w'

set_option maxRecDepth 100000 in
set_option maxHeartbeats 6400000 in
theorem validTensors_any (v vl : Value) (xs : List TL) (lss : List (List Int)) (w : World) (h : TensorsV w v xs) (hl : IntsS w vl lss) :
    Calls Try.prog 66 #[v, vl] w fun e w' => e = .returned (.bool (okTs xs lss)) ∧ Below w.heap.size w w' := by
  obtain ⟨A, c, rfl, hk, hm⟩ := h.form
  obtain ⟨Al, cl, rfl, hkl, hml⟩ := hl.form
  clear hl
  go_enter Try.func66, Try.ntmps66
  go_wp2_with fail
  go_loopg [5] xs.length (fun g i wr => ∃ k : Nat, k ≤ xs.length ∧ g = xs.length - k ∧ i = .int .i64 k ∧ Hid ((xs.take k).all isTensorL = true) ∧ Below w.heap.size w wr)
  case atStart => exact ⟨0, Nat.zero_le _, rfl, rfl, hid (by simp), Below.refl _ _⟩
  case round =>
    obtain ⟨k, hk1, rfl, rfl, HA, hb⟩ := hrel
    by_cases hlt : k < xs.length
    · obtain ⟨b, off, u1, u2, rfl, x0, x1, hT⟩ := (h.ext hb).at_ k hlt
      have hki : (k : Int) < (xs.length : Int) := by omega
      have HS := hid (allT_snoc isTensorL xs k hlt HA.out)
      have HF := hid (fun hp => allT_false isTensorL xs k hlt hp)
      clear HA
      go_wp2_with fail
      refine (validTensor_any _ xs[k] _ hT).mono ?_; rintro e w1 ⟨rfl, hb1⟩
      have hq := hb.nx hb1 hb.size
      clear hT x0 x1 hb1
      cases hp : isTensorL xs[k]
      · have HQ := hid (show okTs xs lss = false by unfold okTs; rw [HF.out hp]; rfl)
        clear hp
        go_wp2
        go_ret
        exact ⟨ret_bool HQ.out.symm, hq⟩
      · rw [hp] at HS
        clear hp
        go_wp2
        go_roundg (xs.length - (k + 1))
        case measure => omega
        case rel => exact ⟨k + 1, by omega, rfl, by go_num, HS, hq⟩
    · obtain rfl : xs.length = k := by omega
      rw [List.take_of_length_le (Nat.le_refl _)] at HA
      by_cases h13 : 1 ≤ xs.length ∧ xs.length ≤ 3
      · have HI := hid (show inR (xs.length : Int) 1 3 = true from inR_yes (by omega) (by omega))
        by_cases hll : lss.length = xs.length
        · have HQ := hid (show okTs xs lss = true by unfold okTs; rw [HA.out]; simp [h13, hll])
          have hne : (((lss.length : Nat) : Int) == ((xs.length : Nat) : Int)) = true := by simp [hll]
          clear hll
          go_wp2_with fail
          refine (inRange_any _ _ _ _).mono ?_; rintro e w' ⟨rfl, rfl⟩
          rw [HI.out]
          go_wp2
          go_ret
          exact ⟨ret_bool HQ.out.symm, hb⟩
        · have HQ := hid (show okTs xs lss = false by unfold okTs; simp [hll])
          have hne : (((lss.length : Nat) : Int) == ((xs.length : Nat) : Int)) = false := by simp; omega
          clear hll
          go_wp2_with fail
          refine (inRange_any _ _ _ _).mono ?_; rintro e w' ⟨rfl, rfl⟩
          rw [HI.out]
          go_wp2
          go_ret
          exact ⟨ret_bool HQ.out.symm, hb⟩
      · have HI := hid (show inR (xs.length : Int) 1 3 = false from inR_no (by omega))
        have HQ := hid (show okTs xs lss = false by
          unfold okTs
          have : (decide (1 ≤ xs.length) && decide (xs.length ≤ 3)) = false := by rw [Bool.and_eq_false_iff, decide_eq_false_iff_not, decide_eq_false_iff_not]; omega
          rw [this]; simp)
        go_wp2_with fail
        refine (inRange_any _ _ _ _).mono ?_; rintro e w' ⟨rfl, rfl⟩
        rw [HI.out]
        go_wp2
        go_ret
        exact ⟨ret_bool HQ.out.symm, hb⟩

set_option maxRecDepth 100000 in
set_option maxHeartbeats 6400000 in
theorem extents_any (v vl : Value) (xs : List TL) (lss : List (List Int)) (w : World) (h : TensorsV w v xs) (hl : IntsS w vl lss) (hok : okTs xs lss = true) :
    Calls Try.prog 81 #[v, vl] w (RetExtB w (extentsL xs lss) (okExtents xs lss)) := by
  obtain ⟨A, c, rfl, hk, hm⟩ := h.form
  obtain ⟨Al, cl, rfl, hkl, hml⟩ := hl.form
  have HR := hid (show extentsR xs lss = extTo xs lss xs.length by simp [extentsR, hok])
  have HLL := hid (show lss.length = xs.length ∧ xs.length ≤ 3 by simp only [okTs, Bool.and_eq_true, decide_eq_true_eq] at hok; exact ⟨hok.2, hok.1.2.2⟩)
  clear hok
  go_enter Try.func81, Try.ntmps81
  have HE := hid (Own.empty w (B := w.heap.size) rfl (Nat.le_refl _))
  have HB0 := hid (below_alloc w (.cells #[] 3))
  go_wp2_with fail
  go_loopg [6, 7] 5 (fun g out i wr => ∃ k : Nat, k ≤ 5 ∧ g = 5 - k ∧ i = .int .i64 k ∧ Own wr w.heap.size out (List.replicate k (-1)) ∧ Below w.heap.size w wr)
  case atStart => exact ⟨0, Nat.zero_le _, rfl, rfl, HE.out, HB0.out⟩
  case round =>
    obtain ⟨k, hk1, rfl, rfl, hown, hb⟩ := hrel
    clear HE HB0
    have HO := hid hown
    obtain ⟨A1, c1, e1⟩ := hown.form
    rw [List.length_replicate] at e1
    subst e1
    clear hown
    have hsz := hb.size
    by_cases hlt : k < 5
    · have hki : (k : Int) ≤ 4 := by omega
      have HL1 := hid (show (List.replicate k (-1 : Int)).length ≤ 1000000000000 by simp; omega)
      have HU := hid (show List.replicate (k + 1) (-1 : Int) = List.replicate k (-1) ++ [-1] from List.replicate_succ')
      go_wp2_with (at_builtin; refine app1 _ rfl _ _ rfl w.heap.size _ (List.replicate k (-1)) rfl (HO.out.alloc _) ⟨wr.heap.size, 0, none⟩ 1 (-1) rfl (cell_new1 _ _ _) HL1.out (le_alloc hsz _) ?_)
      intro v1 w1 ho1 hg1 hat1
      have hq := hb.trans (((below_alloc wr (.cells #[.int .i64 (-1)] 3)).mono hsz).trans ((HO.out.alloc _).under hg1 (le_alloc hsz _)))
      clear hg1 hat1
      go_wp2
      go_roundg (5 - (k + 1))
      case measure => omega
      case rel => exact ⟨k + 1, by omega, rfl, by go_num, by rw [HU.out]; exact ho1, hq⟩
    · obtain rfl : k = 5 := by omega
      have hki : ¬ (5 : Int) ≤ 4 := by omega
      have HO2 := hid (show Own wr w.heap.size _ ext0 from HO.out)
      have HBw := hid hb
      clear HO
      obtain ⟨g1, cp, e1, hgB, hgl⟩ := HO2.out.row (by simp [ext0])
      simp only [Value.slice.injEq] at e1
      obtain ⟨rfl, -, rfl⟩ := e1
      obtain ⟨wz, rfl⟩ : ∃ wz : World, wz = wr := ⟨_, rfl⟩
      clear hb hsz
      go_upto_region 7 with fail
      go_loopg [8] xs.length (fun m z wr => ∃ (k : Nat) (o : List Int), k ≤ xs.length ∧ m = xs.length - k ∧ z = .int .i64 k ∧ Hid (extTo xs lss k = some o) ∧ Own wr w.heap.size (.slice (some ⟨g1, 0, none⟩) 5 c1) o ∧ Below w.heap.size w wr)
      case atStart => exact ⟨0, ext0, Nat.zero_le _, rfl, rfl, hid rfl, HO2.out, HBw.out⟩
      case round =>
        obtain ⟨k, o, hk1, rfl, rfl, HX, hown, hb⟩ := hrel
        clear HO2 HBw
        have HO := hid hown
        have HB := hid hb
        have hsz := hb.size
        clear hown
        by_cases hlt : k < xs.length
        · have hkl : k < lss.length := by rw [HLL.out.1]; exact hlt
          obtain ⟨b, off, u1, u2, rfl, x0, x1, hT⟩ := h.at_ k hlt
          obtain ⟨bl, ol, ul, rfl, y0, hu⟩ := hl.elem k hkl
          obtain ⟨s1, t1, ev, hs, -⟩ := hT
          have ev1 : u1 = s1 := by have : u1 = s1 ∧ u2 = t1 := by simpa using ev
                                   exact this.1
          subst ev1
          obtain ⟨As, cs, es⟩ := hs.form
          obtain ⟨Au, cu, eu⟩ := hu.form
          subst es eu
          clear ev x1 hb
          have hki : (k : Int) < (xs.length : Int) := by omega
          have hkli : (k : Int) < (lss.length : Int) := by omega
          have HBAD := hid (fun hf => extTo_bad (k := k) HX.out hlt hkl hf)
          have HFIT := hid (fun hf => extTo_fit (k := k) HX.out hlt hkl hf)
          have HOL := hid (extTo_length HX.out)
          have HCUT := hid (fun e => no_extents (extentsR_cut (xs := xs) (lss := lss) (k := k + 1) e (by omega)))
          obtain ⟨ls, els⟩ : ∃ ls, lss[k] = ls := ⟨_, rfl⟩
          obtain ⟨T, eT⟩ : ∃ T, xs[k] = T := ⟨_, rfl⟩
          rw [els] at hu y0 HBAD HFIT
          rw [eT] at hs x0 HBAD HFIT
          clear els eT
          have HHS := hid hs
          have HHU := hid hu
          have hlm : ls.length ≤ 9223372036854775807 := by
            obtain ⟨_, _, _, h1, h2, _⟩ := HHU.out
            unfold maxLen at h2
            omega
          have X0 := hid x0
          have Y0 := hid y0
          have x0 := (HB.out.cell (p := ⟨b, off + k * 2, none⟩) (World.block_lt_of_cell? _ _ x0)).trans x0
          have y0 := (HB.out.cell (p := ⟨bl, ol + k, none⟩) (World.block_lt_of_cell? _ _ y0)).trans y0
          have hsr := HHS.out.ext HB.out
          have hur := HHU.out.ext HB.out
          have HHR := hid hur
          clear hs hu hsr hur HX
          have qx := fun x : ExtW wr => (x.h.cell (p := ⟨b, off + k * 2, none⟩) (World.block_lt_of_cell? _ _ x0)).trans x0
          have qy := fun x : ExtW wr => (x.h.cell (p := ⟨bl, ol + k, none⟩) (World.block_lt_of_cell? _ _ y0)).trans y0
          by_cases hle : ls.length = T.shape.length
          case neg =>
            have hne : (((ls.length : Nat) : Int) != ((T.shape.length : Nat) : Int)) = true := by simp; omega
            have HN := hid (HCUT.out (HBAD.out (by simp [fitT, hle])))
            clear HBAD HFIT HCUT hle
            go_upto_region 9 with fail
            refine region_mk 20 (by kernel_rfl) (by kernel_rfl) ?_
            apply Exists.intro
            simp only [List.take_succ_cons, List.take_zero, List.drop_succ_cons, List.drop_zero]
            repeat (first
              | (apply grow_val (by rfl); (focus (intro x; (go_simp; try with_reducible rfl); done)); simp only [Act.put, List.setIfInBounds_toArray, List.set_cons_zero, List.set_cons_succ])
              | (apply grow_skip (by rfl); simp only [Act.put, List.setIfInBounds_toArray, List.set_cons_zero, List.set_cons_succ]))
            refine grow_nil ?_
            rintro ⟨w2, hb2⟩ - -
            have hb2 : Below wr.heap.size wr w2 := hb2
            have hq := HB.out.nx hb2 hsz
            clear qx qy x0 y0
            go_wp2
            refine bodyPost_ret (v := .tuple #[.slice none 0 0, .bool false]) (by simp [results, Try.results81, go_sem]) rfl ?_
            exact ⟨_, by rw [HN.out.2], by rw [HN.out.1]; exact Own.nil _ _, hq⟩
          have hne : (((ls.length : Nat) : Int) != ((T.shape.length : Nat) : Int)) = false := by simp; omega
          have HLE := hid hle
          cases hal : ls.all isLabel
          · have HN := hid (HCUT.out (HBAD.out (by simp [fitT, hal])))
            have HA : ∀ x : ExtW wr, Calls Try.prog 65 #[.slice Au ls.length cu, .int .i64 0, .int .i64 4] x.v fun e w' => e = .returned (.bool false) ∧ Below x.v.heap.size x.v w' := fun x => (allIn_any _ ls 0 4 x.v (HHR.out.ext x.h)).mono fun _ _ h => ⟨by rw [h.1]; exact ret_bool hal, h.2 ▸ Below.refl _ _⟩
            have HA := hid HA
            clear HBAD HFIT HCUT hle hal
            go_upto_region 9 with fail
            refine region_mk 20 (by kernel_rfl) (by kernel_rfl) ?_
            apply Exists.intro
            simp only [List.take_succ_cons, List.take_zero, List.drop_succ_cons, List.drop_zero]
            repeat (first
              | (apply grow_val (by rfl); (focus (intro x; (go_simp; try with_reducible rfl); done)); simp only [Act.put, List.setIfInBounds_toArray, List.set_cons_zero, List.set_cons_succ])
              | (apply grow_skip (by rfl); simp only [Act.put, List.setIfInBounds_toArray, List.set_cons_zero, List.set_cons_succ])
              | (apply grow_call (by rfl); (focus (intro x K Q hK; go_simp; (first | (go_at_call 65; (with_reducible refine (HA.out x).mono ?_); rintro e w' ⟨rfl, hb⟩; exact hK _ hb)); done)); simp only [Act.put, List.setIfInBounds_toArray, List.set_cons_zero, List.set_cons_succ]))
            refine grow_nil ?_
            rintro ⟨w2, hb2⟩ - -
            have hb2 : Below wr.heap.size wr w2 := hb2
            have hq := HB.out.nx hb2 hsz
            clear qx qy x0 y0
            go_wp2
            refine bodyPost_ret (v := .tuple #[.slice none 0 0, .bool false]) (by simp [results, Try.results81, go_sem]) rfl ?_
            exact ⟨_, by rw [HN.out.2], by rw [HN.out.1]; exact Own.nil _ _, hq⟩
          have HA : ∀ x : ExtW wr, Calls Try.prog 65 #[.slice Au ls.length cu, .int .i64 0, .int .i64 4] x.v fun e w' => e = .returned (.bool true) ∧ Below x.v.heap.size x.v w' := fun x => (allIn_any _ ls 0 4 x.v (HHR.out.ext x.h)).mono fun _ _ h => ⟨by rw [h.1]; exact ret_bool hal, h.2 ▸ Below.refl _ _⟩
          have HA := hid HA
          have hfit : fitT T ls = true := by simp [fitT, hal, hle]
          have HRG := hid (fitT_and hfit).2
          have HNX := hid (HFIT.out hfit)
          clear HBAD HFIT hle hal hfit
          go_upto_region 9 with fail
          refine region_mk 20 (by kernel_rfl) (by kernel_rfl) ?_
          apply Exists.intro
          simp only [List.take_succ_cons, List.take_zero, List.drop_succ_cons, List.drop_zero]
          repeat (first
            | (apply grow_val (by rfl); (focus (intro x; (go_simp; try with_reducible rfl); done)); simp only [Act.put, List.setIfInBounds_toArray, List.set_cons_zero, List.set_cons_succ])
            | (apply grow_skip (by rfl); simp only [Act.put, List.setIfInBounds_toArray, List.set_cons_zero, List.set_cons_succ])
            | (apply grow_call (by rfl); (focus (intro x K Q hK; go_simp; (first | (go_at_call 65; (with_reducible refine (HA.out x).mono ?_); rintro e w' ⟨rfl, hb⟩; exact hK _ hb)); done)); simp only [Act.put, List.setIfInBounds_toArray, List.set_cons_zero, List.set_cons_succ]))
          refine grow_nil ?_
          rintro ⟨w2, hb2⟩ - -
          have hb2 : Below wr.heap.size wr w2 := hb2
          clear qx qy HA
          have HB2 := hid (HB.out.nx hb2 hsz)
          have HO2 := hid (HO.out.ext hb2)
          have y0 := (hb2.cell (p := ⟨bl, ol + k, none⟩) (World.block_lt_of_cell? _ _ y0)).trans y0
          clear hb2 HB HO x0 HHR
          obtain ⟨wo, rfl⟩ : ∃ wo : World, wo = w2 := ⟨_, rfl⟩
          go_upto_region 12 with fail
          go_loopg [9] ls.length (fun m z wr => ∃ (d : Nat) (q : List Int), d ≤ ls.length ∧ m = ls.length - d ∧ z = .int .i64 d ∧ Hid (extD o ls T.shape d = some q) ∧ Own wr w.heap.size (.slice (some ⟨g1, 0, none⟩) 5 c1) q ∧ Below w.heap.size w wr)
          case atStart => exact ⟨0, o, Nat.zero_le _, rfl, rfl, hid rfl, HO2.out, HB2.out⟩
          case round =>
            obtain ⟨d, q, hd1, rfl, rfl, HQ, hown, hb⟩ := hrel
            clear HO2 HB2 y0
            have HO3 := hid hown
            clear hown
            by_cases hlt2 : d < ls.length
            · have x0 := (hb.cell (p := ⟨b, off + k * 2, none⟩) (World.block_lt_of_cell? _ _ X0.out)).trans X0.out
              have y0 := (hb.cell (p := ⟨bl, ol + k, none⟩) (World.block_lt_of_cell? _ _ Y0.out)).trans Y0.out
              have hds : d < T.shape.length := by rw [← HLE.out]; exact hlt2
              obtain ⟨bs, os, rfl, s0⟩ := (HHS.out.ext hb).elem d hds
              obtain ⟨bu, ou, rfl, l0⟩ := (HHU.out.ext hb).elem d hlt2
              obtain ⟨l, hl, hl5⟩ : ∃ l : Nat, ls[d] = (l : Int) ∧ l < 5 := by
                have := HRG.out ls[d] (List.getElem_mem hlt2)
                exact ⟨ls[d].toNat, by omega, by omega⟩
              rw [hl] at l0
              have hlq : l < q.length := by rw [extD_length HQ.out, HOL.out]; exact hl5
              have qc := HO3.out.cell l hlq
              obtain ⟨y, ey⟩ : ∃ y, q[l] = y := ⟨_, rfl⟩
              obtain ⟨z, ez⟩ : ∃ z, T.shape[d] = z := ⟨_, rfl⟩
              have HBN := hid (fun h0 h1 => extD_bad (o := o) (ls := ls) (shape := T.shape) (d := d) HQ.out hlt2 hds hl hlq h0 h1)
              have HNE := hid (fun h1 => extD_next (o := o) (ls := ls) (shape := T.shape) (d := d) HQ.out hlt2 hds hl hlq h1)
              rw [ey, ez] at HBN HNE
              rw [ey] at qc
              rw [ez] at s0
              have hki : (d : Int) < (ls.length : Int) := by omega
              have hds1 : (d : Int) < (T.shape.length : Int) := by omega
              have hl5i : (l : Int) < 5 := by omega
              clear hl ey ez HQ
              have HZ := hid hb.size
              go_upto_region 15 with fail
              have qq0 := fun x : ExtW wr => (x.h.cell (p := ⟨g1, l, none⟩) (World.block_lt_of_cell? _ _ qc)).trans qc
              have qq1 := fun x : ExtW wr => (x.h.cell (p := ⟨b, off + k * 2, none⟩) (World.block_lt_of_cell? _ _ x0)).trans x0
              have qq2 := fun x : ExtW wr => (x.h.cell (p := ⟨bs, os + d, none⟩) (World.block_lt_of_cell? _ _ s0)).trans s0
              by_cases hy0 : (0 : Int) ≤ y
              · by_cases hyz : y = z
                · have hne1 : (y != z) = false := by simp [hyz]
                  have HN3 := hid (HNE.out (.inr hyz))
                  clear HBN HNE hyz
                  refine region_mk 20 (by kernel_rfl) (by kernel_rfl) ?_
                  apply Exists.intro
                  simp only [List.take_succ_cons, List.take_zero, List.drop_succ_cons, List.drop_zero]
                  repeat (first
                    | (apply grow_val (by rfl); (focus (intro x; (go_simp; try with_reducible rfl); done)); simp only [Act.put, List.setIfInBounds_toArray, List.set_cons_zero, List.set_cons_succ])
                    | (apply grow_skip (by rfl); simp only [Act.put, List.setIfInBounds_toArray, List.set_cons_zero, List.set_cons_succ]))
                  refine grow_nil ?_
                  rintro ⟨w3, hb3⟩ - -
                  have hb3 : Below wr.heap.size wr w3 := hb3
                  have x0 := (hb3.cell (p := ⟨b, off + k * 2, none⟩) (World.block_lt_of_cell? _ _ x0)).trans x0
                  have s0 := (hb3.cell (p := ⟨bs, os + d, none⟩) (World.block_lt_of_cell? _ _ s0)).trans s0
                  have qc := (hb3.cell (p := ⟨g1, l, none⟩) (World.block_lt_of_cell? _ _ qc)).trans qc
                  have HP3 := hid ((HO3.out.ext hb3).put l z)
                  have qf := (HO3.out.ext hb3).free l
                  have HB4 := hid ((hb.nx hb3 HZ.out).setCell (p := ⟨g1, l, none⟩) hgB (.int .i64 z))
                  clear qq0 qq1 qq2 y0 l0 hb3 hb
                  go_wp2
                  go_roundg (ls.length - (d + 1))
                  case measure => omega
                  case rel => exact ⟨d + 1, _, by omega, rfl, by go_num, HN3, HP3.out, HB4.out⟩
                · have hne1 : (y != z) = true := by simp [hyz]
                  have HN := hid (HCUT.out (HNX.out.trans (extD_none (HBN.out hy0 hyz) (by omega))))
                  clear HBN HNE hyz
                  refine region_mk 20 (by kernel_rfl) (by kernel_rfl) ?_
                  apply Exists.intro
                  simp only [List.take_succ_cons, List.take_zero, List.drop_succ_cons, List.drop_zero]
                  repeat (first
                    | (apply grow_val (by rfl); (focus (intro x; (go_simp; try with_reducible rfl); done)); simp only [Act.put, List.setIfInBounds_toArray, List.set_cons_zero, List.set_cons_succ])
                    | (apply grow_skip (by rfl); simp only [Act.put, List.setIfInBounds_toArray, List.set_cons_zero, List.set_cons_succ]))
                  refine grow_nil ?_
                  rintro ⟨w3, hb3⟩ - -
                  have hb3 : Below wr.heap.size wr w3 := hb3
                  have hq := hb.nx hb3 HZ.out
                  clear qq0 qq1 qq2 x0 y0 s0 l0 qc
                  go_wp2
                  refine bodyPost_ret (v := .tuple #[.slice none 0 0, .bool false]) (by simp [results, Try.results81, go_sem]) rfl ?_
                  exact ⟨_, by rw [HN.out.2], by rw [HN.out.1]; exact Own.nil _ _, hq⟩
              · have HN3 := hid (HNE.out (.inl hy0))
                have hy1 : decide ((0 : Int) ≤ y) = false := by simpa using hy0
                clear HBN HNE
                refine region_mk 20 (by kernel_rfl) (by kernel_rfl) ?_
                apply Exists.intro
                simp only [List.take_succ_cons, List.take_zero, List.drop_succ_cons, List.drop_zero]
                repeat (first
                  | (apply grow_val (by rfl); (focus (intro x; (go_simp; try with_reducible rfl); done)); simp only [Act.put, List.setIfInBounds_toArray, List.set_cons_zero, List.set_cons_succ])
                  | (apply grow_skip (by rfl); simp only [Act.put, List.setIfInBounds_toArray, List.set_cons_zero, List.set_cons_succ]))
                refine grow_nil ?_
                rintro ⟨w3, hb3⟩ - -
                have hb3 : Below wr.heap.size wr w3 := hb3
                have x0 := (hb3.cell (p := ⟨b, off + k * 2, none⟩) (World.block_lt_of_cell? _ _ x0)).trans x0
                have s0 := (hb3.cell (p := ⟨bs, os + d, none⟩) (World.block_lt_of_cell? _ _ s0)).trans s0
                have qc := (hb3.cell (p := ⟨g1, l, none⟩) (World.block_lt_of_cell? _ _ qc)).trans qc
                have HP3 := hid ((HO3.out.ext hb3).put l z)
                have qf := (HO3.out.ext hb3).free l
                have HB4 := hid ((hb.nx hb3 HZ.out).setCell (p := ⟨g1, l, none⟩) hgB (.int .i64 z))
                clear qq0 qq1 qq2 y0 l0 hb3 hb
                go_wp2
                go_roundg (ls.length - (d + 1))
                case measure => omega
                case rel => exact ⟨d + 1, _, by omega, rfl, by go_num, HN3, HP3.out, HB4.out⟩
            · obtain rfl : ls.length = d := by omega
              have HX3 := hid (HNX.out.trans HQ.out)
              have y0 := (hb.cell (p := ⟨bl, ol + k, none⟩) (World.block_lt_of_cell? _ _ Y0.out)).trans Y0.out
              go_wp2
              go_roundg (xs.length - (k + 1))
              case measure => omega
              case rel => exact ⟨k + 1, q, by omega, rfl, by go_num, HX3, HO3.out, hb⟩
        · obtain rfl : xs.length = k := by omega
          have HY := hid (yes_extents (HR.out.trans HX.out))
          go_wp2
          refine bodyPost_ret (v := .tuple #[.slice (some ⟨g1, 0, none⟩) 5 c1, .bool true]) (by simp [results, Try.results81, go_sem]) rfl ?_
          exact ⟨_, by rw [HY.out.2], by rw [HY.out.1]; exact HO.out, HB.out⟩

end Go.Proofs.Ytfiphjifnjnmbaa
