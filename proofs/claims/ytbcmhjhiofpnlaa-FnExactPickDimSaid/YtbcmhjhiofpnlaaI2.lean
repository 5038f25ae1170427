/- Contract: PickDim. No conditions. (printed by mki.py) -/
import Derived.Test.YtbcmhjhiofpnlaaI1
import Derived.Deep.Cut
namespace Go.Proofs.Ytbcmhjhiofpnlaa
open Go.RowKit

set_option maxRecDepth 100000 in
set_option maxHeartbeats 6400000 in
theorem PickDim_any (v : Value) (V : VL) (d i : Int) (w : World) (hv : ViewV w v V) (wd : -9223372036854775808 ≤ d ∧ d ≤ 9223372036854775807) (wi : -9223372036854775808 ≤ i ∧ i ≤ 9223372036854775807) :
    Calls Try.prog 26 #[v, .int .i64 d, .int .i64 i] w (RetViewB w (pickL V d i) (okPick V d i)) := by
  have hv0 := hv
  obtain ⟨sv, tv, rfl, hsv, htv⟩ := hv
  obtain ⟨As, cs, es, -, hcs, -⟩ := id hsv
  subst es
  obtain ⟨At, ct, et, -, hct, -⟩ := id htv
  subst et
  unfold maxLen at hcs hct
  have hA := (Blk.new w 28 #[.int .i64 V.base, .slice As V.shape.length cs, .slice At V.strides.length ct]).alloc (.cells #[.int .i64 0, .slice none 0 0, .slice none 0 0] 28)
  have hR := Blk.new (w.alloc (.cells #[.int .i64 V.base, .slice As V.shape.length cs, .slice At V.strides.length ct] 28)) 28 #[.int .i64 0, .slice none 0 0, .slice none 0 0]
  have hW : Below w.heap.size w ((w.alloc (.cells #[.int .i64 V.base, .slice As V.shape.length cs, .slice At V.strides.length ct] 28)).alloc (.cells #[.int .i64 0, .slice none 0 0, .slice none 0 0] 28)) := ((Below.refl _ _).alloc (Nat.le_refl _) _).alloc (by simp) _
  simp only [World.size_alloc] at hR
  have hn0 := hA.lt
  have hn1 := hR.lt
  generalize hW1 : (w.alloc (.cells #[.int .i64 V.base, .slice As V.shape.length cs, .slice At V.strides.length ct] 28)).alloc (.cells #[.int .i64 0, .slice none 0 0, .slice none 0 0] 28) = W1 at *
  have HW1 := hid hW1
  clear hW1
  cases c0 : hasDimL V d
  · have HC0 := hid c0
    have HQ := hid (show pickL V d i = VL.zero ∧ okPick V d i = false by have : okPick V d i = false := by simp [okPick, c0]
                                                                         exact ⟨pick_no this, this⟩)
    clear c0
    go_enter Try.func26, Try.ntmps26
    go_wp2_with fail
    rw [HW1.out]
    clear HW1
    refine (hasDim_any _ V d _ (hv0.ext hW) wd).mono ?_; rintro e w1 ⟨rfl, hb1⟩
    rw [HC0.out]
    have hD1 := hW.nx hb1 hW.size
    have hz1 := hb1.size
    obtain ⟨⟨r0, r1, r2⟩, rf0, rf1, rf2⟩ := (hR.nx hb1).all3
    go_wp2
    refine bodyPost_ret (v := .tuple #[.agg #[.int .i64 0, .slice none 0 0, .slice none 0 0], .bool false]) (by simp [results, Try.results26, go_sem, r0, r1, r2]) rfl ?_
    rw [HQ.out.1, HQ.out.2]
    exact ⟨_, _, rfl, Own.nil _ _, Own.nil _ _, Sep.none_left _, below3 hD1 (by omega) _ _ _⟩

  have HC0 := hid c0
  have hdd : 0 ≤ d ∧ d < V.shape.length := by simp only [hasDimL, Bool.and_eq_true, decide_eq_true_eq] at c0; omega
  have cV : isViewL V = true := by simp only [hasDimL, Bool.and_eq_true] at c0; exact c0.1.1
  obtain ⟨k, rfl⟩ : ∃ k : Nat, d = (k : Int) := ⟨d.toNat, by omega⟩
  have hl4 := (isViewL_lens cV).1
  have hl4t := (isViewL_lens cV).2
  have hkl : k < V.shape.length := by omega
  have hkt : k < V.strides.length := by have := (isViewL_and cV).2.1; omega
  have hsb := shape_le' cV hkl
  have htb := stride_le cV hkt
  have hbb := base_le cV
  have hgd : V.shape.getD k 0 = V.shape[k] := by simp [hkl]
  have hgt : V.strides.getD k 0 = V.strides[k] := by simp [hkt]
  have HP := hid (show ∀ b, inR i (-V.shape[k]) (V.shape[k] - 1) = b → okPick V k i = b ∧ pickL V k i = (if b then tidyL ⟨V.base + pickN0 V.shape[k] i * V.strides[k], V.shape.eraseIdx k, V.strides.eraseIdx k⟩ else VL.zero) by
    rintro b rfl
    simp only [okPick, pickL, pickV, Int.toNat_natCast, hgd, hgt, c0, Bool.true_and, and_self])
  clear hdd cV c0 hgd hgt
  by_cases c1 : i < 0
  · obtain ⟨j, hj⟩ : ∃ j, j = i + V.shape[k] := ⟨_, rfl⟩
    have hw0 : IntKind.i64.wrap (i + V.shape[k]) = j := by rw [hj]; exact IntWalk.i64_in _ (by omega)
    by_cases c2 : j < 0
    · have HQ := hid (show pickL V k i = VL.zero ∧ okPick V k i = false by
        have := HP.out false (inR_no (by omega))
        exact ⟨this.2.trans (by simp), this.1⟩)
      clear hj
      go_enter Try.func26, Try.ntmps26
      go_wp2_with fail
      rw [HW1.out]
      clear HW1
      refine (hasDim_any _ V k _ (hv0.ext hW) wd).mono ?_; rintro e w1 ⟨rfl, hb1⟩
      rw [HC0.out]
      have hD1 := hW.nx hb1 hW.size
      have hz1 := hb1.size
      have hA1 := hA.nx hb1
      have hR1 := hR.nx hb1
      obtain ⟨⟨q0, q1, q2⟩, -⟩ := id hA1.all3
      obtain ⟨A', c', e', -, -, hr⟩ := id hsv
      simp only [Value.slice.injEq, true_and] at e'
      obtain ⟨rfl, rfl⟩ := e'
      obtain ⟨bs, os, rfl, hbs, hcs1⟩ := hr (by omega)
      have hx0 := (hD1.cell (p := ⟨bs, os + k, none⟩) hbs).trans (hcs1 k V.shape[k] (by simp [hkl]))
      clear hr hcs1
      have hki : (k : Int) < (V.shape.length : Int) := by omega
      obtain ⟨⟨r0, r1, r2⟩, rf0, rf1, rf2⟩ := (hR.nx hb1).all3
      go_wp2
      refine bodyPost_ret (v := .tuple #[.agg #[.int .i64 0, .slice none 0 0, .slice none 0 0], .bool false]) (by simp [results, Try.results26, go_sem, r0, r1, r2]) rfl ?_
      rw [HQ.out.1, HQ.out.2]
      exact ⟨_, _, rfl, Own.nil _ _, Own.nil _ _, Sep.none_left _, below3 hD1 (by omega) _ _ _⟩

    have c2' : 0 ≤ j := by omega
    have c3 : j < V.shape[k] := by omega
    obtain ⟨y, hy⟩ : ∃ y, y = V.base + j * V.strides[k] := ⟨_, rfl⟩
    have HQ := hid (show pickL V k i = tidyL ⟨y, V.shape.eraseIdx k, V.strides.eraseIdx k⟩ ∧ okPick V k i = true by
      have := HP.out true (inR_yes (by omega) (by omega))
      have hj : pickN0 V.shape[k] i = j := by unfold pickN0; split <;> omega
      rw [hj, ← hy] at this
      exact ⟨this.2.trans (by simp), this.1⟩)
    have hm := mul_bd (i := j) (s := V.strides[k]) (by omega) (by omega) htb.1 htb.2
    have hw1 : IntKind.i64.wrap (j * V.strides[k]) = j * V.strides[k] := IntWalk.i64_in _ (by omega)
    have hw2 : IntKind.i64.wrap (V.base + j * V.strides[k]) = y := by rw [hy]; exact IntWalk.i64_in _ (by omega)
    clear hy hm
    clear hj c2
    go_enter Try.func26, Try.ntmps26
    go_wp2_with fail
    rw [HW1.out]
    clear HW1
    refine (hasDim_any _ V k _ (hv0.ext hW) wd).mono ?_; rintro e w1 ⟨rfl, hb1⟩
    rw [HC0.out]
    have hD1 := hW.nx hb1 hW.size
    have hz1 := hb1.size
    have hA1 := hA.nx hb1
    have hR1 := hR.nx hb1
    obtain ⟨⟨q0, q1, q2⟩, -⟩ := id hA1.all3
    obtain ⟨A', c', e', -, -, hr⟩ := id hsv
    simp only [Value.slice.injEq, true_and] at e'
    obtain ⟨rfl, rfl⟩ := e'
    obtain ⟨bs, os, rfl, hbs, hcs1⟩ := hr (by omega)
    have hx0 := (hD1.cell (p := ⟨bs, os + k, none⟩) hbs).trans (hcs1 k V.shape[k] (by simp [hkl]))
    clear hr hcs1
    have hki : (k : Int) < (V.shape.length : Int) := by omega
    obtain ⟨A', c', e', -, -, hr⟩ := id htv
    simp only [Value.slice.injEq, true_and] at e'
    obtain ⟨rfl, rfl⟩ := e'
    obtain ⟨bt, ot, rfl, hbt, hct1⟩ := hr (by omega)
    have hxt1 := hct1 k V.strides[k] (by simp [hkt])
    clear hr hct1
    have hki2 : (k : Int) < (V.strides.length : Int) := by omega
    go_wp2_with fail
    refine (withoutDim_any _ V k _ (hv0.ext hD1) hkl hkt (by omega) (by omega)).mono ?_; rintro e w4 ⟨s4, t4, rfl, ho4, ho5, hsep4, hb4⟩
    have hz4 := hb4.size
    have hD4 := hD1.nx hb4 hD1.size
    have hA4 := hA1.nx hb4
    have hR4 := hR1.nx hb4
    obtain ⟨A4, c4, e4⟩ := ho4.form
    obtain ⟨A5, c5, e5⟩ := ho5.form
    subst e4 e5
    have hB5 := Blk.new w4 28 #[.int .i64 V.base, .slice A4 (V.shape.eraseIdx k).length c4, .slice A5 (V.strides.eraseIdx k).length c5]
    have hlt4 := ho4.lt
    have hlt5 := ho5.lt
    have HO4 := hid (ho4.alloc (.cells #[.int .i64 V.base, .slice A4 (V.shape.eraseIdx k).length c4, .slice A5 (V.strides.eraseIdx k).length c5] 28))
    have HO5 := hid (ho5.alloc (.cells #[.int .i64 V.base, .slice A4 (V.shape.eraseIdx k).length c4, .slice A5 (V.strides.eraseIdx k).length c5] 28))
    have hb5 := below_alloc w4 (.cells #[.int .i64 V.base, .slice A4 (V.shape.eraseIdx k).length c4, .slice A5 (V.strides.eraseIdx k).length c5] 28)
    have hz5 : w4.heap.size + 1 ≤ (w4.alloc (.cells #[.int .i64 V.base, .slice A4 (V.shape.eraseIdx k).length c4, .slice A5 (V.strides.eraseIdx k).length c5] 28)).heap.size := by simp
    clear ho4 ho5
    go_upto_region 8 with fail
    generalize w4.alloc (.cells #[.int .i64 V.base, .slice A4 (V.shape.eraseIdx k).length c4, .slice A5 (V.strides.eraseIdx k).length c5] 28) = w5 at *
    have ho4 := HO4.out
    have ho5 := HO5.out
    have hA5 := hA4.nx hb5
    have hR5 := hR4.nx hb5
    have hD5 := hD4.nx hb5 hD4.size
    obtain ⟨g, hg⟩ : ∃ g, g = w4.heap.size := ⟨_, rfl⟩
    rw [← hg] at hB5 hz5
    rw [← hg]
    have hgW : w1.heap.size ≤ g := by omega
    have hg4 : ∀ q, (Value.slice A4 (V.shape.eraseIdx k).length c4).ownBlock = some q → q ≠ g := fun q hq => by have := hlt4 q hq; omega
    have hg5 : ∀ q, (Value.slice A5 (V.strides.eraseIdx k).length c5).ownBlock = some q → q ≠ g := fun q hq => by have := hlt5 q hq; omega
    have HG4 := hid hg4
    have HG5 := hid hg5
    clear hg hlt4 hlt5 hg4 hg5
    obtain ⟨⟨g0, g1, g2⟩, gf0, gf1, gf2⟩ := id hB5.all3
    clear q0 q1 q2
    obtain ⟨⟨q0, q1, q2⟩, -⟩ := id hA5.all3
    have hxt := (hD5.cell (p := ⟨bt, ot + k, none⟩) hbt).trans hxt1
    go_still_tail 11, (by kernel_rfl)
    go_upto_region 9 with fail
    have hB6 : Blk (w5.setCell ⟨g, 0, none⟩ (.int .i64 y)).drew g 28 #[.int .i64 y, .slice A4 (V.shape.eraseIdx k).length c4, .slice A5 (V.strides.eraseIdx k).length c5] := by
      have := (hB5.set_ 0 (.int .i64 y)).nx (below_drew _)
      simpa using this
    have ho6 := (ho4.off (p := ⟨g, 0, none⟩) HG4.out (.int .i64 y)).drew
    have ho7 := (ho5.off (p := ⟨g, 0, none⟩) HG5.out (.int .i64 y)).drew
    have hR6 := (hR5.far (p := ⟨g, 0, none⟩) (by show w.heap.size + 1 ≠ g; omega) (.int .i64 y)).nx (below_drew _)
    have hD6 := (hD5.setCell (p := ⟨g, 0, none⟩) (by show w.heap.size ≤ g; omega) (.int .i64 y)).drew
    have hz6 : g + 1 ≤ (w5.setCell ⟨g, 0, none⟩ (.int .i64 y)).drew.heap.size := by simpa using hz5
    clear g0 g1 g2 gf0 gf1 gf2 q0 q1 q2 hxt hx0 HO4 HO5 ho4 ho5 hA5 hR5 hD5 hB5 hz5 hb5 hA4 hR4 hD4
    generalize (w5.setCell ⟨g, 0, none⟩ (.int .i64 y)).drew = w6 at *
    obtain ⟨⟨g0, g1, g2⟩, gf0, gf1, gf2⟩ := id hB6.all3
    have hle : w1.heap.size ≤ w6.heap.size := by omega
    go_wp2_with fail
    refine (cleared_any _ _ ⟨y, V.shape.eraseIdx k, V.strides.eraseIdx k⟩ w1.heap.size _ ho6 ho7 hsep4 hle (by have := List.length_eraseIdx_le V.shape k; show (V.shape.eraseIdx k).length ≤ 1000000; omega)).mono ?_; rintro e w8 ⟨s8, t8, rfl, ho8, ho9, hsep, hb8⟩
    have hz8 := hb8.size
    have hD8 := hD6.nx hb8 hD6.size
    obtain ⟨⟨r0, r1, r2⟩, rf0, rf1, rf2⟩ := (hR6.nx hb8).all3
    obtain ⟨A8, c8, e8⟩ := ho8.form
    obtain ⟨A9, c9, e9⟩ := ho9.form
    subst e8 e9
    have ho8 := ho8.mono (B' := w.heap.size + 2) (by omega)
    have ho9 := ho9.mono (B' := w.heap.size + 2) (by omega)
    go_wp2
    refine bodyPost_ret (v := .tuple #[.agg #[.int .i64 (tidyL ⟨y, V.shape.eraseIdx k, V.strides.eraseIdx k⟩).base, .slice A8 (tidyL ⟨y, V.shape.eraseIdx k, V.strides.eraseIdx k⟩).shape.length c8, .slice A9 (tidyL ⟨y, V.shape.eraseIdx k, V.strides.eraseIdx k⟩).strides.length c9], .bool true]) (by simp [results, Try.results26, go_sem, r0, r1, r2]) rfl ?_
    rw [HQ.out.1, HQ.out.2]
    exact ⟨_, _, rfl, (own3b ho8 (by omega) _ _ _).mono (by omega), (own3b ho9 (by omega) _ _ _).mono (by omega), hsep, below3 hD8 (by omega) _ _ _⟩

  have c1' : 0 ≤ i := by omega
  by_cases c2 : V.shape[k] ≤ i
  · have HQ := hid (show pickL V k i = VL.zero ∧ okPick V k i = false by
      have := HP.out false (inR_no (by omega))
      exact ⟨this.2.trans (by simp), this.1⟩)
    clear c1
    go_enter Try.func26, Try.ntmps26
    go_wp2_with fail
    rw [HW1.out]
    clear HW1
    refine (hasDim_any _ V k _ (hv0.ext hW) wd).mono ?_; rintro e w1 ⟨rfl, hb1⟩
    rw [HC0.out]
    have hD1 := hW.nx hb1 hW.size
    have hz1 := hb1.size
    have hA1 := hA.nx hb1
    have hR1 := hR.nx hb1
    obtain ⟨⟨q0, q1, q2⟩, -⟩ := id hA1.all3
    obtain ⟨A', c', e', -, -, hr⟩ := id hsv
    simp only [Value.slice.injEq, true_and] at e'
    obtain ⟨rfl, rfl⟩ := e'
    obtain ⟨bs, os, rfl, hbs, hcs1⟩ := hr (by omega)
    have hx0 := (hD1.cell (p := ⟨bs, os + k, none⟩) hbs).trans (hcs1 k V.shape[k] (by simp [hkl]))
    clear hr hcs1
    have hki : (k : Int) < (V.shape.length : Int) := by omega
    obtain ⟨⟨r0, r1, r2⟩, rf0, rf1, rf2⟩ := (hR.nx hb1).all3
    go_wp2
    refine bodyPost_ret (v := .tuple #[.agg #[.int .i64 0, .slice none 0 0, .slice none 0 0], .bool false]) (by simp [results, Try.results26, go_sem, r0, r1, r2]) rfl ?_
    rw [HQ.out.1, HQ.out.2]
    exact ⟨_, _, rfl, Own.nil _ _, Own.nil _ _, Sep.none_left _, below3 hD1 (by omega) _ _ _⟩

  have c3 : i < V.shape[k] := by omega
  obtain ⟨y, hy⟩ : ∃ y, y = V.base + i * V.strides[k] := ⟨_, rfl⟩
  have HQ := hid (show pickL V k i = tidyL ⟨y, V.shape.eraseIdx k, V.strides.eraseIdx k⟩ ∧ okPick V k i = true by
    have := HP.out true (inR_yes (by omega) (by omega))
    have hj : pickN0 V.shape[k] i = i := by unfold pickN0; split <;> omega
    rw [hj, ← hy] at this
    exact ⟨this.2.trans (by simp), this.1⟩)
  have hm := mul_bd (i := i) (s := V.strides[k]) (by omega) (by omega) htb.1 htb.2
  have hw1 : IntKind.i64.wrap (i * V.strides[k]) = i * V.strides[k] := IntWalk.i64_in _ (by omega)
  have hw2 : IntKind.i64.wrap (V.base + i * V.strides[k]) = y := by rw [hy]; exact IntWalk.i64_in _ (by omega)
  clear hy hm
  clear c1 c2
  go_enter Try.func26, Try.ntmps26
  go_wp2_with fail
  rw [HW1.out]
  clear HW1
  refine (hasDim_any _ V k _ (hv0.ext hW) wd).mono ?_; rintro e w1 ⟨rfl, hb1⟩
  rw [HC0.out]
  have hD1 := hW.nx hb1 hW.size
  have hz1 := hb1.size
  have hA1 := hA.nx hb1
  have hR1 := hR.nx hb1
  obtain ⟨⟨q0, q1, q2⟩, -⟩ := id hA1.all3
  obtain ⟨A', c', e', -, -, hr⟩ := id hsv
  simp only [Value.slice.injEq, true_and] at e'
  obtain ⟨rfl, rfl⟩ := e'
  obtain ⟨bs, os, rfl, hbs, hcs1⟩ := hr (by omega)
  have hx0 := (hD1.cell (p := ⟨bs, os + k, none⟩) hbs).trans (hcs1 k V.shape[k] (by simp [hkl]))
  clear hr hcs1
  have hki : (k : Int) < (V.shape.length : Int) := by omega
  obtain ⟨A', c', e', -, -, hr⟩ := id htv
  simp only [Value.slice.injEq, true_and] at e'
  obtain ⟨rfl, rfl⟩ := e'
  obtain ⟨bt, ot, rfl, hbt, hct1⟩ := hr (by omega)
  have hxt1 := hct1 k V.strides[k] (by simp [hkt])
  clear hr hct1
  have hki2 : (k : Int) < (V.strides.length : Int) := by omega
  go_wp2_with fail
  refine (withoutDim_any _ V k _ (hv0.ext hD1) hkl hkt (by omega) (by omega)).mono ?_; rintro e w4 ⟨s4, t4, rfl, ho4, ho5, hsep4, hb4⟩
  have hz4 := hb4.size
  have hD4 := hD1.nx hb4 hD1.size
  have hA4 := hA1.nx hb4
  have hR4 := hR1.nx hb4
  obtain ⟨A4, c4, e4⟩ := ho4.form
  obtain ⟨A5, c5, e5⟩ := ho5.form
  subst e4 e5
  have hB5 := Blk.new w4 28 #[.int .i64 V.base, .slice A4 (V.shape.eraseIdx k).length c4, .slice A5 (V.strides.eraseIdx k).length c5]
  have hlt4 := ho4.lt
  have hlt5 := ho5.lt
  have HO4 := hid (ho4.alloc (.cells #[.int .i64 V.base, .slice A4 (V.shape.eraseIdx k).length c4, .slice A5 (V.strides.eraseIdx k).length c5] 28))
  have HO5 := hid (ho5.alloc (.cells #[.int .i64 V.base, .slice A4 (V.shape.eraseIdx k).length c4, .slice A5 (V.strides.eraseIdx k).length c5] 28))
  have hb5 := below_alloc w4 (.cells #[.int .i64 V.base, .slice A4 (V.shape.eraseIdx k).length c4, .slice A5 (V.strides.eraseIdx k).length c5] 28)
  have hz5 : w4.heap.size + 1 ≤ (w4.alloc (.cells #[.int .i64 V.base, .slice A4 (V.shape.eraseIdx k).length c4, .slice A5 (V.strides.eraseIdx k).length c5] 28)).heap.size := by simp
  clear ho4 ho5
  go_upto_region 8 with fail
  generalize w4.alloc (.cells #[.int .i64 V.base, .slice A4 (V.shape.eraseIdx k).length c4, .slice A5 (V.strides.eraseIdx k).length c5] 28) = w5 at *
  have ho4 := HO4.out
  have ho5 := HO5.out
  have hA5 := hA4.nx hb5
  have hR5 := hR4.nx hb5
  have hD5 := hD4.nx hb5 hD4.size
  obtain ⟨g, hg⟩ : ∃ g, g = w4.heap.size := ⟨_, rfl⟩
  rw [← hg] at hB5 hz5
  rw [← hg]
  have hgW : w1.heap.size ≤ g := by omega
  have hg4 : ∀ q, (Value.slice A4 (V.shape.eraseIdx k).length c4).ownBlock = some q → q ≠ g := fun q hq => by have := hlt4 q hq; omega
  have hg5 : ∀ q, (Value.slice A5 (V.strides.eraseIdx k).length c5).ownBlock = some q → q ≠ g := fun q hq => by have := hlt5 q hq; omega
  have HG4 := hid hg4
  have HG5 := hid hg5
  clear hg hlt4 hlt5 hg4 hg5
  obtain ⟨⟨g0, g1, g2⟩, gf0, gf1, gf2⟩ := id hB5.all3
  clear q0 q1 q2
  obtain ⟨⟨q0, q1, q2⟩, -⟩ := id hA5.all3
  have hxt := (hD5.cell (p := ⟨bt, ot + k, none⟩) hbt).trans hxt1
  go_still_tail 11, (by kernel_rfl)
  go_upto_region 9 with fail
  have hB6 : Blk (w5.setCell ⟨g, 0, none⟩ (.int .i64 y)).drew g 28 #[.int .i64 y, .slice A4 (V.shape.eraseIdx k).length c4, .slice A5 (V.strides.eraseIdx k).length c5] := by
    have := (hB5.set_ 0 (.int .i64 y)).nx (below_drew _)
    simpa using this
  have ho6 := (ho4.off (p := ⟨g, 0, none⟩) HG4.out (.int .i64 y)).drew
  have ho7 := (ho5.off (p := ⟨g, 0, none⟩) HG5.out (.int .i64 y)).drew
  have hR6 := (hR5.far (p := ⟨g, 0, none⟩) (by show w.heap.size + 1 ≠ g; omega) (.int .i64 y)).nx (below_drew _)
  have hD6 := (hD5.setCell (p := ⟨g, 0, none⟩) (by show w.heap.size ≤ g; omega) (.int .i64 y)).drew
  have hz6 : g + 1 ≤ (w5.setCell ⟨g, 0, none⟩ (.int .i64 y)).drew.heap.size := by simpa using hz5
  clear g0 g1 g2 gf0 gf1 gf2 q0 q1 q2 hxt hx0 HO4 HO5 ho4 ho5 hA5 hR5 hD5 hB5 hz5 hb5 hA4 hR4 hD4
  generalize (w5.setCell ⟨g, 0, none⟩ (.int .i64 y)).drew = w6 at *
  obtain ⟨⟨g0, g1, g2⟩, gf0, gf1, gf2⟩ := id hB6.all3
  have hle : w1.heap.size ≤ w6.heap.size := by omega
  go_wp2_with fail
  refine (cleared_any _ _ ⟨y, V.shape.eraseIdx k, V.strides.eraseIdx k⟩ w1.heap.size _ ho6 ho7 hsep4 hle (by have := List.length_eraseIdx_le V.shape k; show (V.shape.eraseIdx k).length ≤ 1000000; omega)).mono ?_; rintro e w8 ⟨s8, t8, rfl, ho8, ho9, hsep, hb8⟩
  have hz8 := hb8.size
  have hD8 := hD6.nx hb8 hD6.size
  obtain ⟨⟨r0, r1, r2⟩, rf0, rf1, rf2⟩ := (hR6.nx hb8).all3
  obtain ⟨A8, c8, e8⟩ := ho8.form
  obtain ⟨A9, c9, e9⟩ := ho9.form
  subst e8 e9
  have ho8 := ho8.mono (B' := w.heap.size + 2) (by omega)
  have ho9 := ho9.mono (B' := w.heap.size + 2) (by omega)
  go_wp2
  refine bodyPost_ret (v := .tuple #[.agg #[.int .i64 (tidyL ⟨y, V.shape.eraseIdx k, V.strides.eraseIdx k⟩).base, .slice A8 (tidyL ⟨y, V.shape.eraseIdx k, V.strides.eraseIdx k⟩).shape.length c8, .slice A9 (tidyL ⟨y, V.shape.eraseIdx k, V.strides.eraseIdx k⟩).strides.length c9], .bool true]) (by simp [results, Try.results26, go_sem, r0, r1, r2]) rfl ?_
  rw [HQ.out.1, HQ.out.2]
  exact ⟨_, _, rfl, (own3b ho8 (by omega) _ _ _).mono (by omega), (own3b ho9 (by omega) _ _ _).mono (by omega), hsep, below3 hD8 (by omega) _ _ _⟩

end Go.Proofs.Ytbcmhjhiofpnlaa
