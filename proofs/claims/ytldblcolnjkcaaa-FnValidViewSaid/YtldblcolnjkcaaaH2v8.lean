/- Contract: WindowsOf of the reference. No conditions. (printed by mkh.py) -/
import Derived.Test.YtldblcolnjkcaaaH1v8
import Derived.StillTailTactics
import Derived.Deep.DeepCutAuto
namespace Go.Proofs.Ytldblcolnjkcaaa
open Go.RowKit

set_option maxRecDepth 100000 in
set_option maxHeartbeats 6400000 in
theorem sWindowsOf_any (v : Value) (V : VL) (d n : Int) (w : World) (hv : ViewV w v V) (wd : -9223372036854775808 ≤ d ∧ d ≤ 9223372036854775807) (wn : -9223372036854775808 ≤ n ∧ n ≤ 9223372036854775807) :
    Calls Try.prog 173 #[v, .int .i64 d, .int .i64 n] w (RetViewB w (winL V d n) (winB V d n)) := by
  have hv0 := hv
  obtain ⟨sv, tv, rfl, hsv, htv⟩ := hv
  obtain ⟨As, cs, es, -, hcs, -⟩ := id hsv
  subst es
  obtain ⟨At, ct, et, -, hct, -⟩ := id htv
  subst et
  unfold maxLen at hcs hct
  have hA := (Blk.new w 43 #[.int .i64 V.base, .slice As V.shape.length cs, .slice At V.strides.length ct]).alloc (.cells #[.int .i64 0, .slice none 0 0, .slice none 0 0] 43)
  have hR := Blk.new (w.alloc (.cells #[.int .i64 V.base, .slice As V.shape.length cs, .slice At V.strides.length ct] 43)) 43 #[.int .i64 0, .slice none 0 0, .slice none 0 0]
  have hW : Below w.heap.size w ((w.alloc (.cells #[.int .i64 V.base, .slice As V.shape.length cs, .slice At V.strides.length ct] 43)).alloc (.cells #[.int .i64 0, .slice none 0 0, .slice none 0 0] 43)) := ((Below.refl _ _).alloc (Nat.le_refl _) _).alloc (by simp) _
  simp only [World.size_alloc] at hR
  have hn0 := hA.lt
  have hn1 := hR.lt
  cases c0 : isViewL V
  · have HC0 := hid c0
    have HQ := hid (win_no (show winOk V d n = false by simp [winOk, hasDimL, c0]))
    clear c0
    go_enter Try.func173, Try.ntmps173
    go_wp2_with fail
    generalize (w.alloc (.cells #[.int .i64 V.base, .slice As V.shape.length cs, .slice At V.strides.length ct] 43)).alloc (.cells #[.int .i64 0, .slice none 0 0, .slice none 0 0] 43) = W1 at *
    refine (validView_any _ V _ (hv0.ext hW)).mono ?_; rintro e w1 ⟨rfl, hb1⟩
    rw [HC0.out]
    have hD1 := hW.nx hb1 hW.size
    have hz1 := hb1.size
    obtain ⟨⟨r0, r1, r2⟩, rf0, rf1, rf2⟩ := (hR.nx hb1).all3
    go_wp2
    refine bodyPost_ret (v := .tuple #[.agg #[.int .i64 0, .slice none 0 0, .slice none 0 0], .bool false]) (by simp [results, Try.results173, go_sem, r0, r1, r2]) rfl ?_
    rw [HQ.out.1, HQ.out.2]
    exact ⟨_, _, rfl, Own.nil _ _, Own.nil _ _, Sep.none_left _, below3 hD1 (by omega) _ _ _⟩

  have HC0 := hid c0
  have hl4 := (isViewL_lens c0).1
  have hl4t := (isViewL_lens c0).2
  have HTL := hid (isViewL_and c0).2.1
  cases c1 : inR d 0 ((V.shape.length : Int) - 1)
  · have HC1 := hid c1
    have HQ := hid (win_no (show winOk V d n = false by
      cases h : winOk V d n
      · rfl
      · simp only [winOk, hasDimL, Bool.and_eq_true, decide_eq_true_eq] at h
        rw [inR_yes (by omega) (by omega)] at c1; cases c1))
    clear c0 c1
    go_enter Try.func173, Try.ntmps173
    go_wp2_with fail
    generalize (w.alloc (.cells #[.int .i64 V.base, .slice As V.shape.length cs, .slice At V.strides.length ct] 43)).alloc (.cells #[.int .i64 0, .slice none 0 0, .slice none 0 0] 43) = W1 at *
    refine (validView_any _ V _ (hv0.ext hW)).mono ?_; rintro e w1 ⟨rfl, hb1⟩
    rw [HC0.out]
    have hD1 := hW.nx hb1 hW.size
    have hz1 := hb1.size
    obtain ⟨⟨q0, q1, q2⟩, -⟩ := (hA.nx hb1).all3
    go_wp2_with fail
    refine (isDim_any _ V d _ (hv0.ext hD1)).mono ?_; rintro e w2 ⟨rfl, hb2⟩
    rw [HC1.out]
    have hD2 := hD1.nx hb2 hD1.size
    have hz2 := hb2.size
    obtain ⟨⟨r0, r1, r2⟩, rf0, rf1, rf2⟩ := ((hR.nx hb1).nx hb2).all3
    go_wp2
    refine bodyPost_ret (v := .tuple #[.agg #[.int .i64 0, .slice none 0 0, .slice none 0 0], .bool false]) (by simp [results, Try.results173, go_sem, r0, r1, r2]) rfl ?_
    rw [HQ.out.1, HQ.out.2]
    exact ⟨_, _, rfl, Own.nil _ _, Own.nil _ _, Sep.none_left _, below3 hD2 (by omega) _ _ _⟩

  have HC1 := hid c1
  rw [inR_iff] at c1
  obtain ⟨k, rfl⟩ : ∃ k : Nat, d = (k : Int) := ⟨d.toNat, by omega⟩
  have hkl : k < V.shape.length := by omega
  have hkt : k < V.strides.length := by have := HTL.out; omega
  have hsb := shape_le c0 hkl
  have hgd : V.shape.getD k 0 = V.shape[k] := by simp [hkl]
  have hgt : V.strides.getD k 0 = V.strides[k] := by simp [hkt]
  cases c2 : inR n 1 V.shape[k]
  · have HC2 := hid c2
    have HQ := hid (win_no (show winOk V k n = false by simp only [winOk, Int.toNat_natCast, hgd, c2]; simp))
    clear c0 c1 c2 hgd hgt
    go_enter Try.func173, Try.ntmps173
    go_wp2_with fail
    generalize (w.alloc (.cells #[.int .i64 V.base, .slice As V.shape.length cs, .slice At V.strides.length ct] 43)).alloc (.cells #[.int .i64 0, .slice none 0 0, .slice none 0 0] 43) = W1 at *
    refine (validView_any _ V _ (hv0.ext hW)).mono ?_; rintro e w1 ⟨rfl, hb1⟩
    rw [HC0.out]
    have hD1 := hW.nx hb1 hW.size
    have hz1 := hb1.size
    obtain ⟨⟨q0, q1, q2⟩, -⟩ := (hA.nx hb1).all3
    go_wp2_with fail
    refine (isDim_any _ V k _ (hv0.ext hD1)).mono ?_; rintro e w2 ⟨rfl, hb2⟩
    rw [HC1.out]
    have hD2 := hD1.nx hb2 hD1.size
    have hz2 := hb2.size
    clear q0 q1 q2
    have hA2 := (hA.nx hb1).nx hb2
    obtain ⟨⟨q0, q1, q2⟩, -⟩ := id hA2.all3
    obtain ⟨A', c', e', -, -, hr⟩ := id hsv
    simp only [Value.slice.injEq, true_and] at e'
    obtain ⟨rfl, rfl⟩ := e'
    obtain ⟨bs, os, rfl, hbs, hcs1⟩ := hr (by omega)
    have hxs1 := hcs1 k V.shape[k] (by simp [hkl])
    have hx0 := (hD2.cell (p := ⟨bs, os + k, none⟩) hbs).trans hxs1
    clear hr hcs1
    have hki : (k : Int) < (V.shape.length : Int) := by omega
    go_wp2_with fail
    refine (inRange_any _ _ _ _).mono ?_; rintro e w' ⟨rfl, rfl⟩
    rw [HC2.out]
    obtain ⟨⟨r0, r1, r2⟩, rf0, rf1, rf2⟩ := ((hR.nx hb1).nx hb2).all3
    go_wp2
    refine bodyPost_ret (v := .tuple #[.agg #[.int .i64 0, .slice none 0 0, .slice none 0 0], .bool false]) (by simp [results, Try.results173, go_sem, r0, r1, r2]) rfl ?_
    rw [HQ.out.1, HQ.out.2]
    exact ⟨_, _, rfl, Own.nil _ _, Own.nil _ _, Sep.none_left _, below3 hD2 (by omega) _ _ _⟩

  · have HC2 := hid c2
    rw [inR_iff] at c2
    obtain ⟨x, hx⟩ : ∃ x, x = V.shape[k] - n + 1 := ⟨_, rfl⟩
    have HX := hid (show (winV V k n).shape = V.shape.set k x ++ [n] ∧ (winV V k n).strides = V.strides ++ [V.strides[k]] by simp only [winV, hgd, hgt, hx, and_self])
    have HQ := hid (show winL V k n = madeL (winV V k n) ∧ winB V k n = isViewL (winV V k n) by
      have := win_yes (show winOk V k n = true by simp only [winOk, hasDimL, Int.toNat_natCast, hgd, c0, inR_yes c2.1 c2.2]; simp [hkl])
      simpa using this)
    have hw1 : IntKind.i64.wrap (V.shape[k] - n) = V.shape[k] - n := IntWalk.i64_in _ (by omega)
    have hw2 : IntKind.i64.wrap (V.shape[k] - n + 1) = x := by rw [hx]; exact IntWalk.i64_in _ (by omega)
    clear c0 c1 hgd hgt hx
    go_enter Try.func173, Try.ntmps173
    go_wp2_with fail
    generalize (w.alloc (.cells #[.int .i64 V.base, .slice As V.shape.length cs, .slice At V.strides.length ct] 43)).alloc (.cells #[.int .i64 0, .slice none 0 0, .slice none 0 0] 43) = W1 at *
    refine (validView_any _ V _ (hv0.ext hW)).mono ?_; rintro e w1 ⟨rfl, hb1⟩
    rw [HC0.out]
    have hD1 := hW.nx hb1 hW.size
    have hz1 := hb1.size
    obtain ⟨⟨q0, q1, q2⟩, -⟩ := (hA.nx hb1).all3
    go_wp2_with fail
    refine (isDim_any _ V k _ (hv0.ext hD1)).mono ?_; rintro e w2 ⟨rfl, hb2⟩
    rw [HC1.out]
    have hD2 := hD1.nx hb2 hD1.size
    have hz2 := hb2.size
    clear q0 q1 q2
    have hA2 := (hA.nx hb1).nx hb2
    obtain ⟨⟨q0, q1, q2⟩, -⟩ := id hA2.all3
    obtain ⟨A', c', e', -, -, hr⟩ := id hsv
    simp only [Value.slice.injEq, true_and] at e'
    obtain ⟨rfl, rfl⟩ := e'
    obtain ⟨bs, os, rfl, hbs, hcs1⟩ := hr (by omega)
    have hxs1 := hcs1 k V.shape[k] (by simp [hkl])
    have hx0 := (hD2.cell (p := ⟨bs, os + k, none⟩) hbs).trans hxs1
    clear hr hcs1
    have hki : (k : Int) < (V.shape.length : Int) := by omega
    go_wp2_with fail
    refine (inRange_any _ _ _ _).mono ?_; rintro e w' ⟨rfl, rfl⟩
    rw [HC2.out]
    have hD3 := hD2
    have hA3 := hA2
    have hR3 := (hR.nx hb1).nx hb2
    have hsv := hsv
    clear hx0
    go_wp2_with fail
    refine (scopyView_any _ V _ (hv0.ext hD3) (by omega) (by omega)).mono ?_; rintro e w4 ⟨s4, t4, rfl, ho4, ho5, hsep4, hb4⟩
    have hz4 := hb4.size
    have hD4 := hD3.nx hb4 hD3.size
    have hA4 := hA3.nx hb4
    have hR4 := hR3.nx hb4
    obtain ⟨gs, caps, rfl, hgs1, hgs2⟩ := ho4.row (by omega)
    have hcap : caps ≤ 9223372036854775807 := by obtain ⟨_, _, e, _, h, _⟩ := ho4.ints; simp only [Value.slice.injEq] at e; obtain ⟨-, -, rfl⟩ := e; unfold maxLen at h; omega
    obtain ⟨A5, c5, e5⟩ := ho5.form
    subst e5
    have hlt4 := ho4.lt
    have hlt5 := ho5.lt
    have hG5 : GrowView w2.heap.size (w4.alloc (.cells #[.int .i64 V.base, .slice (some ⟨gs, 0, none⟩) V.shape.length caps, .slice A5 V.strides.length c5] 43)) w4.heap.size V.base (.slice (some ⟨gs, 0, none⟩) V.shape.length caps) (.slice A5 V.strides.length c5) V.shape V.strides :=
      ⟨Blk.new w4 43 _, ho4.alloc _, ho5.alloc _, fun q hq => by have := hlt4 q hq; omega, fun q hq => by have := hlt5 q hq; omega, hsep4⟩
    have HG5 := hid hG5
    clear hG5 hlt4 hlt5 ho4 ho5
    have hb5 := below_alloc w4 (.cells #[.int .i64 V.base, .slice (some ⟨gs, 0, none⟩) V.shape.length caps, .slice A5 V.strides.length c5] 43)
    have hz5 : w4.heap.size + 1 ≤ (w4.alloc (.cells #[.int .i64 V.base, .slice (some ⟨gs, 0, none⟩) V.shape.length caps, .slice A5 V.strides.length c5] 43)).heap.size := by simp
    go_upto_region 4 with fail
    generalize w4.alloc (.cells #[.int .i64 V.base, .slice (some ⟨gs, 0, none⟩) V.shape.length caps, .slice A5 V.strides.length c5] 43) = w5 at *
    have hD5 := hD4.nx hb5 hD4.size
    have hA5 := hA4.nx hb5
    have hR5 := hR4.nx hb5
    obtain ⟨B, hB⟩ : ∃ B, B = w2.heap.size := ⟨_, rfl⟩
    obtain ⟨g, hg⟩ : ∃ g, g = w4.heap.size := ⟨_, rfl⟩
    rw [← hB, ← hg] at HG5
    rw [← hB] at hgs1
    rw [← hg] at hgs2 hz5
    rw [← hg]
    have HBg := hid (show w.heap.size + 2 ≤ B ∧ B ≤ g by omega)
    clear hB hg
    have hG5 := HG5.out
    obtain ⟨⟨g0, g1, g2⟩, -⟩ := id hG5.box.all3
    obtain ⟨⟨q0, q1, q2⟩, -⟩ := id hA5.all3
    have hyc := hG5.s.cell k hkl
    have hyf := hG5.s.free k
    obtain ⟨A', c', e', -, -, hr2⟩ := htv
    simp only [Value.slice.injEq, true_and] at e'
    obtain ⟨rfl, rfl⟩ := e'
    obtain ⟨bt, ot, rfl, hbt, hct1⟩ := hr2 (by omega)
    have hxs := (hD5.cell (p := ⟨bs, os + k, none⟩) hbs).trans hxs1
    have hxt1 := hct1 k V.strides[k] (by simp [hkt])
    clear hr2 hct1
    have hki : (k : Int) < (V.shape.length : Int) := by omega
    have hki2 : (k : Int) < (V.strides.length : Int) := by omega
    clear hG5
    go_still_tail 12, (by kernel_rfl)
    go_upto_region 5 with fail
    have hG6 : GrowView B (w5.setCell ⟨gs, k, none⟩ (.int .i64 x)).drew g V.base (.slice (some ⟨gs, 0, none⟩) V.shape.length caps) (.slice A5 V.strides.length c5) (V.shape.set k x) V.strides := (HG5.out.putS k x).nx (below_drew _)
    have hb6 : Below B w5 (w5.setCell ⟨gs, k, none⟩ (.int .i64 x)).drew := ((Below.refl B w5).setCell (p := ⟨gs, k, none⟩) hgs1 _).drew
    have hz6 : g + 1 ≤ ((w5.setCell ⟨gs, k, none⟩ (.int .i64 x)).drew).heap.size := by have := hb6.size; omega
    generalize (w5.setCell ⟨gs, k, none⟩ (.int .i64 x)).drew = w6 at *
    have hBB := HBg.out.1
    have hgB := HBg.out.2
    have hD6 := hD5.trans (hb6.mono (by omega))
    have hA6 : Blk w6 w.heap.size 43 #[.int .i64 V.base, .slice (some ⟨bs, os, none⟩) V.shape.length cs, .slice (some ⟨bt, ot, none⟩) V.strides.length ct] := (hb6.block _ (by omega)).trans hA5
    have hR6 : Blk w6 (w.heap.size + 1) 43 #[.int .i64 0, .slice none 0 0, .slice none 0 0] := (hb6.block _ (by omega)).trans hR5
    clear g0 g1 g2 q0 q1 q2 hyc hyf hxs hA5 hR5 hA4 hR4
    obtain ⟨⟨g0, g1, g2⟩, -⟩ := id hG6.box.all3
    obtain ⟨⟨gg0, gg1, gg2⟩, -⟩ := (hG6.box.alloc (.cells #[.int .i64 n] 3)).all3
    have hWo : Below w6.heap.size w6 (w6.alloc (.cells #[.int .i64 n] 3)) := below_lit1 w6 _
    have hWB : B ≤ (w6.alloc (.cells #[.int .i64 n] 3)).heap.size := by simp; omega
    have HLN := hid (show (V.shape.set k x).length ≤ 1000000000000 by simp; omega)
    have HLM := hid (show V.strides.length ≤ 1000000000000 by omega)
    have HZ6 := hid hz6
    clear hz6
    go_wp2_with (at_builtin; refine app1 _ rfl _ _ rfl B _ _ rfl (hG6.s.alloc _) ⟨w6.heap.size, 0, none⟩ 1 n rfl (cell_new1 _ _ _) HLN.out hWB ?_)
    intro s1 w1' ho1 hg1 hat1
    have hB1 := hG6.boxS hWo hg1
    obtain ⟨⟨b0, b1, b2⟩, bf0, bf1, bf2⟩ := id hB1.all3
    obtain ⟨As1, cs1, es1⟩ := ho1.form
    subst es1
    have HAT := hid hat1
    clear hat1
    go_upto_region 6 with fail
    have hat1 := HAT.out
    clear HAT
    simp only [List.length_append, List.length_cons, List.length_nil, Nat.zero_add, List.length_set] at ho1 hat1
    have hM := Mid.of_s (N := g + 1) hG6 hWo ho1 hg1 (by rw [World.size_alloc]; exact hat1) hD6 hBB hgB HZ6.out (by have := HZ6.out; omega) hA6 hR6
    clear hWB hWo hG6 hD6 hA6 hR6 hB1 b0 b1 b2 bf0 bf1 bf2 ho1 hg1 hat1 g0 g1 g2 gg0 gg1 gg2
    simp only [List.length_append, List.length_cons, List.length_nil, Nat.zero_add, List.length_set]
    generalize w1'.setCell ⟨g, 1, none⟩ (.slice As1 (V.shape.length + 1) cs1) = wc at *
    obtain ⟨s2, t2, hG, hb, hAr, hRr, hzr⟩ := hM
    obtain ⟨Sa2, Sc2, eS⟩ := hG.s.form
    obtain ⟨Ta2, Tc2, eT⟩ := hG.t.form
    subst eS eT
    have HZ2 := hid hzr
    clear hzr
    have hxt := (hb.cell (p := ⟨bt, ot + k, none⟩) hbt).trans hxt1
    have hWo : Below wc.heap.size wc (wc.alloc (.cells #[.int .i64 V.strides[k]] 3)).drew := (below_lit1 wc _).drew
    have hWc : (wc.alloc (.cells #[.int .i64 V.strides[k]] 3)).drew.cell? ⟨wc.heap.size, 0, none⟩ = some (.int .i64 V.strides[k]) := cell_new1 wc _ _
    have hWB : B ≤ (wc.alloc (.cells #[.int .i64 V.strides[k]] 3)).drew.heap.size := by have := HZ2.out; simp; omega
    obtain ⟨⟨q0, q1, q2⟩, -⟩ := id hAr.all3
    obtain ⟨⟨g0, g1, g2⟩, -⟩ := id hG.box.all3
    obtain ⟨⟨gg0, gg1, gg2⟩, -⟩ := (hG.box.alloc (.cells #[.int .i64 V.strides[k]] 3)).all3
    obtain ⟨⟨qq0, qq1, qq2⟩, -⟩ := (hAr.alloc (.cells #[.int .i64 V.strides[k]] 3)).all3
    have hxt' : (wc.alloc (.cells #[.int .i64 V.strides[k]] 3)).cell? ⟨bt, ot + k, none⟩ = some (.int .i64 V.strides[k]) := ((hb.nx (below_alloc wc _) hb.size).cell (p := ⟨bt, ot + k, none⟩) hbt).trans (by have := hb.cell (p := ⟨bt, ot + k, none⟩) hbt; rw [← this]; exact hxt)
    go_cut [] from 31 (fun wx => Mid w wx B g (g + 1) V.base (.slice (some ⟨bs, os, none⟩) V.shape.length cs) (.slice (some ⟨bt, ot, none⟩) V.strides.length ct) V.base (V.shape.set k x ++ [n]) (V.strides ++ [V.strides[k]]))
    case first =>
      go_region_law (refine step1 _ (by rfl) _ _ (by rfl) B _ _ (by rfl) (hG.t.nx hWo) ⟨wc.heap.size, 0, none⟩ 1 V.strides[k] (by rfl) hWc HLM.out hWB ?_; intro s1 w1 ho1 hg1 hat1; have hB1 := hG.boxT hWo hg1; obtain ⟨⟨b0, b1, b2⟩, bf0, bf1, bf2⟩ := id hB1.all3; obtain ⟨As1, cs1, es1⟩ := ho1.form; subst es1)
      all_goals (go_wp2_with fail; go_meet; simp only [List.length_append, List.length_cons, List.length_nil, Nat.zero_add] at ho1 hat1; exact Mid.of_t hG hWo ho1 hg1 hat1 hb hBB hgB HZ2.out (by have := HZ2.out; omega) hAr hRr)
    case rest =>
      clear hxt' hWc hWB hWo hG hb hAr hRr q0 q1 q2 g0 g1 g2 gg0 gg1 gg2 qq0 qq1 qq2
      obtain ⟨s3, t3, hG, hb, hAr, hRr, hzr⟩ := hcut
      have hO1 := hG.s
      have hO2 := hG.t
      rw [← HX.out.1] at hO1
      rw [← HX.out.2] at hO2
      obtain ⟨Sa3, Sc3, eS⟩ := hO1.form
      obtain ⟨Ta3, Tc3, eT⟩ := hO2.form
      subst eS eT
      obtain ⟨⟨g0, g1, g2⟩, gf0, gf1, gf2⟩ := id hG.box.all3
      go_wp2_with fail
      refine (made_any _ (winV V k n) _ (Own.view hO1 hO2)).mono ?_; rintro e w8 ⟨s8, t8, rfl, ho8, ho9, hsep, hb8⟩
      have hz8 := hb8.size
      have hD8 := hb.nx hb8 hb.size
      obtain ⟨⟨r0, r1, r2⟩, rf0, rf1, rf2⟩ := (hRr.nx hb8).all3
      obtain ⟨A8, c8, e8⟩ := ho8.form
      obtain ⟨A9, c9, e9⟩ := ho9.form
      subst e8 e9
      have ho8 := ho8.mono (B' := w.heap.size + 2) (by omega)
      have ho9 := ho9.mono (B' := w.heap.size + 2) (by omega)
      go_wp2
      refine bodyPost_ret (v := .tuple #[.agg #[.int .i64 (madeL (winV V k n)).base, .slice A8 (madeL (winV V k n)).shape.length c8, .slice A9 (madeL (winV V k n)).strides.length c9], .bool (isViewL (winV V k n))]) (by simp [results, Try.results173, go_sem, r0, r1, r2]) rfl ?_
      rw [HQ.out.1, HQ.out.2]
      exact ⟨_, _, rfl, (own3b ho8 (by omega) _ _ _).mono (by omega), (own3b ho9 (by omega) _ _ _).mono (by omega), hsep, below3 hD8 (by omega) _ _ _⟩

end Go.Proofs.Ytldblcolnjkcaaa
