/- Contract: WindowsOf. No conditions. (printed by mkh.py) -/
import Derived.Test.YtpcahfdpbbcapaaH1
import Derived.Deep.DeepCutAuto
namespace Go.Proofs.Ytpcahfdpbbcapaa
open Go.RowKit

set_option maxRecDepth 100000 in
set_option maxHeartbeats 6400000 in
theorem WindowsOf_any (v : Value) (V : VL) (d n : Int) (w : World) (hv : ViewV w v V) (wd : -9223372036854775808 ≤ d ∧ d ≤ 9223372036854775807) (wn : -9223372036854775808 ≤ n ∧ n ≤ 9223372036854775807) :
    Calls Try.prog 52 #[v, .int .i64 d, .int .i64 n] w (RetViewB w (winL V d n) (winB V d n)) := by
  have hv0 := hv
  obtain ⟨sv, tv, rfl, hsv, htv⟩ := hv
  obtain ⟨As, cs, es, -, hcs, -⟩ := id hsv
  subst es
  obtain ⟨At, ct, et, -, hct, -⟩ := id htv
  subst et
  unfold maxLen at hcs hct
  have hA := (Blk.new w 36 #[.int .i64 V.base, .slice As V.shape.length cs, .slice At V.strides.length ct]).alloc (.cells #[.int .i64 0, .slice none 0 0, .slice none 0 0] 36)
  have hR := Blk.new (w.alloc (.cells #[.int .i64 V.base, .slice As V.shape.length cs, .slice At V.strides.length ct] 36)) 36 #[.int .i64 0, .slice none 0 0, .slice none 0 0]
  have hW : Below w.heap.size w ((w.alloc (.cells #[.int .i64 V.base, .slice As V.shape.length cs, .slice At V.strides.length ct] 36)).alloc (.cells #[.int .i64 0, .slice none 0 0, .slice none 0 0] 36)) := ((Below.refl _ _).alloc (Nat.le_refl _) _).alloc (by simp) _
  simp only [World.size_alloc] at hR
  have hn0 := hA.lt
  have hn1 := hR.lt
  cases c0 : hasDimL V d
  · have HC0 := hid c0
    have HQ := hid (win_no (show winOk V d n = false by simp [winOk, c0]))
    clear c0
    go_enter Try.func52, Try.ntmps52
    go_wp2_with fail
    generalize (w.alloc (.cells #[.int .i64 V.base, .slice As V.shape.length cs, .slice At V.strides.length ct] 36)).alloc (.cells #[.int .i64 0, .slice none 0 0, .slice none 0 0] 36) = W1 at *
    refine (hasDim_any _ V d _ (hv0.ext hW) wd).mono ?_; rintro e w1 ⟨rfl, hb1⟩
    rw [HC0.out]
    have hD1 := hW.nx hb1 hW.size
    have hz1 := hb1.size
    obtain ⟨⟨r0, r1, r2⟩, rf0, rf1, rf2⟩ := (hR.nx hb1).all3
    go_wp2
    refine bodyPost_ret (v := .tuple #[.agg #[.int .i64 0, .slice none 0 0, .slice none 0 0], .bool false]) (by simp [results, Try.results52, go_sem, r0, r1, r2]) rfl ?_
    rw [HQ.out.1, HQ.out.2]
    exact ⟨_, _, rfl, Own.nil _ _, Own.nil _ _, Sep.none_left _, below3 hD1 (by omega) _ _ _⟩

  have HC0 := hid c0
  have hdd : 0 ≤ d ∧ d < V.shape.length := by simp only [hasDimL, Bool.and_eq_true, decide_eq_true_eq] at c0; omega
  have cV : isViewL V = true := by simp only [hasDimL, Bool.and_eq_true] at c0; exact c0.1.1
  obtain ⟨k, rfl⟩ : ∃ k : Nat, d = (k : Int) := ⟨d.toNat, by omega⟩
  have hl4 := (isViewL_lens cV).1
  have hl4t := (isViewL_lens cV).2
  have HTL := hid (isViewL_and cV).2.1
  have hkl : k < V.shape.length := by omega
  have hkt : k < V.strides.length := by have := HTL.out; omega
  have hsb := shape_le cV hkl
  have hgd : V.shape.getD k 0 = V.shape[k] := by simp [hkl]
  have hgt : V.strides.getD k 0 = V.strides[k] := by simp [hkt]
  clear hdd cV
  by_cases c2 : n < 1
  · have HQ := hid (win_no (show winOk V k n = false by simp only [winOk, Int.toNat_natCast, hgd, inR_no (show n < 1 ∨ V.shape[k] < n from .inl c2)]; simp))
    clear c0 hgd hgt
    go_enter Try.func52, Try.ntmps52
    go_wp2_with fail
    generalize (w.alloc (.cells #[.int .i64 V.base, .slice As V.shape.length cs, .slice At V.strides.length ct] 36)).alloc (.cells #[.int .i64 0, .slice none 0 0, .slice none 0 0] 36) = W1 at *
    refine (hasDim_any _ V k _ (hv0.ext hW) wd).mono ?_; rintro e w1 ⟨rfl, hb1⟩
    rw [HC0.out]
    have hD1 := hW.nx hb1 hW.size
    have hz1 := hb1.size
    obtain ⟨⟨r0, r1, r2⟩, rf0, rf1, rf2⟩ := (hR.nx hb1).all3
    go_wp2
    refine bodyPost_ret (v := .tuple #[.agg #[.int .i64 0, .slice none 0 0, .slice none 0 0], .bool false]) (by simp [results, Try.results52, go_sem, r0, r1, r2]) rfl ?_
    rw [HQ.out.1, HQ.out.2]
    exact ⟨_, _, rfl, Own.nil _ _, Own.nil _ _, Sep.none_left _, below3 hD1 (by omega) _ _ _⟩

  have c2' : 1 ≤ n := by omega
  by_cases c3 : V.shape[k] < n
  · have HQ := hid (win_no (show winOk V k n = false by simp only [winOk, Int.toNat_natCast, hgd, inR_no (show n < 1 ∨ V.shape[k] < n from .inr c3)]; simp))
    clear c0 hgd hgt c2
    go_enter Try.func52, Try.ntmps52
    go_wp2_with fail
    generalize (w.alloc (.cells #[.int .i64 V.base, .slice As V.shape.length cs, .slice At V.strides.length ct] 36)).alloc (.cells #[.int .i64 0, .slice none 0 0, .slice none 0 0] 36) = W1 at *
    refine (hasDim_any _ V k _ (hv0.ext hW) wd).mono ?_; rintro e w1 ⟨rfl, hb1⟩
    rw [HC0.out]
    have hD1 := hW.nx hb1 hW.size
    have hz1 := hb1.size
    have hA1 := hA.nx hb1
    obtain ⟨⟨q0, q1, q2⟩, -⟩ := id hA1.all3
    obtain ⟨A', c', e', -, -, hr⟩ := id hsv
    simp only [Value.slice.injEq, true_and] at e'
    obtain ⟨rfl, rfl⟩ := e'
    obtain ⟨bs, os, rfl, hbs, hcs1⟩ := hr (by omega)
    have hxs1 := hcs1 k V.shape[k] (by simp [hkl])
    have hx0 := (hD1.cell (p := ⟨bs, os + k, none⟩) hbs).trans hxs1
    clear hr hcs1
    have hki : (k : Int) < (V.shape.length : Int) := by omega
    obtain ⟨⟨r0, r1, r2⟩, rf0, rf1, rf2⟩ := (hR.nx hb1).all3
    go_wp2
    refine bodyPost_ret (v := .tuple #[.agg #[.int .i64 0, .slice none 0 0, .slice none 0 0], .bool false]) (by simp [results, Try.results52, go_sem, r0, r1, r2]) rfl ?_
    rw [HQ.out.1, HQ.out.2]
    exact ⟨_, _, rfl, Own.nil _ _, Own.nil _ _, Sep.none_left _, below3 hD1 (by omega) _ _ _⟩

  have c3' : n ≤ V.shape[k] := by omega
  by_cases c4 : V.shape.length = 4
  · have HQ := hid (win_full (d := (k : Int)) (n := n) c4)
    have hl4b : ((V.shape.length : Int) == 4) = true := by simp; omega
    clear c0 hgd hgt c2 c3 c4
    go_enter Try.func52, Try.ntmps52
    go_wp2_with fail
    generalize (w.alloc (.cells #[.int .i64 V.base, .slice As V.shape.length cs, .slice At V.strides.length ct] 36)).alloc (.cells #[.int .i64 0, .slice none 0 0, .slice none 0 0] 36) = W1 at *
    refine (hasDim_any _ V k _ (hv0.ext hW) wd).mono ?_; rintro e w1 ⟨rfl, hb1⟩
    rw [HC0.out]
    have hD1 := hW.nx hb1 hW.size
    have hz1 := hb1.size
    have hA1 := hA.nx hb1
    obtain ⟨⟨q0, q1, q2⟩, -⟩ := id hA1.all3
    obtain ⟨A', c', e', -, -, hr⟩ := id hsv
    simp only [Value.slice.injEq, true_and] at e'
    obtain ⟨rfl, rfl⟩ := e'
    obtain ⟨bs, os, rfl, hbs, hcs1⟩ := hr (by omega)
    have hxs1 := hcs1 k V.shape[k] (by simp [hkl])
    have hx0 := (hD1.cell (p := ⟨bs, os + k, none⟩) hbs).trans hxs1
    clear hr hcs1
    have hki : (k : Int) < (V.shape.length : Int) := by omega
    obtain ⟨⟨r0, r1, r2⟩, rf0, rf1, rf2⟩ := (hR.nx hb1).all3
    go_wp2
    refine bodyPost_ret (v := .tuple #[.agg #[.int .i64 0, .slice none 0 0, .slice none 0 0], .bool false]) (by simp [results, Try.results52, go_sem, r0, r1, r2]) rfl ?_
    rw [HQ.out.1, HQ.out.2]
    exact ⟨_, _, rfl, Own.nil _ _, Own.nil _ _, Sep.none_left _, below3 hD1 (by omega) _ _ _⟩

  · have hl4b : ((V.shape.length : Int) == 4) = false := by simp; omega
    obtain ⟨x, hx⟩ : ∃ x, x = V.shape[k] - n + 1 := ⟨_, rfl⟩
    have HX := hid (show (winV V k n).shape = V.shape.set k x ++ [n] ∧ (winV V k n).strides = V.strides ++ [V.strides[k]] by simp only [winV, hgd, hgt, hx, and_self])
    have HQ := hid (show winL V k n = madeL (winV V k n) ∧ winB V k n = isViewL (winV V k n) by
      have := win_yes (show winOk V k n = true by simp only [winOk, Int.toNat_natCast, hgd, c0, inR_yes c2' c3']; rfl)
      simpa using this)
    have hw1 : IntKind.i64.wrap (n - 1) = n - 1 := IntWalk.i64_in _ (by omega)
    have hw2 : IntKind.i64.wrap (V.shape[k] - (n - 1)) = x := by rw [show V.shape[k] - (n - 1) = x by omega]; exact IntWalk.i64_in _ (by omega)
    clear c0 hgd hgt hx c2 c3 c4
    go_enter Try.func52, Try.ntmps52
    go_wp2_with fail
    generalize (w.alloc (.cells #[.int .i64 V.base, .slice As V.shape.length cs, .slice At V.strides.length ct] 36)).alloc (.cells #[.int .i64 0, .slice none 0 0, .slice none 0 0] 36) = W1 at *
    refine (hasDim_any _ V k _ (hv0.ext hW) wd).mono ?_; rintro e w1 ⟨rfl, hb1⟩
    rw [HC0.out]
    have hD1 := hW.nx hb1 hW.size
    have hz1 := hb1.size
    have hA1 := hA.nx hb1
    obtain ⟨⟨q0, q1, q2⟩, -⟩ := id hA1.all3
    obtain ⟨A', c', e', -, -, hr⟩ := id hsv
    simp only [Value.slice.injEq, true_and] at e'
    obtain ⟨rfl, rfl⟩ := e'
    obtain ⟨bs, os, rfl, hbs, hcs1⟩ := hr (by omega)
    have hxs1 := hcs1 k V.shape[k] (by simp [hkl])
    have hx0 := (hD1.cell (p := ⟨bs, os + k, none⟩) hbs).trans hxs1
    clear hr hcs1
    have hki : (k : Int) < (V.shape.length : Int) := by omega
    have hD3 := hD1
    have hA3 := hA1
    have hR3 := hR.nx hb1
    go_wp2_with fail
    refine (icopyView_any _ V _ (hv0.ext hD3) (by omega) (by omega)).mono ?_; rintro e w4 ⟨s4, t4, rfl, ho4, ho5, hsep4, hb4⟩
    have hz4 := hb4.size
    have hD4 := hD3.nx hb4 hD3.size
    have hA4 := hA3.nx hb4
    have hR4 := hR3.nx hb4
    obtain ⟨gs, caps, rfl, hgs1, hgs2⟩ := ho4.row (by omega)
    have hcap : caps ≤ 9223372036854775807 := by obtain ⟨_, _, e, _, h, _⟩ := ho4.ints; simp only [Value.slice.injEq] at e; obtain ⟨-, -, rfl⟩ := e; unfold maxLen at h; omega
    obtain ⟨A5, c5, e5⟩ := ho5.form
    subst e5
    have hlt4 := ho4.lt
    have hlt5 := ho5.lt
    have hG5 : GrowView w1.heap.size (w4.alloc (.cells #[.int .i64 V.base, .slice (some ⟨gs, 0, none⟩) V.shape.length caps, .slice A5 V.strides.length c5] 36)) w4.heap.size V.base (.slice (some ⟨gs, 0, none⟩) V.shape.length caps) (.slice A5 V.strides.length c5) V.shape V.strides :=
      ⟨Blk.new w4 36 _, ho4.alloc _, ho5.alloc _, fun q hq => by have := hlt4 q hq; omega, fun q hq => by have := hlt5 q hq; omega, hsep4⟩
    have HG5 := hid hG5
    clear hG5 hlt4 hlt5 ho4 ho5
    have hb5 := below_alloc w4 (.cells #[.int .i64 V.base, .slice (some ⟨gs, 0, none⟩) V.shape.length caps, .slice A5 V.strides.length c5] 36)
    have hz5 : w4.heap.size + 1 ≤ (w4.alloc (.cells #[.int .i64 V.base, .slice (some ⟨gs, 0, none⟩) V.shape.length caps, .slice A5 V.strides.length c5] 36)).heap.size := by simp
    go_upto_region 4 with fail
    generalize w4.alloc (.cells #[.int .i64 V.base, .slice (some ⟨gs, 0, none⟩) V.shape.length caps, .slice A5 V.strides.length c5] 36) = w5 at *
    have hD5 := hD4.nx hb5 hD4.size
    have hA5 := hA4.nx hb5
    have hR5 := hR4.nx hb5
    obtain ⟨B, hB⟩ : ∃ B, B = w1.heap.size := ⟨_, rfl⟩
    obtain ⟨g, hg⟩ : ∃ g, g = w4.heap.size := ⟨_, rfl⟩
    rw [← hB, ← hg] at HG5
    rw [← hB] at hgs1
    rw [← hg] at hgs2 hz5
    rw [← hg]
    have HBg := hid (show w.heap.size + 2 ≤ B ∧ B ≤ g by omega)
    clear hB hg
    have hG5 := HG5.out
    obtain ⟨⟨g0, g1, g2⟩, -⟩ := id hG5.box.all3
    obtain ⟨⟨q0, q1, q2⟩, -⟩ := id hA5.all3
    have hyc := hG5.s.cell k hkl
    have hyf := hG5.s.free k
    obtain ⟨A', c', e', -, -, hr2⟩ := htv
    simp only [Value.slice.injEq, true_and] at e'
    obtain ⟨rfl, rfl⟩ := e'
    obtain ⟨bt, ot, rfl, hbt, hct1⟩ := hr2 (by omega)
    have hxs := (hD5.cell (p := ⟨bs, os + k, none⟩) hbs).trans hxs1
    have hxt1 := hct1 k V.strides[k] (by simp [hkt])
    clear hr2 hct1
    have hki : (k : Int) < (V.shape.length : Int) := by omega
    have hki2 : (k : Int) < (V.strides.length : Int) := by omega
    clear hG5
    go_upto_region 5 with fail
    have hG6 : GrowView B (w5.setCell ⟨gs, k, none⟩ (.int .i64 x)) g V.base (.slice (some ⟨gs, 0, none⟩) V.shape.length caps) (.slice A5 V.strides.length c5) (V.shape.set k x) V.strides := HG5.out.putS k x
    have hb6 : Below B w5 (w5.setCell ⟨gs, k, none⟩ (.int .i64 x)) := (Below.refl B w5).setCell (p := ⟨gs, k, none⟩) hgs1 _
    have hz6 : g + 1 ≤ ((w5.setCell ⟨gs, k, none⟩ (.int .i64 x))).heap.size := by have := hb6.size; omega
    generalize (w5.setCell ⟨gs, k, none⟩ (.int .i64 x)) = w6 at *
    have hBB := HBg.out.1
    have hgB := HBg.out.2
    have hD6 := hD5.trans (hb6.mono (by omega))
    have hA6 : Blk w6 w.heap.size 36 #[.int .i64 V.base, .slice (some ⟨bs, os, none⟩) V.shape.length cs, .slice (some ⟨bt, ot, none⟩) V.strides.length ct] := (hb6.block _ (by omega)).trans hA5
    have hR6 : Blk w6 (w.heap.size + 1) 36 #[.int .i64 0, .slice none 0 0, .slice none 0 0] := (hb6.block _ (by omega)).trans hR5
    clear g0 g1 g2 q0 q1 q2 hyc hyf hxs hA5 hR5 hA4 hR4
    obtain ⟨⟨g0, g1, g2⟩, -⟩ := id hG6.box.all3
    obtain ⟨⟨gg0, gg1, gg2⟩, -⟩ := (hG6.box.alloc (.cells #[.int .i64 n] 3)).all3
    have hWo : Below w6.heap.size w6 (w6.alloc (.cells #[.int .i64 n] 3)) := below_lit1 w6 _
    have hWB : B ≤ (w6.alloc (.cells #[.int .i64 n] 3)).heap.size := by simp; omega
    have HLN := hid (show (V.shape.set k x).length ≤ 1000000000000 by simp; omega)
    have HLM := hid (show V.strides.length ≤ 1000000000000 by omega)
    have HZ6 := hid hz6
    clear hz6
    go_wp2_with (at_builtin; refine app1 _ rfl _ _ rfl B _ _ rfl (hG6.s.alloc _) ⟨w6.heap.size, 0, none⟩ 1 n rfl (cell_new1 _ _ _) HLN.out hWB ?_)
    intro s1 w1' ho1 hg1 hat1
    have hB1 := hG6.boxS hWo hg1
    obtain ⟨⟨b0, b1, b2⟩, bf0, bf1, bf2⟩ := id hB1.all3
    obtain ⟨As1, cs1, es1⟩ := ho1.form
    subst es1
    have HAT := hid hat1
    clear hat1
    go_upto_region 6 with fail
    have hat1 := HAT.out
    clear HAT
    simp only [List.length_append, List.length_cons, List.length_nil, Nat.zero_add, List.length_set] at ho1 hat1
    have hM := Mid.of_s (N := g + 1) hG6 hWo ho1 hg1 (by rw [World.size_alloc]; exact hat1) hD6 hBB hgB HZ6.out (by have := HZ6.out; omega) hA6 hR6
    clear hWB hWo hG6 hD6 hA6 hR6 hB1 b0 b1 b2 bf0 bf1 bf2 ho1 hg1 hat1 g0 g1 g2 gg0 gg1 gg2
    simp only [List.length_append, List.length_cons, List.length_nil, Nat.zero_add, List.length_set]
    generalize w1'.setCell ⟨g, 1, none⟩ (.slice As1 (V.shape.length + 1) cs1) = wc at *
    obtain ⟨s2, t2, hG, hb, hAr, hRr, hzr⟩ := hM
    obtain ⟨Sa2, Sc2, eS⟩ := hG.s.form
    obtain ⟨Ta2, Tc2, eT⟩ := hG.t.form
    subst eS eT
    have HZ2 := hid hzr
    clear hzr
    have hxt := (hb.cell (p := ⟨bt, ot + k, none⟩) hbt).trans hxt1
    have hWo : Below wc.heap.size wc (wc.alloc (.cells #[.int .i64 V.strides[k]] 3)).drew := (below_lit1 wc _).drew
    have hWc : (wc.alloc (.cells #[.int .i64 V.strides[k]] 3)).drew.cell? ⟨wc.heap.size, 0, none⟩ = some (.int .i64 V.strides[k]) := cell_new1 wc _ _
    have hWB : B ≤ (wc.alloc (.cells #[.int .i64 V.strides[k]] 3)).drew.heap.size := by have := HZ2.out; simp; omega
    obtain ⟨⟨q0, q1, q2⟩, -⟩ := id hAr.all3
    obtain ⟨⟨g0, g1, g2⟩, -⟩ := id hG.box.all3
    obtain ⟨⟨gg0, gg1, gg2⟩, -⟩ := (hG.box.alloc (.cells #[.int .i64 V.strides[k]] 3)).all3
    obtain ⟨⟨qq0, qq1, qq2⟩, -⟩ := (hAr.alloc (.cells #[.int .i64 V.strides[k]] 3)).all3
    have hxt' : (wc.alloc (.cells #[.int .i64 V.strides[k]] 3)).cell? ⟨bt, ot + k, none⟩ = some (.int .i64 V.strides[k]) := ((hb.nx (below_alloc wc _) hb.size).cell (p := ⟨bt, ot + k, none⟩) hbt).trans (by have := hb.cell (p := ⟨bt, ot + k, none⟩) hbt; rw [← this]; exact hxt)
    go_cut [] from 35 (fun wx => Mid w wx B g (g + 1) V.base (.slice (some ⟨bs, os, none⟩) V.shape.length cs) (.slice (some ⟨bt, ot, none⟩) V.strides.length ct) V.base (V.shape.set k x ++ [n]) (V.strides ++ [V.strides[k]]))
    case first =>
      go_region_law (refine step1 _ (by rfl) _ _ (by rfl) B _ _ (by rfl) (hG.t.nx hWo) ⟨wc.heap.size, 0, none⟩ 1 V.strides[k] (by rfl) hWc HLM.out hWB ?_; intro s1 w1 ho1 hg1 hat1; have hB1 := hG.boxT hWo hg1; obtain ⟨⟨b0, b1, b2⟩, bf0, bf1, bf2⟩ := id hB1.all3; obtain ⟨As1, cs1, es1⟩ := ho1.form; subst es1)
      all_goals (go_wp2_with fail; go_meet; simp only [List.length_append, List.length_cons, List.length_nil, Nat.zero_add] at ho1 hat1; exact Mid.of_t hG hWo ho1 hg1 hat1 hb hBB hgB HZ2.out (by have := HZ2.out; omega) hAr hRr)
    case rest =>
      clear hxt' hWc hWB hWo hG hb hAr hRr q0 q1 q2 g0 g1 g2 gg0 gg1 gg2 qq0 qq1 qq2
      obtain ⟨s3, t3, hG, hb, hAr, hRr, hzr⟩ := hcut
      have hO1 := hG.s
      have hO2 := hG.t
      rw [← HX.out.1] at hO1
      rw [← HX.out.2] at hO2
      obtain ⟨Sa3, Sc3, eS⟩ := hO1.form
      obtain ⟨Ta3, Tc3, eT⟩ := hO2.form
      subst eS eT
      obtain ⟨⟨g0, g1, g2⟩, gf0, gf1, gf2⟩ := id hG.box.all3
      cases cw : isViewL (winV V k n)
      · have HCW := hid cw
        have HQ := hid (show winL V k n = VL.zero ∧ winB V k n = false by rw [HQ.out.1, HQ.out.2, cw]; simp [madeL, cw])
        clear cw
        go_wp2_with fail
        refine (isView_any _ (winV V k n) _ (Own.view hO1 hO2)).mono ?_; rintro e w8 ⟨rfl, hb8⟩
        rw [HCW.out]
        have hz8 := hb8.size
        have hD8 := hb.nx hb8 hb.size
        obtain ⟨⟨r0, r1, r2⟩, rf0, rf1, rf2⟩ := (hRr.nx hb8).all3
        go_wp2
        refine bodyPost_ret (v := .tuple #[.agg #[.int .i64 0, .slice none 0 0, .slice none 0 0], .bool false]) (by simp [results, Try.results52, go_sem, r0, r1, r2]) rfl ?_
        rw [HQ.out.1, HQ.out.2]
        exact ⟨_, _, rfl, Own.nil _ _, Own.nil _ _, Sep.none_left _, below3 hD8 (by omega) _ _ _⟩
      · have HCW := hid cw
        have HQ := hid (show winL V k n = winV V k n ∧ winB V k n = true by rw [HQ.out.1, HQ.out.2, cw]; simp [madeL, cw])
        clear cw
        have hBB := HBg.out.1
        go_wp2_with fail
        refine (isView_any _ (winV V k n) _ (Own.view hO1 hO2)).mono ?_; rintro e w8 ⟨rfl, hb8⟩
        rw [HCW.out]
        have hz8 := hb8.size
        have hD8 := hb.nx hb8 hb.size
        have hO1 := hO1.nx hb8
        have hO2 := hO2.nx hb8
        have hsep := hG.sep
        clear g0 g1 g2 gf0 gf1 gf2
        obtain ⟨⟨g0, g1, g2⟩, gf0, gf1, gf2⟩ := (hG.box.nx hb8).all3
        obtain ⟨⟨r0, r1, r2⟩, rf0, rf1, rf2⟩ := (hRr.nx hb8).all3
        clear hG
        go_wp2
        refine bodyPost_ret (v := .tuple #[.agg #[.int .i64 V.base, .slice Sa3 (winV V k n).shape.length Sc3, .slice Ta3 (winV V k n).strides.length Tc3], .bool true]) (by simp [results, Try.results52, go_sem, r0, r1, r2]) rfl ?_
        rw [HQ.out.1, HQ.out.2]
        exact ⟨_, _, rfl, (own3b hO1 (by omega) _ _ _).mono (by omega), (own3b hO2 (by omega) _ _ _).mono (by omega), hsep, below3 hD8 (by omega) _ _ _⟩

end Go.Proofs.Ytpcahfdpbbcapaa
