/- Contract: SpreadTo. No conditions. (printed by mkp.py) -/
import Derived.Test.YtldblcolnjkcaaaZ2
import Derived.Test.YtldblcolnjkcaaaGm
import Derived.Test.YtldblcolnjkcaaaC4
import Derived.Test.YtldblcolnjkcaaaV1
import Derived.StillTailTactics
import Derived.Deep.Cut
namespace Go.Proofs.Ytldblcolnjkcaaa
open Go.RowKit

/-- Between the rounds. -/
def SpRel (W1 : World) (A4 : Option Addr) (c4 g7 g9 : Nat) (V : VL) (X : List Int) (i : Value) (wr : World) : Prop :=
  ∃ k : Nat, k ≤ V.shape.length ∧ i = .int .i64 k ∧ (∀ j, j < k → fitAt V X j = true) ∧ Hp W1.heap.size W1 wr [.ints (.slice A4 X.length c4) X, .ints (.slice (some ⟨g7, 0, none⟩) X.length X.length) (spS V X k), .blk g9 43 #[.int .i64 V.base, .slice A4 X.length c4, .slice (some ⟨g7, 0, none⟩) X.length X.length]]

set_option maxRecDepth 100000 in
set_option maxHeartbeats 6400000 in
theorem SpreadTo_any (v vx : Value) (V : VL) (X : List Int) (w : World) (hv : ViewV w v V) (hx : Ints w vx X) :
    Calls Try.prog 43 #[v, vx] w (RetViewB w (spreadL V X) (okSpread V X)) := by
  have hv0 := hv
  obtain ⟨sv, tv, rfl, hsv, htv⟩ := hv
  obtain ⟨As, cs, es, hcs0, hcs, -⟩ := id hsv
  subst es
  obtain ⟨At, ct, et, hct0, hct, -⟩ := id htv
  subst et
  have hx0 := hx
  obtain ⟨Ax, cx, ex, hcx0, hcx, -⟩ := id hx
  subst ex
  unfold maxLen at hcs hct hcx
  have hA := (Blk.new w 43 #[.int .i64 V.base, .slice As V.shape.length cs, .slice At V.strides.length ct]).alloc (.cells #[.int .i64 0, .slice none 0 0, .slice none 0 0] 43)
  have hR := Blk.new (w.alloc (.cells #[.int .i64 V.base, .slice As V.shape.length cs, .slice At V.strides.length ct] 43)) 43 #[.int .i64 0, .slice none 0 0, .slice none 0 0]
  simp only [World.size_alloc] at hR
  have hW : Below w.heap.size w ((w.alloc (.cells #[.int .i64 V.base, .slice As V.shape.length cs, .slice At V.strides.length ct] 43)).alloc (.cells #[.int .i64 0, .slice none 0 0, .slice none 0 0] 43)) := ((Below.refl _ _).alloc (Nat.le_refl _) _).alloc (by simp <;> omega) _
  have hnA := hA.lt
  have hnR := hR.lt
  generalize hW1 : ((w.alloc (.cells #[.int .i64 V.base, .slice As V.shape.length cs, .slice At V.strides.length ct] 43)).alloc (.cells #[.int .i64 0, .slice none 0 0, .slice none 0 0] 43)) = W1 at *
  have HZ1 := hid (show W1.heap.size = w.heap.size + 2 by rw [← hW1]; simp)
  have HW1 := hid hW1
  clear hW1
  have hxs1 := hx0.ext hW
  have hsub : -9223372036854775808 ≤ (X.length : Int) - (V.shape.length : Int) ∧ (X.length : Int) - (V.shape.length : Int) ≤ 9223372036854775807 := by omega
  cases cV : isViewL V
  · have HQ := hid (show spreadL V X = VL.zero ∧ okSpread V X = false by
      have h : okSpread V X = false := by simp [okSpread, cV]
      exact ⟨spread_no h, h⟩)
    go_enter Try.func43, Try.ntmps43
    go_upto_region 1 with fail
    rw [HW1.out]
    clear HW1
    have H0 := Hp.start W1
    obtain ⟨⟨q1_0, q1_1, q1_2⟩, r1_0, r1_1, r1_2⟩ := ((Blk.ext hA H0.below hA.lt)).all3
    go_wp2_with fail
    refine (isView_any _ V _ ((hv0.ext hW).ext H0.below)).mono ?_; rintro e w2 ⟨rfl, hb2⟩
    clear q1_0 q1_1 q1_2 r1_0 r1_1 r1_2
    have H2 := H0.nx hb2
    obtain ⟨⟨q2_0, q2_1, q2_2⟩, r2_0, r2_1, r2_2⟩ := ((Blk.ext hR H2.below hR.lt)).all3
    go_wp2
    refine bodyPost_ret (v := .tuple #[.agg #[.int .i64 0, .slice none 0 0, .slice none 0 0], .bool false]) (by simp [results, Try.results43, go_sem, q2_0, q2_1, q2_2]) rfl ?_
    rw [HQ.out.1, HQ.out.2]
    exact ⟨_, _, rfl, Own.nil _ _, Own.nil _ _, Sep.none_left _, below3 (hW.trans (H2.below.mono hW.size)) (by omega) _ _ _⟩
  cases cX : isShapeL X
  · have HQ := hid (show spreadL V X = VL.zero ∧ okSpread V X = false by
      have h : okSpread V X = false := by simp [okSpread, cX]
      exact ⟨spread_no h, h⟩)
    go_enter Try.func43, Try.ntmps43
    go_upto_region 1 with fail
    rw [HW1.out]
    clear HW1
    have H0 := Hp.start W1
    obtain ⟨⟨q1_0, q1_1, q1_2⟩, r1_0, r1_1, r1_2⟩ := ((Blk.ext hA H0.below hA.lt)).all3
    go_wp2_with fail
    refine (isView_any _ V _ ((hv0.ext hW).ext H0.below)).mono ?_; rintro e w2 ⟨rfl, hb2⟩
    clear q1_0 q1_1 q1_2 r1_0 r1_1 r1_2
    have H2 := H0.nx hb2
    obtain ⟨⟨q2_0, q2_1, q2_2⟩, r2_0, r2_1, r2_2⟩ := ((Blk.ext hA H2.below hA.lt)).all3
    go_wp2_with fail
    refine (isShape_any _ X _ (hxs1.ext H2.below)).mono ?_; rintro e w' ⟨rfl, rfl⟩
    obtain ⟨⟨q3_0, q3_1, q3_2⟩, r3_0, r3_1, r3_2⟩ := ((Blk.ext hR H2.below hR.lt)).all3
    go_wp2
    refine bodyPost_ret (v := .tuple #[.agg #[.int .i64 0, .slice none 0 0, .slice none 0 0], .bool false]) (by simp [results, Try.results43, go_sem, q3_0, q3_1, q3_2]) rfl ?_
    rw [HQ.out.1, HQ.out.2]
    exact ⟨_, _, rfl, Own.nil _ _, Own.nil _ _, Sep.none_left _, below3 (hW.trans (H2.below.mono hW.size)) (by omega) _ _ _⟩
  by_cases hle : X.length < V.shape.length
  · have HQ := hid (show spreadL V X = VL.zero ∧ okSpread V X = false by
      have h : okSpread V X = false := by simp [okSpread, cV, cX]; omega
      exact ⟨spread_no h, h⟩)
    have hlt0 : (X.length : Int) - (V.shape.length : Int) < 0 := by omega
    go_enter Try.func43, Try.ntmps43
    go_upto_region 1 with fail
    rw [HW1.out]
    clear HW1
    have H0 := Hp.start W1
    obtain ⟨⟨q1_0, q1_1, q1_2⟩, r1_0, r1_1, r1_2⟩ := ((Blk.ext hA H0.below hA.lt)).all3
    go_wp2_with fail
    refine (isView_any _ V _ ((hv0.ext hW).ext H0.below)).mono ?_; rintro e w2 ⟨rfl, hb2⟩
    clear q1_0 q1_1 q1_2 r1_0 r1_1 r1_2
    have H2 := H0.nx hb2
    obtain ⟨⟨q2_0, q2_1, q2_2⟩, r2_0, r2_1, r2_2⟩ := ((Blk.ext hA H2.below hA.lt)).all3
    go_wp2_with fail
    refine (isShape_any _ X _ (hxs1.ext H2.below)).mono ?_; rintro e w' ⟨rfl, rfl⟩
    obtain ⟨⟨q3_0, q3_1, q3_2⟩, r3_0, r3_1, r3_2⟩ := ((Blk.ext hR H2.below hR.lt)).all3
    go_wp2
    refine bodyPost_ret (v := .tuple #[.agg #[.int .i64 0, .slice none 0 0, .slice none 0 0], .bool false]) (by simp [results, Try.results43, go_sem, q3_0, q3_1, q3_2]) rfl ?_
    rw [HQ.out.1, HQ.out.2]
    exact ⟨_, _, rfl, Own.nil _ _, Own.nil _ _, Sep.none_left _, below3 (hW.trans (H2.below.mono hW.size)) (by omega) _ _ _⟩
  have hl4 := (isViewL_lens cV).1
  have hl4t := (isViewL_lens cV).2
  have hlX := (shape_ext cX).1
  have hlt := (isViewL_and cV).2.1
  have HLT := hid hlt
  clear hlt
  have hnn : ¬ (X.length : Int) - (V.shape.length : Int) < 0 := by omega
  have HOK : Hid ((∀ j, j < V.shape.length → fitAt V X j = true) → spreadL V X = tidyL (spreadV V X) ∧ okSpread V X = true) := hid (fun h => by
    have h1 : okSpread V X = true := by
      simp only [okSpread, cV, cX, Bool.true_and, Bool.and_eq_true, decide_eq_true_eq, List.all_eq_true, List.mem_range]
      exact ⟨by omega, h⟩
    exact ⟨by simp [spreadL, h1], h1⟩)
  go_enter Try.func43, Try.ntmps43
  go_upto_region 1 with fail
  rw [HW1.out]
  clear HW1
  have H0 := Hp.start W1
  obtain ⟨⟨q1_0, q1_1, q1_2⟩, r1_0, r1_1, r1_2⟩ := ((Blk.ext hA H0.below hA.lt)).all3
  go_wp2_with fail
  refine (isView_any _ V _ ((hv0.ext hW).ext H0.below)).mono ?_; rintro e w2 ⟨rfl, hb2⟩
  clear q1_0 q1_1 q1_2 r1_0 r1_1 r1_2
  have H2 := H0.nx hb2
  obtain ⟨⟨q2_0, q2_1, q2_2⟩, r2_0, r2_1, r2_2⟩ := ((Blk.ext hA H2.below hA.lt)).all3
  go_wp2_with fail
  refine (isShape_any _ X _ (hxs1.ext H2.below)).mono ?_; rintro e w' ⟨rfl, rfl⟩
  go_upto_region 4 with fail
  clear q2_0 q2_1 q2_2 r2_0 r2_1 r2_2
  have qqA := fun x : ExtW w2 => (Blk.ext (Blk.ext hA H2.below hA.lt) x.h (Blk.ext hA H2.below hA.lt).lt).all3.1
  have HIX := hid (fun x : ExtW w2 => (hxs1.ext H2.below).ext x.h)
  refine region_mk 10 (by kernel_rfl) (by kernel_rfl) ?_
  apply Exists.intro
  simp only [List.take_succ_cons, List.take_zero, List.drop_succ_cons, List.drop_zero]
  repeat (first
    | (apply grow_val (by rfl); (focus (intro x; (go_simp; try with_reducible rfl); done)); simp only [Act.put, List.setIfInBounds_toArray, List.set_cons_zero, List.set_cons_succ])
    | (apply grow_skip (by rfl); simp only [Act.put, List.setIfInBounds_toArray, List.set_cons_zero, List.set_cons_succ]))
  apply grow_lit (by rfl) (by rfl)
  intro g2 hg2 F2 O2 hF2 hO2
  simp only [Act.put, List.setIfInBounds_toArray, List.set_cons_zero, List.set_cons_succ]
  repeat (first
    | (apply grow_val (by rfl); (focus (intro x; (go_simp; try with_reducible rfl); done)); simp only [Act.put, List.setIfInBounds_toArray, List.set_cons_zero, List.set_cons_succ])
    | (apply grow_skip (by rfl); simp only [Act.put, List.setIfInBounds_toArray, List.set_cons_zero, List.set_cons_succ]))
  apply grow_app 2 _ _ (by rfl) X (by omega) g2 (by rfl) _ _ _ (by rfl) (by rfl) (by kernel_rfl) (by kernel_rfl) (by intro w h; exact hF2 w h) HIX.out
  intro A4 c4 F4 O4 hF4
  simp only [Act.put, List.setIfInBounds_toArray, List.set_cons_zero, List.set_cons_succ]
  repeat (first
    | (apply grow_val (by rfl); (focus (intro x; (go_simp; try with_reducible rfl); done)); simp only [Act.put, List.setIfInBounds_toArray, List.set_cons_zero, List.set_cons_succ])
    | (apply grow_skip (by rfl); simp only [Act.put, List.setIfInBounds_toArray, List.set_cons_zero, List.set_cons_succ]))
  apply grow_made X.length _ _ (by rfl) (by rfl) (by rfl) (by omega) (by rfl)
  intro g7 hg7 F7 O7 hF7 hO7
  simp only [Act.put, List.setIfInBounds_toArray, List.set_cons_zero, List.set_cons_succ]
  repeat (first
    | (apply grow_val (by rfl); (focus (intro x; (go_simp; try with_reducible rfl); done)); simp only [Act.put, List.setIfInBounds_toArray, List.set_cons_zero, List.set_cons_succ])
    | (apply grow_skip (by rfl); simp only [Act.put, List.setIfInBounds_toArray, List.set_cons_zero, List.set_cons_succ]))
  apply grow_fn (fun d => .agg #[d.getD 0 undef, d.getD 1 undef, d.getD 2 undef]) ([.int .i64 V.base, .slice A4 X.length c4, .slice (some ⟨g7, 0, none⟩) X.length X.length]) (by kernel_rfl) (by rfl)
  · intro x hF
    refine ⟨_, by (go_simp; try with_reducible rfl), rfl⟩
  intro v8 F8 hF8
  simp only [Act.put, List.setIfInBounds_toArray, List.set_cons_zero, List.set_cons_succ]
  repeat (first
    | (apply grow_val (by rfl); (focus (intro x; (go_simp; try with_reducible rfl); done)); simp only [Act.put, List.setIfInBounds_toArray, List.set_cons_zero, List.set_cons_succ])
    | (apply grow_skip (by rfl); simp only [Act.put, List.setIfInBounds_toArray, List.set_cons_zero, List.set_cons_succ]))
  apply grow_blk (43) (#[.int .i64 0, .slice none 0 0, .slice none 0 0]) (by rfl)
  · intro x
    go_simp
  intro g9 hg9 F9 O9 hF9 hO9
  simp only [Act.put, List.setIfInBounds_toArray, List.set_cons_zero, List.set_cons_succ]
  repeat (first
    | (apply grow_val (by rfl); (focus (intro x; (go_simp; try with_reducible rfl); done)); simp only [Act.put, List.setIfInBounds_toArray, List.set_cons_zero, List.set_cons_succ])
    | (apply grow_skip (by rfl); simp only [Act.put, List.setIfInBounds_toArray, List.set_cons_zero, List.set_cons_succ]))
  refine grow_nil ?_
  intro x hF hS
  have h4 := hF4 _ (hF 4 (by omega))
  have h7 := hF7 _ (hF 7 (by omega))
  have h9 := hF9 _ (hF 9 (by omega))
  have e8 : v8 = .agg #[.int .i64 V.base, .slice A4 X.length c4, .slice (some ⟨g7, 0, none⟩) X.length X.length] := hF8 _ (hF 8 (by omega))
  subst e8
  obtain ⟨w5, hb5⟩ := x
  simp only at h4 h7 h9
  have d47 : ∀ b, (Value.slice A4 X.length c4).ownBlock = some b → b ≠ g7 := fun b h e => by
    rcases h4.2 b h with h' | h'
    · exact hS 2 7 (by omega) (by omega) (by omega) g7 (by rw [← e, h']; exact hO2) hO7
    · exact hS 4 7 (by omega) (by omega) (by omega) b h' (e ▸ hO7)
  have d49 : ∀ b, (Value.slice A4 X.length c4).ownBlock = some b → b ≠ g9 := fun b h e => by
    rcases h4.2 b h with h' | h'
    · exact hS 2 9 (by omega) (by omega) (by omega) g9 (by rw [← e, h']; exact hO2) hO9
    · exact hS 4 9 (by omega) (by omega) (by omega) b h' (e ▸ hO9)
  have d79 : g7 ≠ g9 := fun e => hS 7 9 (by omega) (by omega) (by omega) g9 (e ▸ hO7) hO9
  have hzr := spS_zero V X
  rw [← hzr] at h7
  have H5 := H2.add (A := [.ints (.slice A4 X.length c4) X, .ints (.slice (some ⟨g7, 0, none⟩) X.length X.length) (spS V X 0), .blk g9 43 #[.int .i64 0, .slice none 0 0, .slice none 0 0]]) hb5 (fun i hi => by simp at hi; (rcases hi with rfl | rfl | rfl); exact h4.1; exact h7; exact ⟨hg9, h9⟩)
    (List.pairwise_cons.2 ⟨fun b hb k h1 h2 => by simp at hb; (rcases hb with rfl | rfl); exact d47 k h1 (by simpa [Item.owns, Value.ownBlock] using h2.symm); exact d49 k h1 h2, List.pairwise_pair.2 fun k h1 h2 => d79 (by have h1 : some g7 = some k := h1; injection h1 with h1; exact h1.trans h2)⟩)
  simp only [List.nil_append] at H5
  clear hF hS hF2 hO2 hF4 hF7 hO7 hF8 hF9 hO9 qqA HIX h4 h7 h9 d47 d49 d79 hzr
  obtain ⟨⟨q3_0, q3_1, q3_2⟩, r3_0, r3_1, r3_2⟩ := (H5.blk 2 rfl).all3
  have H6 := H5.store3 2 rfl (.int .i64 V.base) (.slice A4 X.length c4) (.slice (some ⟨g7, 0, none⟩) X.length X.length)
  simp only [List.set_cons_zero, List.set_cons_succ] at H6
  go_upto_region 5 with fail
  generalize ((w5.setCell ⟨g9, 0, none⟩ (.int .i64 V.base)).setCell ⟨g9, 1, none⟩ (.slice A4 X.length c4)).setCell ⟨g9, 2, none⟩ (.slice (some ⟨g7, 0, none⟩) X.length X.length) = w6 at *
  clear q3_0 q3_1 q3_2 r3_0 r3_1 r3_2
  obtain ⟨⟨q4_0, q4_1, q4_2⟩, r4_0, r4_1, r4_2⟩ := ((Blk.ext hA H6.below hA.lt)).all3
  go_wp2_with fail
  go_loopw [41] (fun i wr => SpRel W1 A4 c4 g7 g9 V X i wr) (fun i _ => V.shape.length - (intOf i).toNat)
  case atStart => exact ⟨0, Nat.zero_le _, rfl, fun j hj => absurd hj (by omega), H6⟩
  case round =>
    obtain ⟨k, hk, rfl, hfit, hH⟩ := hrel
    by_cases hlt1 : k < V.shape.length
    · have hbk := hfit
      obtain ⟨A', c', e', -, -, hr⟩ := id hsv
      simp only [Value.slice.injEq, true_and] at e'
      obtain ⟨rfl, rfl⟩ := e'
      obtain ⟨bs, os, rfl, hbs, hcs1⟩ := hr (by omega)
      have hlt := HLT.out
      obtain ⟨A', c', e', -, -, hr⟩ := id htv
      simp only [Value.slice.injEq, true_and] at e'
      obtain ⟨rfl, rfl⟩ := e'
      obtain ⟨bt, ot, rfl, hbt, hct1⟩ := hr (by omega)
      obtain ⟨A', c', e', -, -, hr⟩ := id hx0
      simp only [Value.slice.injEq, true_and] at e'
      obtain ⟨rfl, rfl⟩ := e'
      obtain ⟨bx, ox, rfl, hbx, hcx1⟩ := hr (by omega)
      have hkt : k < V.strides.length := by omega
      obtain ⟨p, hp⟩ : ∃ p, p = ahead V X + k := ⟨_, rfl⟩
      have hpx : p < X.length := by rw [hp]; unfold ahead; omega
      have hxk := hcs1 k V.shape[k] (by simp [hlt1])
      have hyk := hct1 k V.strides[k] (by simp [hkt])
      have hzk := hcx1 p X[p] (by simp [hpx])
      have hidx : ((X.length : Int) - (V.shape.length : Int) + (k : Int)).toNat = p := by rw [hp]; unfold ahead; omega
      have hi0 : 0 ≤ (X.length : Int) - (V.shape.length : Int) + (k : Int) := by omega
      have hi1 : (X.length : Int) - (V.shape.length : Int) + (k : Int) < (X.length : Int) := by omega
      have hwi : IntKind.i64.wrap ((X.length : Int) - (V.shape.length : Int) + (k : Int)) = (X.length : Int) - (V.shape.length : Int) + (k : Int) := IntWalk.i64_in _ (by omega)
      have hki : (k : Int) < (V.shape.length : Int) := by omega
      have hkj : (k : Int) < (V.strides.length : Int) := by omega
      have g1 : V.shape.getD k 0 = V.shape[k] := by simp [hlt1]
      have g2 : X.getD (ahead V X + k) 0 = X[p] := by rw [← hp]; simp [hpx]
      have g3 : V.strides.getD k 0 = V.strides[k] := by simp [hkt]
      have HFK := hid (show fitAt V X k = (V.shape[k] == X[p] || V.shape[k] == 1) by unfold fitAt; rw [g1, g2])
      have HPU := hid (fun he : V.shape[k] = X[p] => show (spS V X k).set p V.strides[k] = spS V X (k + 1) by have := spS_put (V := V) (X := X) (k := k) (by rw [g1, g2]; exact he); rw [g3, ← hp] at this; exact this)
      have HSK := hid (fun he : V.shape[k] ≠ X[p] => show spS V X k = spS V X (k + 1) by exact spS_skip (by rw [g1, g2]; exact he))
      have hspl : (spS V X k).length = X.length := spS_length V X k
      have HSL := hid hspl
      have HFIT := hid hfit
      clear hcs1 hct1 hcx1 hr hlt hp g1 g2 g3 hspl hfit hbk
      by_cases he : V.shape[k] = X[p]
      · have HE := hid he
        have he1 : (V.shape[k] == X[p]) = true := by simpa using he
        have HB := hid (show (V.shape[k] == X[p] || V.shape[k] == 1) = true by rw [he1]; rfl)
        clear he
        obtain ⟨⟨q1_0, q1_1, q1_2⟩, r1_0, r1_1, r1_2⟩ := ((Blk.ext hA hH.below hA.lt)).all3
        obtain ⟨⟨q2_0, q2_1, q2_2⟩, r2_0, r2_1, r2_2⟩ := (hH.blk 2 rfl).all3
        have q3 := ((hW.trans (hH.below.mono hW.size)).cell (p := ⟨bs, os + k, none⟩) hbs).trans hxk
        have q4 := ((hW.trans (hH.below.mono hW.size)).cell (p := ⟨bt, ot + k, none⟩) hbt).trans hyk
        have q5 := ((hW.trans (hH.below.mono hW.size)).cell (p := ⟨bx, ox + p, none⟩) hbx).trans hzk
        have q6 := (hH.ints 1 rfl).cell p (by rw [HSL.out]; exact hpx)
        have q7 := (hH.ints 1 rfl).free p
        go_upto_region 9 with fail
        go_still_tail 11, (by kernel_rfl)
        have H11 := (hH.put 1 rfl p V.strides[k]).drew
        simp only [List.set_cons_zero, List.set_cons_succ] at H11
        rw [HPU.out HE.out] at H11
        have HH2 := hid H11
        clear H11
        go_wp2
        go_roundw
        have HH := HH2.out
        case rel => exact ⟨k + 1, by omega, by go_num, fun j hj => (by rcases Nat.lt_or_ge j k with h | h; exact HFIT.out j h; obtain rfl : j = k := (by omega); rw [HFK.out, HB.out]), HH⟩
        case measure => simp [intOf]; omega
      have he1 : (V.shape[k] == X[p]) = false := by simpa using he
      by_cases h1 : V.shape[k] = 1
      · have HE := hid he
        have h11 : (V.shape[k] == 1) = true := by simpa using h1
        have h12 : (V.shape[k] != 1) = false := by simpa using h1
        have HB := hid (show (V.shape[k] == X[p] || V.shape[k] == 1) = true by rw [h11]; simp)
        clear he h1
        obtain ⟨⟨q1_0, q1_1, q1_2⟩, r1_0, r1_1, r1_2⟩ := ((Blk.ext hA hH.below hA.lt)).all3
        obtain ⟨⟨q2_0, q2_1, q2_2⟩, r2_0, r2_1, r2_2⟩ := (hH.blk 2 rfl).all3
        have q3 := ((hW.trans (hH.below.mono hW.size)).cell (p := ⟨bs, os + k, none⟩) hbs).trans hxk
        have q4 := ((hW.trans (hH.below.mono hW.size)).cell (p := ⟨bt, ot + k, none⟩) hbt).trans hyk
        have q5 := ((hW.trans (hH.below.mono hW.size)).cell (p := ⟨bx, ox + p, none⟩) hbx).trans hzk
        have HH := hH
        rw [HSK.out HE.out] at HH
        have HH2 := hid HH
        clear HH
        go_wp2
        go_roundw
        have HH := HH2.out
        case rel => exact ⟨k + 1, by omega, by go_num, fun j hj => (by rcases Nat.lt_or_ge j k with h | h; exact HFIT.out j h; obtain rfl : j = k := (by omega); rw [HFK.out, HB.out]), HH⟩
        case measure => simp [intOf]; omega
      have h11 : (V.shape[k] == 1) = false := by simpa using h1
      have h12 : (V.shape[k] != 1) = true := by simpa using h1
      clear he h1
      have HQ := hid (show spreadL V X = VL.zero ∧ okSpread V X = false by
        have h : okSpread V X = false := spread_bad hlt1 (by rw [HFK.out, he1, h11]; rfl)
        exact ⟨spread_no h, h⟩)
      obtain ⟨⟨q1_0, q1_1, q1_2⟩, r1_0, r1_1, r1_2⟩ := ((Blk.ext hA hH.below hA.lt)).all3
      obtain ⟨⟨q2_0, q2_1, q2_2⟩, r2_0, r2_1, r2_2⟩ := (hH.blk 2 rfl).all3
      have q3 := ((hW.trans (hH.below.mono hW.size)).cell (p := ⟨bs, os + k, none⟩) hbs).trans hxk
      have q4 := ((hW.trans (hH.below.mono hW.size)).cell (p := ⟨bt, ot + k, none⟩) hbt).trans hyk
      have q5 := ((hW.trans (hH.below.mono hW.size)).cell (p := ⟨bx, ox + p, none⟩) hbx).trans hzk
      obtain ⟨⟨q6_0, q6_1, q6_2⟩, r6_0, r6_1, r6_2⟩ := ((Blk.ext hR hH.below hR.lt)).all3
      go_wp2
      refine bodyPost_ret (v := .tuple #[.agg #[.int .i64 0, .slice none 0 0, .slice none 0 0], .bool false]) (by simp [results, Try.results43, go_sem, q6_0, q6_1, q6_2]) rfl ?_
      rw [HQ.out.1, HQ.out.2]
      exact ⟨_, _, rfl, Own.nil _ _, Own.nil _ _, Sep.none_left _, below3 (hW.trans (hH.below.mono hW.size)) (by omega) _ _ _⟩
    · obtain ⟨⟨q1_0, q1_1, q1_2⟩, r1_0, r1_1, r1_2⟩ := (hH.blk 2 rfl).all3
      have HQ := hid (HOK.out fun j hj => hfit j (by omega))
      have hkm : k = V.shape.length := by omega
      rw [hkm] at hH
      clear hfit hkm
      go_wp2_with fail
      refine (cleared_any _ _ (spreadV V X) W1.heap.size _ (hH.ints 0 rfl) (hH.ints 1 rfl) (hH.apart 0 1 rfl rfl (by omega)) hH.size (by show X.length ≤ 1000000; omega)).mono ?_; rintro e w11 ⟨s8, t8, rfl, ho, hp, hsep, hb11⟩
      clear q1_0 q1_1 q1_2 r1_0 r1_1 r1_2
      have H11 := hH.nx hb11
      generalize tidyL (spreadV V X) = Z at *
      obtain ⟨A8, c8, e8⟩ := ho.form
      obtain ⟨B8, d8, f8⟩ := hp.form
      subst e8 f8
      obtain ⟨⟨q2_0, q2_1, q2_2⟩, r2_0, r2_1, r2_2⟩ := ((Blk.ext hR H11.below hR.lt)).all3
      go_wp2
      refine bodyPost_ret (v := .tuple #[.agg #[.int .i64 Z.base, .slice A8 Z.shape.length c8, .slice B8 Z.strides.length d8], .bool true]) (by simp [results, Try.results43, go_sem, q2_0, q2_1, q2_2]) rfl ?_
      rw [HQ.out.1, HQ.out.2]
      have hzz := hH.size
      exact ⟨_, _, rfl, (own3b ho (by omega) _ _ _).mono (by omega), (own3b hp (by omega) _ _ _).mono (by omega), hsep, below3 (hW.trans (H11.below.mono hW.size)) (by omega) _ _ _⟩

end Go.Proofs.Ytldblcolnjkcaaa
