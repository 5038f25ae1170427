/- Contract: SpreadTo: spread. No conditions. (printed by mkp.py) -/
import Derived.Test.YtbcmhjhiofpnlaaZ2
import Derived.Test.YtbcmhjhiofpnlaaGm
import Derived.Test.YtbcmhjhiofpnlaaS2
import Derived.Test.YtbcmhjhiofpnlaaD1
import Derived.Test.YtbcmhjhiofpnlaaV1
import Derived.StillTailTactics
import Derived.Deep.Cut
namespace Go.Proofs.Ytbcmhjhiofpnlaa
open Go.RowKit

/-- Between the rounds of spread. -/
def SsRel (W1 : World) (A3 : Option Addr) (c3 g6 g8 : Nat) (V : VL) (X : List Int) (m : Nat) (i : Value) (wr : World) : Prop :=
  ∃ k : Nat, k ≤ m ∧ i = .int .i64 k ∧ (∀ j, j < k → fitAt V X j = true) ∧ Hp W1.heap.size W1 wr [.ints (.slice A3 X.length c3) X, .ints (.slice (some ⟨g6, 0, none⟩) X.length X.length) (spS V X k), .blk g8 28 #[.int .i64 V.base, .slice A3 X.length c3, .slice (some ⟨g6, 0, none⟩) X.length X.length]]

set_option maxRecDepth 100000 in
set_option maxHeartbeats 6400000 in
theorem spread_any (v vx : Value) (V : VL) (X : List Int) (w : World) (hv : ViewV w v V) (hx : Ints w vx X) (cV : isViewL V = true) (cX : isShapeL X = true) (hle : V.shape.length ≤ X.length) :
    Calls Try.prog 95 #[v, vx] w (RetViewB w (spreadL V X) (okSpread V X)) := by
  have hv0 := hv
  obtain ⟨sv, tv, rfl, hsv, htv⟩ := hv
  obtain ⟨As, cs, es, hcs0, hcs, -⟩ := id hsv
  subst es
  obtain ⟨At, ct, et, hct0, hct, -⟩ := id htv
  subst et
  have hx0 := hx
  obtain ⟨Ax, cx, ex, hcx0, hcx, -⟩ := id hx
  subst ex
  unfold maxLen at hcs hct hcx
  have hA := (Blk.new w 28 #[.int .i64 V.base, .slice As V.shape.length cs, .slice At V.strides.length ct]).alloc (.cells #[.int .i64 0, .slice none 0 0, .slice none 0 0] 28)
  have hR := Blk.new (w.alloc (.cells #[.int .i64 V.base, .slice As V.shape.length cs, .slice At V.strides.length ct] 28)) 28 #[.int .i64 0, .slice none 0 0, .slice none 0 0]
  simp only [World.size_alloc] at hR
  have hW : Below w.heap.size w ((w.alloc (.cells #[.int .i64 V.base, .slice As V.shape.length cs, .slice At V.strides.length ct] 28)).alloc (.cells #[.int .i64 0, .slice none 0 0, .slice none 0 0] 28)) := ((Below.refl _ _).alloc (Nat.le_refl _) _).alloc (by simp <;> omega) _
  have hnA := hA.lt
  have hnR := hR.lt
  generalize hW1 : ((w.alloc (.cells #[.int .i64 V.base, .slice As V.shape.length cs, .slice At V.strides.length ct] 28)).alloc (.cells #[.int .i64 0, .slice none 0 0, .slice none 0 0] 28)) = W1 at *
  have HZ1 := hid (show W1.heap.size = w.heap.size + 2 by rw [← hW1]; simp)
  have HW1 := hid hW1
  clear hW1
  have hxs1 := hx0.ext hW
  have hsub : -9223372036854775808 ≤ (X.length : Int) - (V.shape.length : Int) ∧ (X.length : Int) - (V.shape.length : Int) ≤ 9223372036854775807 := by omega
  have hl4 := (isViewL_lens cV).1
  have hl4t := (isViewL_lens cV).2
  have hlX := (shape_ext cX).1
  have hlt := (isViewL_and cV).2.1
  have HLT := hid hlt
  clear hlt
  have hnn : ¬ (X.length : Int) - (V.shape.length : Int) < 0 := by omega
  have hnn2 : 0 ≤ (X.length : Int) - (V.shape.length : Int) := by omega
  have hnn3 : (V.shape.length : Int) ≤ (X.length : Int) := by omega
  have HOK : Hid ((∀ j, j < V.shape.length → fitAt V X j = true) → okSpread V X = true) := hid (fun h => by
    simp only [okSpread, cV, cX, Bool.true_and, Bool.and_eq_true, decide_eq_true_eq, List.all_eq_true, List.mem_range]
    exact ⟨hle, h⟩)
  go_enter Try.func95, Try.ntmps95
  go_upto_region 1 with fail
  rw [HW1.out]
  clear HW1
  have H0 := Hp.start W1
  have qqA := fun x : ExtW W1 => (Blk.ext hA x.h hA.lt).all3.1
  have HIX := hid (fun x : ExtW W1 => hxs1.ext x.h)
  refine region_mk 9 (by kernel_rfl) (by kernel_rfl) ?_
  apply Exists.intro
  simp only [List.take_succ_cons, List.take_zero, List.drop_succ_cons, List.drop_zero]
  repeat (first
    | (apply grow_val (by rfl); (focus (intro x; (go_simp; try with_reducible rfl); done)); simp only [Act.put, List.setIfInBounds_toArray, List.set_cons_zero, List.set_cons_succ])
    | (apply grow_skip (by rfl); simp only [Act.put, List.setIfInBounds_toArray, List.set_cons_zero, List.set_cons_succ]))
  apply grow_ints (X) (by rfl)
  · intro x hF K Q hK
    go_simp
    go_at_call 102;(with_reducible refine (copyInts_any _ X _ (HIX.out x) (by omega)).mono ?_);rintro e w' ⟨v1, rfl, ho, hb⟩;exact hK _ _ hb ho
  intro A3 c3 F3 O3 hF3 hO3
  simp only [Act.put, List.setIfInBounds_toArray, List.set_cons_zero, List.set_cons_succ]
  repeat (first
    | (apply grow_val (by rfl); (focus (intro x; (go_simp; try with_reducible rfl); done)); simp only [Act.put, List.setIfInBounds_toArray, List.set_cons_zero, List.set_cons_succ])
    | (apply grow_skip (by rfl); simp only [Act.put, List.setIfInBounds_toArray, List.set_cons_zero, List.set_cons_succ]))
  apply grow_made X.length _ _ (by rfl) (by rfl) (by rfl) (by omega) (by rfl)
  intro g6 hg6 F6 O6 hF6 hO6
  simp only [Act.put, List.setIfInBounds_toArray, List.set_cons_zero, List.set_cons_succ]
  repeat (first
    | (apply grow_val (by rfl); (focus (intro x; (go_simp; try with_reducible rfl); done)); simp only [Act.put, List.setIfInBounds_toArray, List.set_cons_zero, List.set_cons_succ])
    | (apply grow_skip (by rfl); simp only [Act.put, List.setIfInBounds_toArray, List.set_cons_zero, List.set_cons_succ]))
  apply grow_fn (fun d => .agg #[d.getD 0 undef, d.getD 1 undef, d.getD 2 undef]) ([.int .i64 V.base, .slice A3 X.length c3, .slice (some ⟨g6, 0, none⟩) X.length X.length]) (by kernel_rfl) (by rfl)
  · intro x hF
    refine ⟨_, by (go_simp; try with_reducible rfl), rfl⟩
  intro v7 F7 hF7
  simp only [Act.put, List.setIfInBounds_toArray, List.set_cons_zero, List.set_cons_succ]
  repeat (first
    | (apply grow_val (by rfl); (focus (intro x; (go_simp; try with_reducible rfl); done)); simp only [Act.put, List.setIfInBounds_toArray, List.set_cons_zero, List.set_cons_succ])
    | (apply grow_skip (by rfl); simp only [Act.put, List.setIfInBounds_toArray, List.set_cons_zero, List.set_cons_succ]))
  apply grow_blk (28) (#[.int .i64 0, .slice none 0 0, .slice none 0 0]) (by rfl)
  · intro x
    go_simp
  intro g8 hg8 F8 O8 hF8 hO8
  simp only [Act.put, List.setIfInBounds_toArray, List.set_cons_zero, List.set_cons_succ]
  repeat (first
    | (apply grow_val (by rfl); (focus (intro x; (go_simp; try with_reducible rfl); done)); simp only [Act.put, List.setIfInBounds_toArray, List.set_cons_zero, List.set_cons_succ])
    | (apply grow_skip (by rfl); simp only [Act.put, List.setIfInBounds_toArray, List.set_cons_zero, List.set_cons_succ]))
  refine grow_nil ?_
  intro x hF hS
  have h3 := hF3 _ (hF 3 (by omega))
  have h6 := hF6 _ (hF 6 (by omega))
  have h8 := hF8 _ (hF 8 (by omega))
  have e7 : v7 = .agg #[.int .i64 V.base, .slice A3 X.length c3, .slice (some ⟨g6, 0, none⟩) X.length X.length] := hF7 _ (hF 7 (by omega))
  subst e7
  obtain ⟨w5, hb5⟩ := x
  simp only at h3 h6 h8
  have d36 : ∀ b, (Value.slice A3 X.length c3).ownBlock = some b → b ≠ g6 := fun b h e => hS 3 6 (by omega) (by omega) (by omega) b (hO3 b h) (e ▸ hO6)
  have d38 : ∀ b, (Value.slice A3 X.length c3).ownBlock = some b → b ≠ g8 := fun b h e => hS 3 8 (by omega) (by omega) (by omega) b (hO3 b h) (e ▸ hO8)
  have d68 : g6 ≠ g8 := fun e => hS 6 8 (by omega) (by omega) (by omega) g8 (e ▸ hO6) hO8
  have hzr := spS_zero V X
  rw [← hzr] at h6
  have H5 := H0.add (A := [.ints (.slice A3 X.length c3) X, .ints (.slice (some ⟨g6, 0, none⟩) X.length X.length) (spS V X 0), .blk g8 28 #[.int .i64 0, .slice none 0 0, .slice none 0 0]]) hb5 (fun i hi => by simp at hi; (rcases hi with rfl | rfl | rfl); exact h3; exact h6; exact ⟨hg8, h8⟩)
    (List.pairwise_cons.2 ⟨fun b hb k h1 h2 => by simp at hb; (rcases hb with rfl | rfl); exact d36 k h1 (by simpa [Item.owns, Value.ownBlock] using h2.symm); exact d38 k h1 h2, List.pairwise_pair.2 fun k h1 h2 => d68 (by have h1 : some g6 = some k := h1; injection h1 with h1; exact h1.trans h2)⟩)
  simp only [List.nil_append] at H5
  clear hF hS hF3 hO3 hF6 hO6 hF7 hF8 hO8 qqA HIX h3 h6 h8 d36 d38 d68 hzr
  obtain ⟨⟨q1_0, q1_1, q1_2⟩, r1_0, r1_1, r1_2⟩ := (H5.blk 2 rfl).all3
  have H6 := H5.store3 2 rfl (.int .i64 V.base) (.slice A3 X.length c3) (.slice (some ⟨g6, 0, none⟩) X.length X.length)
  simp only [List.set_cons_zero, List.set_cons_succ] at H6
  go_upto_region 2 with fail
  generalize ((w5.setCell ⟨g8, 0, none⟩ (.int .i64 V.base)).setCell ⟨g8, 1, none⟩ (.slice A3 X.length c3)).setCell ⟨g8, 2, none⟩ (.slice (some ⟨g6, 0, none⟩) X.length X.length) = w6 at *
  clear q1_0 q1_1 q1_2 r1_0 r1_1 r1_2
  obtain ⟨⟨q2_0, q2_1, q2_2⟩, r2_0, r2_1, r2_2⟩ := ((Blk.ext hA H6.below hA.lt)).all3
  go_wp2_with fail
  go_loopw [8] (fun i wr => SsRel W1 A3 c3 g6 g8 V X V.shape.length i wr) (fun i _ => V.shape.length - (intOf i).toNat)
  case atStart => exact ⟨0, Nat.zero_le _, rfl, fun j hj => absurd hj (by omega), H6⟩
  case round =>
    obtain ⟨k, hk, rfl, hfit, hH⟩ := hrel
    by_cases hlt1 : k < V.shape.length
    · have hbk := hfit
      obtain ⟨A', c', e', -, -, hr⟩ := id hsv
      simp only [Value.slice.injEq, true_and] at e'
      obtain ⟨rfl, rfl⟩ := e'
      obtain ⟨bs, os, rfl, hbs, hcs1⟩ := hr (by omega)
      have hlt := HLT.out
      obtain ⟨A', c', e', -, -, hr⟩ := id htv
      simp only [Value.slice.injEq, true_and] at e'
      obtain ⟨rfl, rfl⟩ := e'
      obtain ⟨bt, ot, rfl, hbt, hct1⟩ := hr (by omega)
      obtain ⟨A', c', e', -, -, hr⟩ := id hx0
      simp only [Value.slice.injEq, true_and] at e'
      obtain ⟨rfl, rfl⟩ := e'
      obtain ⟨bx, ox, rfl, hbx, hcx1⟩ := hr (by omega)
      have hkt : k < V.strides.length := by omega
      obtain ⟨p, hp⟩ : ∃ p, p = ahead V X + k := ⟨_, rfl⟩
      have hpx : p < X.length := by rw [hp]; unfold ahead; omega
      have hxk := hcs1 k V.shape[k] (by simp [hlt1])
      have hyk := hct1 k V.strides[k] (by simp [hkt])
      have hzk := hcx1 p X[p] (by simp [hpx])
      have hidx : ((X.length : Int) - (V.shape.length : Int) + (k : Int)).toNat = p := by rw [hp]; unfold ahead; omega
      have hi0 : 0 ≤ (X.length : Int) - (V.shape.length : Int) + (k : Int) := by omega
      have hi1 : (X.length : Int) - (V.shape.length : Int) + (k : Int) < (X.length : Int) := by omega
      have hwi : IntKind.i64.wrap ((X.length : Int) - (V.shape.length : Int) + (k : Int)) = (X.length : Int) - (V.shape.length : Int) + (k : Int) := IntWalk.i64_in _ (by omega)
      have hki : (k : Int) < (V.shape.length : Int) := by omega
      have hkj : (k : Int) < (V.strides.length : Int) := by omega
      have g1 : V.shape.getD k 0 = V.shape[k] := by simp [hlt1]
      have g2 : X.getD (ahead V X + k) 0 = X[p] := by rw [← hp]; simp [hpx]
      have g3 : V.strides.getD k 0 = V.strides[k] := by simp [hkt]
      have HFK := hid (show fitAt V X k = (V.shape[k] == X[p] || V.shape[k] == 1) by unfold fitAt; rw [g1, g2])
      have HPU := hid (fun he : V.shape[k] = X[p] => show (spS V X k).set p V.strides[k] = spS V X (k + 1) by have := spS_put (V := V) (X := X) (k := k) (by rw [g1, g2]; exact he); rw [g3, ← hp] at this; exact this)
      have HSK := hid (fun he : V.shape[k] ≠ X[p] => show spS V X k = spS V X (k + 1) by exact spS_skip (by rw [g1, g2]; exact he))
      have hspl : (spS V X k).length = X.length := spS_length V X k
      have HSL := hid hspl
      have HFIT := hid hfit
      clear hcs1 hct1 hcx1 hr hlt hp g1 g2 g3 hspl hfit hbk
      by_cases he : V.shape[k] = X[p]
      · have HE := hid he
        have he1 : (V.shape[k] == X[p]) = true := by simpa using he
        have HB := hid (show (V.shape[k] == X[p] || V.shape[k] == 1) = true by rw [he1]; rfl)
        clear he
        obtain ⟨⟨q1_0, q1_1, q1_2⟩, r1_0, r1_1, r1_2⟩ := ((Blk.ext hA hH.below hA.lt)).all3
        obtain ⟨⟨q2_0, q2_1, q2_2⟩, r2_0, r2_1, r2_2⟩ := (hH.blk 2 rfl).all3
        go_upto_region 6 with fail
        clear q1_0 q1_1 q1_2 r1_0 r1_1 r1_2 q2_0 q2_1 q2_2 r2_0 r2_1 r2_2
        have qqA := fun x : ExtW wr => (Blk.ext (Blk.ext hA hH.below hA.lt) x.h (Blk.ext hA hH.below hA.lt).lt).all3.1
        have qi2 := fun x : ExtW wr => (Blk.ext (hH.blk 2 rfl) x.h (hH.blk 2 rfl).lt).all3.1
        have qf0 := fun x : ExtW wr => ((hW.trans ((hH.below.trans (x.h.mono hH.size)).mono hW.size)).cell (p := ⟨bs, os + k, none⟩) hbs).trans hxk
        have qf1 := fun x : ExtW wr => ((hW.trans ((hH.below.trans (x.h.mono hH.size)).mono hW.size)).cell (p := ⟨bx, ox + p, none⟩) hbx).trans hzk
        refine region_mk 13 (by kernel_rfl) (by kernel_rfl) ?_
        apply Exists.intro
        simp only [List.take_succ_cons, List.take_zero, List.drop_succ_cons, List.drop_zero]
        repeat (first
          | (apply grow_val (by rfl); (focus (intro x; (go_simp; try with_reducible rfl); done)); simp only [Act.put, List.setIfInBounds_toArray, List.set_cons_zero, List.set_cons_succ])
          | (apply grow_skip (by rfl); simp only [Act.put, List.setIfInBounds_toArray, List.set_cons_zero, List.set_cons_succ]))
        refine grow_nil ?_
        rintro ⟨w11, hb11⟩ - -
        have hb11 : Below wr.heap.size wr w11 := hb11
        clear qqA qi2 qf0 qf1
        have H11 := hH.nx hb11
        obtain ⟨⟨q3_0, q3_1, q3_2⟩, r3_0, r3_1, r3_2⟩ := ((Blk.ext hA H11.below hA.lt)).all3
        obtain ⟨⟨q4_0, q4_1, q4_2⟩, r4_0, r4_1, r4_2⟩ := (H11.blk 2 rfl).all3
        have q5 := ((hW.trans ((H11.below).mono hW.size)).cell (p := ⟨bs, os + k, none⟩) hbs).trans hxk
        have q6 := ((hW.trans ((H11.below).mono hW.size)).cell (p := ⟨bt, ot + k, none⟩) hbt).trans hyk
        have q7 := ((hW.trans ((H11.below).mono hW.size)).cell (p := ⟨bx, ox + p, none⟩) hbx).trans hzk
        have q8 := (H11.ints 1 rfl).cell p (by rw [HSL.out]; exact hpx)
        have q9 := (H11.ints 1 rfl).free p
        go_upto_region 7 with fail
        go_still_tail 11, (by kernel_rfl)
        have HP := (H11.put 1 rfl p V.strides[k]).drew
        simp only [List.set_cons_zero, List.set_cons_succ] at HP
        rw [HPU.out HE.out] at HP
        have HH2 := hid HP
        clear HP
        go_wp2
        go_roundw
        have HH := HH2.out
        case rel => exact ⟨k + 1, by omega, by go_num, fun j hj => (by rcases Nat.lt_or_ge j k with h | h; exact HFIT.out j h; obtain rfl : j = k := (by omega); rw [HFK.out, HB.out]), HH⟩
        case measure => simp [intOf]; omega
      have he1 : (V.shape[k] == X[p]) = false := by simpa using he
      by_cases h1 : V.shape[k] = 1
      · have HE := hid he
        have h11 : (V.shape[k] == 1) = true := by simpa using h1
        have h12 : (V.shape[k] != 1) = false := by simpa using h1
        have HB := hid (show (V.shape[k] == X[p] || V.shape[k] == 1) = true by rw [h11]; simp)
        clear he h1
        obtain ⟨⟨q1_0, q1_1, q1_2⟩, r1_0, r1_1, r1_2⟩ := ((Blk.ext hA hH.below hA.lt)).all3
        obtain ⟨⟨q2_0, q2_1, q2_2⟩, r2_0, r2_1, r2_2⟩ := (hH.blk 2 rfl).all3
        go_upto_region 6 with fail
        clear q1_0 q1_1 q1_2 r1_0 r1_1 r1_2 q2_0 q2_1 q2_2 r2_0 r2_1 r2_2
        have qqA := fun x : ExtW wr => (Blk.ext (Blk.ext hA hH.below hA.lt) x.h (Blk.ext hA hH.below hA.lt).lt).all3.1
        have qi2 := fun x : ExtW wr => (Blk.ext (hH.blk 2 rfl) x.h (hH.blk 2 rfl).lt).all3.1
        have qf0 := fun x : ExtW wr => ((hW.trans ((hH.below.trans (x.h.mono hH.size)).mono hW.size)).cell (p := ⟨bs, os + k, none⟩) hbs).trans hxk
        have qf1 := fun x : ExtW wr => ((hW.trans ((hH.below.trans (x.h.mono hH.size)).mono hW.size)).cell (p := ⟨bx, ox + p, none⟩) hbx).trans hzk
        refine region_mk 13 (by kernel_rfl) (by kernel_rfl) ?_
        apply Exists.intro
        simp only [List.take_succ_cons, List.take_zero, List.drop_succ_cons, List.drop_zero]
        repeat (first
          | (apply grow_val (by rfl); (focus (intro x; (go_simp; try with_reducible rfl); done)); simp only [Act.put, List.setIfInBounds_toArray, List.set_cons_zero, List.set_cons_succ])
          | (apply grow_skip (by rfl); simp only [Act.put, List.setIfInBounds_toArray, List.set_cons_zero, List.set_cons_succ]))
        refine grow_nil ?_
        rintro ⟨w11, hb11⟩ - -
        have hb11 : Below wr.heap.size wr w11 := hb11
        clear qqA qi2 qf0 qf1
        have H11 := hH.nx hb11
        obtain ⟨⟨q3_0, q3_1, q3_2⟩, r3_0, r3_1, r3_2⟩ := ((Blk.ext hA H11.below hA.lt)).all3
        obtain ⟨⟨q4_0, q4_1, q4_2⟩, r4_0, r4_1, r4_2⟩ := (H11.blk 2 rfl).all3
        have q5 := ((hW.trans ((H11.below).mono hW.size)).cell (p := ⟨bs, os + k, none⟩) hbs).trans hxk
        have q6 := ((hW.trans ((H11.below).mono hW.size)).cell (p := ⟨bt, ot + k, none⟩) hbt).trans hyk
        have q7 := ((hW.trans ((H11.below).mono hW.size)).cell (p := ⟨bx, ox + p, none⟩) hbx).trans hzk
        have HH := H11
        rw [HSK.out HE.out] at HH
        have HH2 := hid HH
        clear HH
        go_wp2
        go_roundw
        have HH := HH2.out
        case rel => exact ⟨k + 1, by omega, by go_num, fun j hj => (by rcases Nat.lt_or_ge j k with h | h; exact HFIT.out j h; obtain rfl : j = k := (by omega); rw [HFK.out, HB.out]), HH⟩
        case measure => simp [intOf]; omega
      have h11 : (V.shape[k] == 1) = false := by simpa using h1
      have h12 : (V.shape[k] != 1) = true := by simpa using h1
      clear he h1
      have HQ := hid (show okSpread V X = false from spread_bad hlt1 (by rw [HFK.out, he1, h11]; rfl))
      obtain ⟨⟨q1_0, q1_1, q1_2⟩, r1_0, r1_1, r1_2⟩ := ((Blk.ext hA hH.below hA.lt)).all3
      obtain ⟨⟨q2_0, q2_1, q2_2⟩, r2_0, r2_1, r2_2⟩ := (hH.blk 2 rfl).all3
      go_upto_region 6 with fail
      clear q1_0 q1_1 q1_2 r1_0 r1_1 r1_2 q2_0 q2_1 q2_2 r2_0 r2_1 r2_2
      have qqA := fun x : ExtW wr => (Blk.ext (Blk.ext hA hH.below hA.lt) x.h (Blk.ext hA hH.below hA.lt).lt).all3.1
      have qi2 := fun x : ExtW wr => (Blk.ext (hH.blk 2 rfl) x.h (hH.blk 2 rfl).lt).all3.1
      have qf0 := fun x : ExtW wr => ((hW.trans ((hH.below.trans (x.h.mono hH.size)).mono hW.size)).cell (p := ⟨bs, os + k, none⟩) hbs).trans hxk
      have qf1 := fun x : ExtW wr => ((hW.trans ((hH.below.trans (x.h.mono hH.size)).mono hW.size)).cell (p := ⟨bx, ox + p, none⟩) hbx).trans hzk
      refine region_mk 13 (by kernel_rfl) (by kernel_rfl) ?_
      apply Exists.intro
      simp only [List.take_succ_cons, List.take_zero, List.drop_succ_cons, List.drop_zero]
      repeat (first
        | (apply grow_val (by rfl); (focus (intro x; (go_simp; try with_reducible rfl); done)); simp only [Act.put, List.setIfInBounds_toArray, List.set_cons_zero, List.set_cons_succ])
        | (apply grow_skip (by rfl); simp only [Act.put, List.setIfInBounds_toArray, List.set_cons_zero, List.set_cons_succ]))
      refine grow_nil ?_
      rintro ⟨w11, hb11⟩ - -
      have hb11 : Below wr.heap.size wr w11 := hb11
      clear qqA qi2 qf0 qf1
      have H11 := hH.nx hb11
      obtain ⟨⟨q3_0, q3_1, q3_2⟩, r3_0, r3_1, r3_2⟩ := ((Blk.ext hA H11.below hA.lt)).all3
      obtain ⟨⟨q4_0, q4_1, q4_2⟩, r4_0, r4_1, r4_2⟩ := (H11.blk 2 rfl).all3
      have q5 := ((hW.trans ((H11.below).mono hW.size)).cell (p := ⟨bs, os + k, none⟩) hbs).trans hxk
      have q6 := ((hW.trans ((H11.below).mono hW.size)).cell (p := ⟨bt, ot + k, none⟩) hbt).trans hyk
      have q7 := ((hW.trans ((H11.below).mono hW.size)).cell (p := ⟨bx, ox + p, none⟩) hbx).trans hzk
      obtain ⟨⟨q8_0, q8_1, q8_2⟩, r8_0, r8_1, r8_2⟩ := ((Blk.ext hR H11.below hR.lt)).all3
      go_wp2
      refine bodyPost_ret (v := .tuple #[.agg #[.int .i64 0, .slice none 0 0, .slice none 0 0], .bool false]) (by simp [results, Try.results95, go_sem, q8_0, q8_1, q8_2]) rfl ?_
      rw [spreadL, HQ.out, if_neg (by simp)]
      exact ⟨_, _, rfl, Own.nil _ _, Own.nil _ _, Sep.none_left _, below3 (hW.trans (H11.below.mono hW.size)) (by omega) _ _ _⟩
    · have HQ := hid (HOK.out fun j hj => hfit j (by omega))
      have hkm : k = V.shape.length := by omega
      subst hkm
      clear hfit
      obtain ⟨S, hS⟩ : ∃ S, S = spS V X V.shape.length := ⟨_, rfl⟩
      rw [← hS] at hH
      have HSS := hid hS
      clear hS
      obtain ⟨⟨q1_0, q1_1, q1_2⟩, r1_0, r1_1, r1_2⟩ := ((Blk.ext hA hH.below hA.lt)).all3
      obtain ⟨⟨q2_0, q2_1, q2_2⟩, r2_0, r2_1, r2_2⟩ := (hH.blk 2 rfl).all3
      cases cz : (prodW X == 0)
      · go_wp2_with fail
        refine (count_any _ X _ (hxs1.ext hH.below)).mono ?_; rintro e w' ⟨rfl, rfl⟩
        have HZ := hid (show tidyL (spreadV V X) = ⟨V.base, X, S⟩ by (have : ¬ prodW X = 0 := (by simpa using cz)); rw [HSS.out]; simp [tidyL, spreadV, this])
        have cz2 : prodW X ≠ 0 := by simpa using cz
        obtain ⟨⟨q3_0, q3_1, q3_2⟩, r3_0, r3_1, r3_2⟩ := ((Blk.ext hR hH.below hR.lt)).all3
        go_wp2
        refine bodyPost_ret (v := .tuple #[.agg #[.int .i64 V.base, .slice A3 X.length c3, .slice (some ⟨g6, 0, none⟩) X.length X.length], .bool true]) (by simp [results, Try.results95, go_sem, q3_0, q3_1, q3_2]) rfl ?_
        rw [spreadL, HQ.out, if_pos rfl]
        rw [HZ.out]
        have hSl : S.length = X.length := by rw [HSS.out, spS_length]
        have ho := hH.ints 0 rfl
        have hp := hH.ints 1 rfl
        exact ⟨_, _, rfl, (own3b ho (by omega) _ _ _).mono (by omega), (own3b hp (by omega) _ _ _).mono (by omega), hH.apart 0 1 rfl rfl (by omega), below3 (hW.trans (hH.below.mono hW.size)) (by omega) _ _ _⟩
      · go_wp2_with fail
        refine (count_any _ X _ (hxs1.ext hH.below)).mono ?_; rintro e w' ⟨rfl, rfl⟩
        have HZ := hid (show tidyL (spreadV V X) = ⟨0, X, zerosL X.length⟩ by (have : prodW X = 0 := (by simpa using cz)); simp [tidyL, spreadV, this])
        go_upto_region 12 with fail
        have H11 := hH.store 2 rfl 0 (.int .i64 0)
        simp only [List.set_cons_zero, List.set_cons_succ, List.setIfInBounds_toArray] at H11
        generalize (wr.setCell ⟨g8, 0, none⟩ (.int .i64 0)) = w11 at *
        clear q1_0 q1_1 q1_2 r1_0 r1_1 r1_2 q2_0 q2_1 q2_2 r2_0 r2_1 r2_2
        obtain ⟨⟨q3_0, q3_1, q3_2⟩, r3_0, r3_1, r3_2⟩ := ((Blk.ext hA H11.below hA.lt)).all3
        obtain ⟨⟨q4_0, q4_1, q4_2⟩, r4_0, r4_1, r4_2⟩ := (H11.blk 2 rfl).all3
        go_wp2_with (at_make; refine mk0 _ rfl _ _ rfl X.length rfl rfl (by omega) ?_)
        intro w12 ho hb12
        have H12 := H11.row ho hb12
        simp only [List.cons_append, List.nil_append] at H12
        obtain ⟨⟨q5_0, q5_1, q5_2⟩, r5_0, r5_1, r5_2⟩ := ((Blk.ext hA H12.below hA.lt)).all3
        obtain ⟨⟨q6_0, q6_1, q6_2⟩, r6_0, r6_1, r6_2⟩ := (H12.blk 2 rfl).all3
        go_upto_region 13 with fail
        have H13 := H12.store 2 rfl 2 (.slice (some ⟨w11.heap.size, 0, none⟩) X.length X.length)
        simp only [List.set_cons_zero, List.set_cons_succ, List.setIfInBounds_toArray] at H13
        generalize (w12.setCell ⟨g8, 2, none⟩ (.slice (some ⟨w11.heap.size, 0, none⟩) X.length X.length)) = w13 at *
        clear q3_0 q3_1 q3_2 r3_0 r3_1 r3_2 q4_0 q4_1 q4_2 r4_0 r4_1 r4_2 q5_0 q5_1 q5_2 r5_0 r5_1 r5_2 q6_0 q6_1 q6_2 r6_0 r6_1 r6_2
        obtain ⟨⟨q7_0, q7_1, q7_2⟩, r7_0, r7_1, r7_2⟩ := ((Blk.ext hA H13.below hA.lt)).all3
        obtain ⟨⟨q8_0, q8_1, q8_2⟩, r8_0, r8_1, r8_2⟩ := (H13.blk 2 rfl).all3
        obtain ⟨⟨q9_0, q9_1, q9_2⟩, r9_0, r9_1, r9_2⟩ := ((Blk.ext hR H13.below hR.lt)).all3
        go_wp2
        refine bodyPost_ret (v := .tuple #[.agg #[.int .i64 0, .slice A3 X.length c3, .slice (some ⟨w11.heap.size, 0, none⟩) X.length X.length], .bool true]) (by simp [results, Try.results95, go_sem, q9_0, q9_1, q9_2]) rfl ?_
        rw [spreadL, HQ.out, if_pos rfl]
        rw [HZ.out]
        have ho := H13.ints 0 rfl
        have hp := H13.ints 3 rfl
        have hlz : (zerosL X.length).length = X.length := by simp [zerosL]
        exact ⟨_, _, rfl, (own3b ho (by omega) _ _ _).mono (by omega), (own3b hp (by omega) _ _ _).mono (by omega), H13.apart 0 3 rfl rfl (by omega), below3 (hW.trans (H13.below.mono hW.size)) (by omega) _ _ _⟩

set_option maxRecDepth 100000 in
set_option maxHeartbeats 6400000 in
theorem spreadShort_any (v vx : Value) (V : VL) (X : List Int) (w : World) (hv : ViewV w v V) (hx : Ints w vx X) (cV : isViewL V = true) (cX : isShapeL X = true) (hle : X.length < V.shape.length) :
    Calls Try.prog 95 #[v, vx] w (RetViewB w (tidyL ⟨V.base, X, spS V X 0⟩) false) := by
  have hv0 := hv
  obtain ⟨sv, tv, rfl, hsv, htv⟩ := hv
  obtain ⟨As, cs, es, hcs0, hcs, -⟩ := id hsv
  subst es
  obtain ⟨At, ct, et, hct0, hct, -⟩ := id htv
  subst et
  have hx0 := hx
  obtain ⟨Ax, cx, ex, hcx0, hcx, -⟩ := id hx
  subst ex
  unfold maxLen at hcs hct hcx
  have hA := (Blk.new w 28 #[.int .i64 V.base, .slice As V.shape.length cs, .slice At V.strides.length ct]).alloc (.cells #[.int .i64 0, .slice none 0 0, .slice none 0 0] 28)
  have hR := Blk.new (w.alloc (.cells #[.int .i64 V.base, .slice As V.shape.length cs, .slice At V.strides.length ct] 28)) 28 #[.int .i64 0, .slice none 0 0, .slice none 0 0]
  simp only [World.size_alloc] at hR
  have hW : Below w.heap.size w ((w.alloc (.cells #[.int .i64 V.base, .slice As V.shape.length cs, .slice At V.strides.length ct] 28)).alloc (.cells #[.int .i64 0, .slice none 0 0, .slice none 0 0] 28)) := ((Below.refl _ _).alloc (Nat.le_refl _) _).alloc (by simp <;> omega) _
  have hnA := hA.lt
  have hnR := hR.lt
  generalize hW1 : ((w.alloc (.cells #[.int .i64 V.base, .slice As V.shape.length cs, .slice At V.strides.length ct] 28)).alloc (.cells #[.int .i64 0, .slice none 0 0, .slice none 0 0] 28)) = W1 at *
  have HZ1 := hid (show W1.heap.size = w.heap.size + 2 by rw [← hW1]; simp)
  have HW1 := hid hW1
  clear hW1
  have hxs1 := hx0.ext hW
  have hsub : -9223372036854775808 ≤ (X.length : Int) - (V.shape.length : Int) ∧ (X.length : Int) - (V.shape.length : Int) ≤ 9223372036854775807 := by omega
  have hl4 := (isViewL_lens cV).1
  have hl4t := (isViewL_lens cV).2
  have hlX := (shape_ext cX).1
  have hlt := (isViewL_and cV).2.1
  have HLT := hid hlt
  clear hlt
  have hnn : (X.length : Int) - (V.shape.length : Int) < 0 := by omega
  have hnn2 : ¬ 0 ≤ (X.length : Int) - (V.shape.length : Int) := by omega
  have hnn3 : ¬ (V.shape.length : Int) ≤ (X.length : Int) := by omega
  have hm0 : 0 < V.shape.length := by omega
  have hm1 : (0 : Int) < (V.shape.length : Int) := by omega
  go_enter Try.func95, Try.ntmps95
  go_upto_region 1 with fail
  rw [HW1.out]
  clear HW1
  have H0 := Hp.start W1
  have qqA := fun x : ExtW W1 => (Blk.ext hA x.h hA.lt).all3.1
  have HIX := hid (fun x : ExtW W1 => hxs1.ext x.h)
  refine region_mk 9 (by kernel_rfl) (by kernel_rfl) ?_
  apply Exists.intro
  simp only [List.take_succ_cons, List.take_zero, List.drop_succ_cons, List.drop_zero]
  repeat (first
    | (apply grow_val (by rfl); (focus (intro x; (go_simp; try with_reducible rfl); done)); simp only [Act.put, List.setIfInBounds_toArray, List.set_cons_zero, List.set_cons_succ])
    | (apply grow_skip (by rfl); simp only [Act.put, List.setIfInBounds_toArray, List.set_cons_zero, List.set_cons_succ]))
  apply grow_ints (X) (by rfl)
  · intro x hF K Q hK
    go_simp
    go_at_call 102;(with_reducible refine (copyInts_any _ X _ (HIX.out x) (by omega)).mono ?_);rintro e w' ⟨v1, rfl, ho, hb⟩;exact hK _ _ hb ho
  intro A3 c3 F3 O3 hF3 hO3
  simp only [Act.put, List.setIfInBounds_toArray, List.set_cons_zero, List.set_cons_succ]
  repeat (first
    | (apply grow_val (by rfl); (focus (intro x; (go_simp; try with_reducible rfl); done)); simp only [Act.put, List.setIfInBounds_toArray, List.set_cons_zero, List.set_cons_succ])
    | (apply grow_skip (by rfl); simp only [Act.put, List.setIfInBounds_toArray, List.set_cons_zero, List.set_cons_succ]))
  apply grow_made X.length _ _ (by rfl) (by rfl) (by rfl) (by omega) (by rfl)
  intro g6 hg6 F6 O6 hF6 hO6
  simp only [Act.put, List.setIfInBounds_toArray, List.set_cons_zero, List.set_cons_succ]
  repeat (first
    | (apply grow_val (by rfl); (focus (intro x; (go_simp; try with_reducible rfl); done)); simp only [Act.put, List.setIfInBounds_toArray, List.set_cons_zero, List.set_cons_succ])
    | (apply grow_skip (by rfl); simp only [Act.put, List.setIfInBounds_toArray, List.set_cons_zero, List.set_cons_succ]))
  apply grow_fn (fun d => .agg #[d.getD 0 undef, d.getD 1 undef, d.getD 2 undef]) ([.int .i64 V.base, .slice A3 X.length c3, .slice (some ⟨g6, 0, none⟩) X.length X.length]) (by kernel_rfl) (by rfl)
  · intro x hF
    refine ⟨_, by (go_simp; try with_reducible rfl), rfl⟩
  intro v7 F7 hF7
  simp only [Act.put, List.setIfInBounds_toArray, List.set_cons_zero, List.set_cons_succ]
  repeat (first
    | (apply grow_val (by rfl); (focus (intro x; (go_simp; try with_reducible rfl); done)); simp only [Act.put, List.setIfInBounds_toArray, List.set_cons_zero, List.set_cons_succ])
    | (apply grow_skip (by rfl); simp only [Act.put, List.setIfInBounds_toArray, List.set_cons_zero, List.set_cons_succ]))
  apply grow_blk (28) (#[.int .i64 0, .slice none 0 0, .slice none 0 0]) (by rfl)
  · intro x
    go_simp
  intro g8 hg8 F8 O8 hF8 hO8
  simp only [Act.put, List.setIfInBounds_toArray, List.set_cons_zero, List.set_cons_succ]
  repeat (first
    | (apply grow_val (by rfl); (focus (intro x; (go_simp; try with_reducible rfl); done)); simp only [Act.put, List.setIfInBounds_toArray, List.set_cons_zero, List.set_cons_succ])
    | (apply grow_skip (by rfl); simp only [Act.put, List.setIfInBounds_toArray, List.set_cons_zero, List.set_cons_succ]))
  refine grow_nil ?_
  intro x hF hS
  have h3 := hF3 _ (hF 3 (by omega))
  have h6 := hF6 _ (hF 6 (by omega))
  have h8 := hF8 _ (hF 8 (by omega))
  have e7 : v7 = .agg #[.int .i64 V.base, .slice A3 X.length c3, .slice (some ⟨g6, 0, none⟩) X.length X.length] := hF7 _ (hF 7 (by omega))
  subst e7
  obtain ⟨w5, hb5⟩ := x
  simp only at h3 h6 h8
  have d36 : ∀ b, (Value.slice A3 X.length c3).ownBlock = some b → b ≠ g6 := fun b h e => hS 3 6 (by omega) (by omega) (by omega) b (hO3 b h) (e ▸ hO6)
  have d38 : ∀ b, (Value.slice A3 X.length c3).ownBlock = some b → b ≠ g8 := fun b h e => hS 3 8 (by omega) (by omega) (by omega) b (hO3 b h) (e ▸ hO8)
  have d68 : g6 ≠ g8 := fun e => hS 6 8 (by omega) (by omega) (by omega) g8 (e ▸ hO6) hO8
  have hzr := spS_zero V X
  rw [← hzr] at h6
  have H5 := H0.add (A := [.ints (.slice A3 X.length c3) X, .ints (.slice (some ⟨g6, 0, none⟩) X.length X.length) (spS V X 0), .blk g8 28 #[.int .i64 0, .slice none 0 0, .slice none 0 0]]) hb5 (fun i hi => by simp at hi; (rcases hi with rfl | rfl | rfl); exact h3; exact h6; exact ⟨hg8, h8⟩)
    (List.pairwise_cons.2 ⟨fun b hb k h1 h2 => by simp at hb; (rcases hb with rfl | rfl); exact d36 k h1 (by simpa [Item.owns, Value.ownBlock] using h2.symm); exact d38 k h1 h2, List.pairwise_pair.2 fun k h1 h2 => d68 (by have h1 : some g6 = some k := h1; injection h1 with h1; exact h1.trans h2)⟩)
  simp only [List.nil_append] at H5
  clear hF hS hF3 hO3 hF6 hO6 hF7 hF8 hO8 qqA HIX h3 h6 h8 d36 d38 d68 hzr
  obtain ⟨⟨q1_0, q1_1, q1_2⟩, r1_0, r1_1, r1_2⟩ := (H5.blk 2 rfl).all3
  have H6 := H5.store3 2 rfl (.int .i64 V.base) (.slice A3 X.length c3) (.slice (some ⟨g6, 0, none⟩) X.length X.length)
  simp only [List.set_cons_zero, List.set_cons_succ] at H6
  go_upto_region 2 with fail
  generalize ((w5.setCell ⟨g8, 0, none⟩ (.int .i64 V.base)).setCell ⟨g8, 1, none⟩ (.slice A3 X.length c3)).setCell ⟨g8, 2, none⟩ (.slice (some ⟨g6, 0, none⟩) X.length X.length) = w6 at *
  clear q1_0 q1_1 q1_2 r1_0 r1_1 r1_2
  obtain ⟨⟨q2_0, q2_1, q2_2⟩, r2_0, r2_1, r2_2⟩ := ((Blk.ext hA H6.below hA.lt)).all3
  go_wp2_with fail
  go_loopw [8] (fun i wr => SsRel W1 A3 c3 g6 g8 V X 0 i wr) (fun i _ => V.shape.length - (intOf i).toNat)
  case atStart => exact ⟨0, Nat.zero_le _, rfl, fun j hj => absurd hj (by omega), H6⟩
  case round =>
    obtain ⟨k, hk, rfl, hfit, hH⟩ := hrel
    obtain rfl : k = 0 := by omega
    clear hfit
    obtain ⟨S, hS⟩ : ∃ S, S = spS V X 0 := ⟨_, rfl⟩
    rw [← hS] at hH
    have HSS := hid hS
    clear hS
    obtain ⟨⟨q1_0, q1_1, q1_2⟩, r1_0, r1_1, r1_2⟩ := ((Blk.ext hA hH.below hA.lt)).all3
    obtain ⟨⟨q2_0, q2_1, q2_2⟩, r2_0, r2_1, r2_2⟩ := (hH.blk 2 rfl).all3
    cases cz : (prodW X == 0)
    · go_wp2_with fail
      refine (count_any _ X _ (hxs1.ext hH.below)).mono ?_; rintro e w' ⟨rfl, rfl⟩
      have HZ := hid (show tidyL ⟨V.base, X, spS V X 0⟩ = ⟨V.base, X, S⟩ by (have : ¬ prodW X = 0 := (by simpa using cz)); rw [HSS.out]; simp [tidyL, this])
      have cz2 : prodW X ≠ 0 := by simpa using cz
      obtain ⟨⟨q3_0, q3_1, q3_2⟩, r3_0, r3_1, r3_2⟩ := ((Blk.ext hR hH.below hR.lt)).all3
      go_wp2
      refine bodyPost_ret (v := .tuple #[.agg #[.int .i64 V.base, .slice A3 X.length c3, .slice (some ⟨g6, 0, none⟩) X.length X.length], .bool false]) (by simp [results, Try.results95, go_sem, q3_0, q3_1, q3_2]) rfl ?_
      rw [HZ.out]
      have hSl : S.length = X.length := by rw [HSS.out, spS_length]
      have ho := hH.ints 0 rfl
      have hp := hH.ints 1 rfl
      exact ⟨_, _, rfl, (own3b ho (by omega) _ _ _).mono (by omega), (own3b hp (by omega) _ _ _).mono (by omega), hH.apart 0 1 rfl rfl (by omega), below3 (hW.trans (hH.below.mono hW.size)) (by omega) _ _ _⟩
    · go_wp2_with fail
      refine (count_any _ X _ (hxs1.ext hH.below)).mono ?_; rintro e w' ⟨rfl, rfl⟩
      have HZ := hid (show tidyL ⟨V.base, X, spS V X 0⟩ = ⟨0, X, zerosL X.length⟩ by (have : prodW X = 0 := (by simpa using cz)); simp [tidyL, this])
      go_upto_region 12 with fail
      have H11 := hH.store 2 rfl 0 (.int .i64 0)
      simp only [List.set_cons_zero, List.set_cons_succ, List.setIfInBounds_toArray] at H11
      generalize (wr.setCell ⟨g8, 0, none⟩ (.int .i64 0)) = w11 at *
      clear q1_0 q1_1 q1_2 r1_0 r1_1 r1_2 q2_0 q2_1 q2_2 r2_0 r2_1 r2_2
      obtain ⟨⟨q3_0, q3_1, q3_2⟩, r3_0, r3_1, r3_2⟩ := ((Blk.ext hA H11.below hA.lt)).all3
      obtain ⟨⟨q4_0, q4_1, q4_2⟩, r4_0, r4_1, r4_2⟩ := (H11.blk 2 rfl).all3
      go_wp2_with (at_make; refine mk0 _ rfl _ _ rfl X.length rfl rfl (by omega) ?_)
      intro w12 ho hb12
      have H12 := H11.row ho hb12
      simp only [List.cons_append, List.nil_append] at H12
      obtain ⟨⟨q5_0, q5_1, q5_2⟩, r5_0, r5_1, r5_2⟩ := ((Blk.ext hA H12.below hA.lt)).all3
      obtain ⟨⟨q6_0, q6_1, q6_2⟩, r6_0, r6_1, r6_2⟩ := (H12.blk 2 rfl).all3
      go_upto_region 13 with fail
      have H13 := H12.store 2 rfl 2 (.slice (some ⟨w11.heap.size, 0, none⟩) X.length X.length)
      simp only [List.set_cons_zero, List.set_cons_succ, List.setIfInBounds_toArray] at H13
      generalize (w12.setCell ⟨g8, 2, none⟩ (.slice (some ⟨w11.heap.size, 0, none⟩) X.length X.length)) = w13 at *
      clear q3_0 q3_1 q3_2 r3_0 r3_1 r3_2 q4_0 q4_1 q4_2 r4_0 r4_1 r4_2 q5_0 q5_1 q5_2 r5_0 r5_1 r5_2 q6_0 q6_1 q6_2 r6_0 r6_1 r6_2
      obtain ⟨⟨q7_0, q7_1, q7_2⟩, r7_0, r7_1, r7_2⟩ := ((Blk.ext hA H13.below hA.lt)).all3
      obtain ⟨⟨q8_0, q8_1, q8_2⟩, r8_0, r8_1, r8_2⟩ := (H13.blk 2 rfl).all3
      obtain ⟨⟨q9_0, q9_1, q9_2⟩, r9_0, r9_1, r9_2⟩ := ((Blk.ext hR H13.below hR.lt)).all3
      go_wp2
      refine bodyPost_ret (v := .tuple #[.agg #[.int .i64 0, .slice A3 X.length c3, .slice (some ⟨w11.heap.size, 0, none⟩) X.length X.length], .bool false]) (by simp [results, Try.results95, go_sem, q9_0, q9_1, q9_2]) rfl ?_
      rw [HZ.out]
      have ho := H13.ints 0 rfl
      have hp := H13.ints 3 rfl
      have hlz : (zerosL X.length).length = X.length := by simp [zerosL]
      exact ⟨_, _, rfl, (own3b ho (by omega) _ _ _).mono (by omega), (own3b hp (by omega) _ _ _).mono (by omega), H13.apart 0 3 rfl rfl (by omega), below3 (hW.trans (H13.below.mono hW.size)) (by omega) _ _ _⟩

end Go.Proofs.Ytbcmhjhiofpnlaa
