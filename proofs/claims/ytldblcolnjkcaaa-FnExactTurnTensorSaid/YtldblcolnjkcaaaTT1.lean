/- The contract of the reference's turned tensor. No conditions. -/
import Derived.Test.YtldblcolnjkcaaaTTp
import Derived.Test.YtldblcolnjkcaaaKG
import Derived.Test.YtldblcolnjkcaaaE2
import Derived.Test.YtldblcolnjkcaaaD1
import Derived.Test.YtldblcolnjkcaaaC10a
import Derived.Test.YtldblcolnjkcaaaGbv
import Derived.Test.YtldblcolnjkcaaaGp
import Derived.Test.YtldblcolnjkcaaaVA
import Derived.Test.YtldblcolnjkcaaaHp
import Derived.Deep.Cut
namespace Go.Proofs.Ytldblcolnjkcaaa
open Go.RowKit

set_option maxRecDepth 100000 in
set_option maxHeartbeats 6400000 in
theorem sTurnTensor_any (v vo : Value) (T : TL) (O : List Int) (w : World) (hv : TensorV w v T) (ho : Ints w vo O) :
    Calls Try.prog 61 #[v, vo] w (RetTensor w (turnL T O)) := by
  have hv0 := hv
  obtain ⟨sv, tv, rfl, hs, ht⟩ := hv
  obtain ⟨As, cs, es⟩ := hs.form
  obtain ⟨At, ct, et⟩ := ht.form
  obtain ⟨Ao, co, eo⟩ := ho.form
  subst es et eo
  have hA := (Blk.new w 75 #[.slice As T.shape.length cs, .slice At T.values.length ct]).alloc (.cells #[.slice none 0 0, .slice none 0 0] 75)
  have hR := Blk.new (w.alloc (.cells #[.slice As T.shape.length cs, .slice At T.values.length ct] 75)) 75 #[.slice none 0 0, .slice none 0 0]
  have hW : Below w.heap.size w ((w.alloc (.cells #[.slice As T.shape.length cs, .slice At T.values.length ct] 75)).alloc (.cells #[.slice none 0 0, .slice none 0 0] 75)) := ((Below.refl _ _).alloc (Nat.le_refl _) _).alloc (by simp) _
  have hz : ((w.alloc (.cells #[.slice As T.shape.length cs, .slice At T.values.length ct] 75)).alloc (.cells #[.slice none 0 0, .slice none 0 0] 75)).heap.size = w.heap.size + 2 := by simp
  simp only [World.size_alloc] at hR
  cases hok : isTensorL T
  · have HQ := hid (show turnL T O = ⟨[], []⟩ by simp [turnL, hok])
    go_enter Try.func61, Try.ntmps61
    go_upto_region 1 with fail
    generalize ((w.alloc (.cells #[.slice As T.shape.length cs, .slice At T.values.length ct] 75)).alloc (.cells #[.slice none 0 0, .slice none 0 0] 75)) = w1 at *
    have HZ := hid hz
    clear hz
    obtain ⟨⟨a0, a1⟩, -⟩ := id hA.all2
    go_wp2_with fail
    refine (validTensor_any _ T _ (TensorV.ext hv0 hW)).mono ?_; rintro e w2 ⟨rfl, hb⟩
    rw [hok]
    have hR2 := hR.ext hb hR.lt
    have hW2 := hW.nx hb hW.size
    obtain ⟨⟨r0, r1⟩, s0, s1⟩ := id hR2.all2
    clear hok
    go_wp2
    refine bodyPost_ret (v := .agg #[.slice none 0 0, .slice none 0 0]) (by simp [results, Try.results61, go_sem, r0, r1]) rfl ?_
    rw [HQ.out]
    exact ⟨_, _, rfl, Own.nil _ _, Own.nil _ _, Sep.none_left _, below2 hW2 (by omega) _ _⟩
  have hle4 : T.shape.length ≤ 4 := (shape_ext (isTensorL_and hok).1).1
  cases hor : orderL O T.shape.length
  · have HQ := hid (show turnL T O = ⟨[], []⟩ by simp [turnL, hor])
    go_enter Try.func61, Try.ntmps61
    go_upto_region 1 with fail
    generalize ((w.alloc (.cells #[.slice As T.shape.length cs, .slice At T.values.length ct] 75)).alloc (.cells #[.slice none 0 0, .slice none 0 0] 75)) = w1 at *
    have HZ := hid hz
    clear hz
    obtain ⟨⟨a0, a1⟩, -⟩ := id hA.all2
    go_wp2_with fail
    refine (validTensor_any _ T _ (TensorV.ext hv0 hW)).mono ?_; rintro e w2 ⟨rfl, hb⟩
    rw [hok]
    have hA2 := hA.ext hb hA.lt
    have hR2 := hR.ext hb hR.lt
    have hW2 := hW.nx hb hW.size
    have ho2 := ho.ext hW2
    clear hok a0 a1
    obtain ⟨⟨a0, a1⟩, -⟩ := id hA2.all2
    go_wp2_with fail
    refine (validOrder_any _ O T.shape.length _ ho2 hle4).mono ?_; rintro e w3 ⟨rfl, hb3⟩
    rw [hor]
    have hR3 := hR2.ext hb3 hR2.lt
    have hW3 := hW2.nx hb3 hW2.size
    obtain ⟨⟨r0, r1⟩, s0, s1⟩ := id hR3.all2
    clear hor
    go_wp2
    refine bodyPost_ret (v := .agg #[.slice none 0 0, .slice none 0 0]) (by simp [results, Try.results61, go_sem, r0, r1]) rfl ?_
    rw [HQ.out]
    exact ⟨_, _, rfl, Own.nil _ _, Own.nil _ _, Sep.none_left _, below2 hW3 (by omega) _ _⟩
  have HQ := hid (show turnL T O = ⟨turnS T.shape O, takenL T.values (offs (turnV T.shape O))⟩ by simp [turnL, hok, hor])
  have hT := isTensorL_and hok
  have HSH := hid hT.1
  have HTS := hid (turnS_shape hT.1 hor)
  have HTL := hid (show (turnV T.shape O).shape.length = (turnV T.shape O).strides.length by simp [turnV, permV, pickN])
  have HIN := hid (show ∀ x ∈ offs (turnV T.shape O), 0 ≤ x ∧ x < T.values.length from fun x hx => by
    have := turn_offs_in hT.1 hor x hx
    have := shape_prod hT.1
    have := hT.2.1
    omega)
  have hor2 : O.length = T.shape.length ∧ ∀ x ∈ O, 0 ≤ x ∧ x < T.shape.length := by
    simp only [orderL, Bool.and_eq_true, decide_eq_true_eq, List.all_eq_true, inR_iff] at hor
    exact ⟨hor.1.1, fun x hx => by have := hor.1.2 x hx; omega⟩
  have HALL := hid hor2.2
  have HOL := hid (show O.length ≤ 4 by omega)
  clear hor2
  go_enter Try.func61, Try.ntmps61
  go_upto_region 1 with fail
  generalize ((w.alloc (.cells #[.slice As T.shape.length cs, .slice At T.values.length ct] 75)).alloc (.cells #[.slice none 0 0, .slice none 0 0] 75)) = w1 at *
  have HZ := hid hz
  clear hz
  obtain ⟨⟨a0, a1⟩, -⟩ := id hA.all2
  go_wp2_with fail
  refine (validTensor_any _ T _ (TensorV.ext hv0 hW)).mono ?_; rintro e w2 ⟨rfl, hb⟩
  rw [hok]
  have hA2 := hA.ext hb hA.lt
  have hR2 := hR.ext hb hR.lt
  have hW2 := hW.nx hb hW.size
  have ho2 := ho.ext hW2
  clear hok a0 a1 hA hR hW hb
  obtain ⟨⟨a0, a1⟩, -⟩ := id hA2.all2
  go_wp2_with fail
  refine (validOrder_any _ O T.shape.length _ ho2 hle4).mono ?_; rintro e w3 ⟨rfl, hb3⟩
  rw [hor]
  have HA3 := hid (hA2.ext hb3 hA2.lt)
  have HR3 := hid (hR2.ext hb3 hR2.lt)
  have HW3 := hid (hW2.nx hb3 hW2.size)
  clear hor a0 a1 hA2 hR2 hW2 ho2 hb3
  obtain ⟨⟨a0, a1⟩, -⟩ := HA3.out.all2
  go_upto_region 3 with fail
  clear a0 a1
  have qA := fun x : ExtW w3 => (Blk.ext HA3.out x.h HA3.out.lt).all2.1
  have HSx := hid (fun x : ExtW w3 => (hs.ext HW3.out).ext x.h)
  have HOx := hid (fun x : ExtW w3 => (ho.ext HW3.out).ext x.h)
  refine region_mk 9 (by kernel_rfl) (by kernel_rfl) ?_
  apply Exists.intro
  simp only [List.take_succ_cons, List.take_zero, List.drop_succ_cons, List.drop_zero]
  repeat (first
    | (apply grow_val (by rfl); (focus (intro x; (go_simp; try with_reducible rfl); done)); simp only [Act.put, List.setIfInBounds_toArray, List.set_cons_zero, List.set_cons_succ])
    | (apply grow_skip (by rfl); simp only [Act.put, List.setIfInBounds_toArray, List.set_cons_zero, List.set_cons_succ]))
  apply grow_ints (rowS T.shape) (by rfl)
  · intro x hF K Q hK
    go_simp
    (go_at_call 112; refine (srowStrides_any _ T.shape _ (HSx.out x) HSH.out).mono ?_; rintro e w' ⟨v', rfl, ho, hb⟩; exact hK _ _ hb ho)
  intro A4 c4 F4 O4 hF4 hO4
  simp only [Act.put, List.setIfInBounds_toArray, List.set_cons_zero, List.set_cons_succ]
  repeat (first
    | (apply grow_val (by rfl); (focus (intro x; (go_simp; try with_reducible rfl); done)); simp only [Act.put, List.setIfInBounds_toArray, List.set_cons_zero, List.set_cons_succ])
    | (apply grow_skip (by rfl); simp only [Act.put, List.setIfInBounds_toArray, List.set_cons_zero, List.set_cons_succ]))
  apply grow_buildV ⟨0, T.shape, rowS T.shape⟩ (by rfl)
  · intro x hF
    have h4 := hF4 _ (hF 4 (by kernel_rfl))
    exact ⟨.agg #[.int .i64 0, .slice As T.shape.length cs, .slice A4 (rowS T.shape).length c4], by (go_simp; try with_reducible rfl), ⟨_, _, _, _, rfl⟩, ⟨_, _, rfl, HSx.out x, h4.ints⟩⟩
  intro A5 c5 B5 d5 F5 hF5
  simp only [Act.put, List.setIfInBounds_toArray, List.set_cons_zero, List.set_cons_succ]
  repeat (first
    | (apply grow_val (by rfl); (focus (intro x; (go_simp; try with_reducible rfl); done)); simp only [Act.put, List.setIfInBounds_toArray, List.set_cons_zero, List.set_cons_succ])
    | (apply grow_skip (by rfl); simp only [Act.put, List.setIfInBounds_toArray, List.set_cons_zero, List.set_cons_succ]))
  apply grow_viewF (fun v => v) id_inj (turnV T.shape O) (by rfl)
  · intro x hF K Q hK
    go_simp
    have hvv := hF5 _ (hF 5 (by kernel_rfl));(go_at_call 137; refine (permuted_any _ _ ⟨0, T.shape, rowS T.shape⟩ O _ hvv (HOx.out x) HALL.out (rowS_length T.shape).symm HOL.out).mono ?_); rintro e w' ⟨s', t', rfl, ho, hp, hs, hb⟩; exact hK _ _ _ hb ho hp hs
  intro A7 c7 B7 d7 F7 O7 hF7 hO7
  simp only [Act.put, List.setIfInBounds_toArray, List.set_cons_zero, List.set_cons_succ]
  repeat (first
    | (apply grow_val (by rfl); (focus (intro x; (go_simp; try with_reducible rfl); done)); simp only [Act.put, List.setIfInBounds_toArray, List.set_cons_zero, List.set_cons_succ])
    | (apply grow_skip (by rfl); simp only [Act.put, List.setIfInBounds_toArray, List.set_cons_zero, List.set_cons_succ]))
  apply grow_blk (43) (#[.int .i64 0, .slice none 0 0, .slice none 0 0]) (by rfl)
  · intro x
    go_simp
  intro g8 hg8 F8 O8 hF8 hO8
  simp only [Act.put, List.setIfInBounds_toArray, List.set_cons_zero, List.set_cons_succ]
  repeat (first
    | (apply grow_val (by rfl); (focus (intro x; (go_simp; try with_reducible rfl); done)); simp only [Act.put, List.setIfInBounds_toArray, List.set_cons_zero, List.set_cons_succ])
    | (apply grow_skip (by rfl); simp only [Act.put, List.setIfInBounds_toArray, List.set_cons_zero, List.set_cons_succ]))
  refine grow_nil ?_
  intro x hF hS
  have hm := hF7 _ (hF 7 (by omega))
  have hB := hF8 _ (hF 8 (by omega))
  have hdis : ∀ q, within2 (.slice A7 (turnV T.shape O).shape.length c7) (.slice B7 (turnV T.shape O).strides.length d7) q → q ≠ g8 := fun q h e => hS 7 8 (by omega) (by omega) (by omega) q (hO7 q h) (e ▸ hO8)
  obtain ⟨wx, hbx⟩ := x
  simp only at hm hB
  clear hF hS
  have hn1 : ∀ q, Value.ownBlock (.slice A7 (turnV T.shape O).shape.length c7) = some q → q ≠ g8 := fun q h => hdis q ⟨q, q, .inl h, .inl h, Nat.le_refl _, Nat.le_refl _⟩
  have hn2 : ∀ q, Value.ownBlock (.slice B7 (turnV T.shape O).strides.length d7) = some q → q ≠ g8 := fun q h => hdis q ⟨q, q, .inr h, .inr h, Nat.le_refl _, Nat.le_refl _⟩
  obtain ⟨hNg, hbg⟩ := built_view (turnV T.shape O).base hB hbx hm.1 hm.2.1 hm.2.2 hg8 hn1 hn2
  have HN := hid hNg
  have HBG := hid hbg
  obtain ⟨⟨y0, y1, y2⟩, y3, y4, y5⟩ := hB.all3
  clear qA HSx HOx hF4 hF5 hF7 hF8 hO4 hO7 hO8 hNg hbg hdis hn1 hn2 hm
  go_upto_region 4 with fail
  clear y0 y1 y2 y3 y4 y5 hB hbx
  generalize ((wx.setCell ⟨g8, 0, none⟩ (.int .i64 (turnV T.shape O).base)).setCell ⟨g8, 1, none⟩ (.slice A7 (turnV T.shape O).shape.length c7)).setCell ⟨g8, 2, none⟩ (.slice B7 (turnV T.shape O).strides.length d7) = w4 at *
  have HA4 := hid (HA3.out.ext HBG.out HA3.out.lt)
  have HR4 := hid (HR3.out.ext HBG.out HR3.out.lt)
  have HW4 := hid (HW3.out.nx HBG.out HW3.out.size)
  have HNB := hid HN.out.box
  have HVV := hid (HN.out.s.view HN.out.t)
  have HVS := hid HN.out.s.ints
  clear HN HA3 HR3 HW3 HBG
  have qA := fun x : ExtW w4 => (Blk.ext HA4.out x.h HA4.out.lt).all2.1
  have qN := fun x : ExtW w4 => (Blk.ext HNB.out x.h HNB.out.lt).all3.1
  have HC := hid (fun x : ExtW w4 => copyInts_any _ (turnV T.shape O).shape x.v (HVS.out.ext x.h) (show (turnV T.shape O).shape.length ≤ 100000000 by have := (shape_ext HTS.out).1; show (turnS T.shape O).length ≤ 100000000; omega))
  have HL := hid (fun x : ExtW w4 => loadG_any _ _ T.values (turnV T.shape O) x.v ((ht.ext HW4.out).ext x.h) (HVV.out.ext x.h) HTS.out HTL.out HIN.out)
  refine region_mk 8 (by kernel_rfl) (by kernel_rfl) ?_
  apply Exists.intro
  simp only [List.take_succ_cons, List.take_zero, List.drop_succ_cons, List.drop_zero]
  repeat (first
    | (apply grow_val (by rfl); (focus (intro x; (go_simp; try with_reducible rfl); done)); simp only [Act.put, List.setIfInBounds_toArray, List.set_cons_zero, List.set_cons_succ])
    | (apply grow_skip (by rfl); simp only [Act.put, List.setIfInBounds_toArray, List.set_cons_zero, List.set_cons_succ]))
  apply grow_ints ((turnV T.shape O).shape) (by rfl)
  · intro x hF K Q hK
    go_simp
    (go_at_call 111; refine (HC.out x).mono ?_; rintro e w' ⟨v', rfl, ho, hb⟩; exact hK _ _ hb ho)
  intro A2 c2 F2 O2 hF2 hO2
  simp only [Act.put, List.setIfInBounds_toArray, List.set_cons_zero, List.set_cons_succ]
  repeat (first
    | (apply grow_val (by rfl); (focus (intro x; (go_simp; try with_reducible rfl); done)); simp only [Act.put, List.setIfInBounds_toArray, List.set_cons_zero, List.set_cons_succ])
    | (apply grow_skip (by rfl); simp only [Act.put, List.setIfInBounds_toArray, List.set_cons_zero, List.set_cons_succ]))
  apply grow_ints (takenL T.values (offs (turnV T.shape O))) (by rfl)
  · intro x hF K Q hK
    go_simp
    (go_at_call 138; refine (HL.out x).mono ?_; rintro e w' ⟨v', rfl, ho, hb⟩; exact hK _ _ hb ho)
  intro A6 c6 F6 O6 hF6 hO6
  simp only [Act.put, List.setIfInBounds_toArray, List.set_cons_zero, List.set_cons_succ]
  repeat (first
    | (apply grow_val (by rfl); (focus (intro x; (go_simp; try with_reducible rfl); done)); simp only [Act.put, List.setIfInBounds_toArray, List.set_cons_zero, List.set_cons_succ])
    | (apply grow_skip (by rfl); simp only [Act.put, List.setIfInBounds_toArray, List.set_cons_zero, List.set_cons_succ]))
  apply grow_fn (fun d => .agg #[d.getD 0 undef, d.getD 1 undef]) ([.slice A2 (turnV T.shape O).shape.length c2, .slice A6 (takenL T.values (offs (turnV T.shape O))).length c6]) (by kernel_rfl) (by rfl)
  · intro x hF
    refine ⟨_, by (go_simp; try with_reducible rfl), rfl⟩
  intro v7 F7 hF7
  simp only [Act.put, List.setIfInBounds_toArray, List.set_cons_zero, List.set_cons_succ]
  repeat (first
    | (apply grow_val (by rfl); (focus (intro x; (go_simp; try with_reducible rfl); done)); simp only [Act.put, List.setIfInBounds_toArray, List.set_cons_zero, List.set_cons_succ])
    | (apply grow_skip (by rfl); simp only [Act.put, List.setIfInBounds_toArray, List.set_cons_zero, List.set_cons_succ]))
  refine grow_nil ?_
  intro x hF hS
  have e7 : v7 = .agg #[.slice A2 (turnV T.shape O).shape.length c2, .slice A6 (takenL T.values (offs (turnV T.shape O))).length c6] := hF7 _ (hF 7 (by omega))
  subst e7
  have h2 := hF2 _ (hF 2 (by omega))
  have h6 := hF6 _ (hF 6 (by omega))
  have hsp : Sep (.slice A2 (turnV T.shape O).shape.length c2) (.slice A6 (takenL T.values (offs (turnV T.shape O))).length c6) := fun q e1 e2 => hS 2 6 (by omega) (by omega) (by omega) q (hO2 q e1) (hO6 q e2)
  obtain ⟨w5, hb5⟩ := x
  simp only at h2 h6
  have hR5 := HR4.out.ext hb5 HR4.out.lt
  have hW5 := HW4.out.nx hb5 HW4.out.size
  have hz4 : w.heap.size + 2 ≤ w4.heap.size := by have := HR4.out.lt; omega
  have HO := hid (And.intro (h2.mono hz4) (And.intro (h6.mono hz4) (And.intro hsp hW5)))
  clear hF hS hF2 hF6 hF7 hO2 hO6 h2 h6 hsp hW5 qA qN HC HL
  obtain ⟨⟨r0, r1⟩, s0, s1⟩ := id hR5.all2
  go_wp2
  refine bodyPost_ret (v := .agg #[.slice A2 (turnV T.shape O).shape.length c2, .slice A6 (takenL T.values (offs (turnV T.shape O))).length c6]) (by simp [results, Try.results61, go_sem, r0, r1]) rfl ?_
  rw [HQ.out]
  refine ⟨_, _, rfl, ?_, ?_, HO.out.2.2.1, below2 HO.out.2.2.2 (by omega) _ _⟩
  · exact Own.mono (Own.far (Own.far HO.out.1 (by simp) _) (by simp) _) (by omega)
  · exact Own.mono (Own.far (Own.far HO.out.2.1 (by simp) _) (by simp) _) (by omega)

end Go.Proofs.Ytldblcolnjkcaaa
