/- The law on new views: the walk. No conditions. -/
import Derived.Test.YtldblcolnjkcaaaSH2
import Derived.Test.YtldblcolnjkcaaaNV2
import Derived.Test.YtldblcolnjkcaaaEV
import Derived.Test.YtldblcolnjkcaaaRK1
import Derived.Test.YtldblcolnjkcaaaC5a
import Derived.Test.YtldblcolnjkcaaaC11a
import Derived.Test.YtldblcolnjkcaaaGF
import Derived.Test.YtldblcolnjkcaaaGv
namespace Go.Proofs.Ytldblcolnjkcaaa
open Go.RowKit

set_option maxRecDepth 100000 in
set_option maxHeartbeats 6400000 in
theorem ValidShape_any (v : Value) (s : List Int) (w : World) (h : Ints w v s) :
    Calls Try.prog 33 #[v] w fun e w' => e = .returned (.bool (isShapeL s)) ∧ w = w' := by
  go_enter Try.func33, Try.ntmps33
  go_wp2_with fail
  refine (isShape_any _ s _ h).mono ?_; rintro e w' ⟨rfl, rfl⟩
  go_wp2
  go_ret
  exact ⟨rfl, rfl⟩
set_option maxRecDepth 100000 in
set_option maxHeartbeats 6400000 in
theorem ValidView_any (v : Value) (V : VL) (w : World) (h : ViewV w v V) :
    Calls Try.prog 37 #[v] w fun e w' => e = .returned (.bool (isViewL V)) ∧ Below w.heap.size w w' := by
  have h0 := h
  obtain ⟨s1, t1, rfl, hs1, ht1⟩ := h
  have hb0 := below_alloc w (.cells #[.int .i64 V.base, s1, t1] 43)
  have hZ := Blk.new w 43 #[.int .i64 V.base, s1, t1]
  go_enter Try.func37, Try.ntmps37
  go_upto_region 1 with fail
  generalize w.alloc (.cells #[.int .i64 V.base, s1, t1] 43) = w0 at *
  obtain ⟨⟨q0, q1, q2⟩, -⟩ := id hZ.all3
  go_wp2_with fail
  refine (isView_any _ V _ (h0.nx hb0)).mono ?_; rintro e w1 ⟨rfl, hb⟩
  go_wp2
  go_ret
  exact ⟨rfl, hb0.nx hb hb0.size⟩

set_option maxRecDepth 100000 in
set_option maxHeartbeats 6400000 in
theorem FnNewView_walk (v : Value) (n : Nat) (w : World) (h : BytesV w v n) :
    Calls Try.prog 5 #[v] w fun e w' => e = .returned (.bool true) ∧ Below w.heap.size w w' := by
  have hv := h
  obtain ⟨A, c, rfl, h1, h2, -⟩ := h
  by_cases hn : 1048576 < n
  · have hni : (1048576 : Int) < (n : Int) := by omega
    go_enter Try.func5, Try.ntmps5
    go_wp2
    go_ret
    exact ⟨rfl, Below.refl _ _⟩
  have hni : ¬ (1048576 : Int) < (n : Int) := by omega
  go_enter Try.func5, Try.ntmps5
  go_wp2_with fail
  refine (DrawNewView_any _ n _ hv).mono ?_; rintro e w1 ⟨u, s, rfl, hS, hl, hz⟩
  obtain ⟨A1, c1, rfl⟩ := hS.form
  clear hv h1 h2
  go_wp2_with fail
  refine (NewView_any _ s _ hS).mono ?_; rintro e w2 ⟨sv, tv, rfl, hsv, htv, hsep, hb⟩
  obtain ⟨As, cs, rfl⟩ := hsv.form
  obtain ⟨At, ct, rfl⟩ := htv.form
  have hS := hS.nx hb
  have hz := hz.nx hb hz.size
  have hW := hsv.view htv
  have hb3 := below_alloc w2 (.cells #[.int .i64 (newL s).base, .slice As (newL s).shape.length cs, .slice At (newL s).strides.length ct] 43)
  have hX := Blk.new w2 43 #[.int .i64 (newL s).base, .slice As (newL s).shape.length cs, .slice At (newL s).strides.length ct]
  have hS := hS.nx hb3
  have hz := hz.nx hb3 hz.size
  have hW := hW.nx hb3
  clear hb hb3 hsv htv hsep
  obtain ⟨V, hV⟩ : ∃ V, newL s = V := ⟨_, rfl⟩
  have HV := hid hV
  rw [hV] at hX hW hS hz ⊢
  go_upto_region 5 with fail
  generalize w2.alloc (.cells #[.int .i64 V.base, .slice As V.shape.length cs, .slice At V.strides.length ct] 43) = w3 at *
  have qA := fun x : ExtW w3 => (x.at_ hX).all3.1
  have HN := hid (fun x : ExtW w3 => sNewView_any _ s x.v (hS.nx x.h))
  rw [hV] at HN
  have HWx := hid (fun x : ExtW w3 => hW.nx x.h)
  have HVS := hid (fun x : ExtW w3 => ValidShape_any _ s x.v (hS.nx x.h))
  clear hV
  cases hs : isShapeL s
  · have HVS2 : ∀ x : ExtW w3, Calls Try.prog 33 #[.slice A1 s.length c1] x.v fun e w' => e = .returned (.bool false) ∧ Below x.v.heap.size x.v w' := fun x => (HVS.out x).mono fun _ _ h => ⟨by rw [h.1, hs], h.2 ▸ Below.refl _ _⟩
    have HVS2 := hid HVS2
    clear hs
    refine region_mk 10 (by kernel_rfl) (by kernel_rfl) ?_
    apply Exists.intro
    simp only [List.take_succ_cons, List.take_zero, List.drop_succ_cons, List.drop_zero]
    repeat (first
      | (apply grow_val (by rfl); (focus (intro x; (go_simp; try with_reducible rfl); done)); simp only [Act.put, List.setIfInBounds_toArray, List.set_cons_zero, List.set_cons_succ])
      | (apply grow_skip (by rfl); simp only [Act.put, List.setIfInBounds_toArray, List.set_cons_zero, List.set_cons_succ]))
    apply grow_viewF (fun v => v) id_inj (V) (by rfl)
    · intro x hF K Q hK
      go_simp
      go_at_call 32;(with_reducible refine (HN.out x).mono ?_); rintro e w' ⟨s', t', rfl, ho, hp, hs, hb⟩; exact hK _ _ _ hb ho hp hs
    intro A2 c2 B2 d2 F2 O2 hF2 hO2
    simp only [Act.put, List.setIfInBounds_toArray, List.set_cons_zero, List.set_cons_succ]
    repeat (first
      | (apply grow_val (by rfl); (focus (intro x; (go_simp; try with_reducible rfl); done)); simp only [Act.put, List.setIfInBounds_toArray, List.set_cons_zero, List.set_cons_succ])
      | (apply grow_skip (by rfl); simp only [Act.put, List.setIfInBounds_toArray, List.set_cons_zero, List.set_cons_succ]))
    apply grow_callG (by rfl)
    · intro x hF K Q hK
      have hv2 := hF2 _ (hF 2 (by kernel_rfl))
      go_simp
      refine (equalView_same _ _ V _ (HWx.out x) (hv2.1.view hv2.2.1)).mono ?_
      rintro e w' ⟨rfl, hb⟩
      exact hK _ hb
    simp only [Act.put, List.setIfInBounds_toArray, List.set_cons_zero, List.set_cons_succ]
    repeat (first
      | (apply grow_val (by rfl); (focus (intro x; (go_simp; try with_reducible rfl); done)); simp only [Act.put, List.setIfInBounds_toArray, List.set_cons_zero, List.set_cons_succ])
      | (apply grow_skip (by rfl); simp only [Act.put, List.setIfInBounds_toArray, List.set_cons_zero, List.set_cons_succ])
      | (apply grow_call (by rfl); (focus (intro x K Q hK; go_simp; (first | (go_at_call 33; (with_reducible refine (HVS2.out x).mono ?_); rintro e w' ⟨rfl, hb⟩; exact hK _ hb)); done)); simp only [Act.put, List.setIfInBounds_toArray, List.set_cons_zero, List.set_cons_succ]))
    refine grow_nil ?_
    intro x hF hS9
    obtain ⟨w4, hb4⟩ := x
    have hX := hX.nx hb4
    have hS := hS.nx hb4
    have hz := hz.nx hb4 hz.size
    have hW := hW.nx hb4
    clear hF hS9 hF2 hO2 qA HN HWx HVS HVS2
    go_upto_region 6 with fail
    have qA := fun x : ExtW w4 => (x.at_ hX).all3.1
    have HN := hid (fun x : ExtW w4 => sNewView_any _ s x.v (hS.nx x.h))
    rw [HV.out] at HN
    have HWx := hid (fun x : ExtW w4 => hW.nx x.h)
    refine region_mk 4 (by kernel_rfl) (by kernel_rfl) ?_
    apply Exists.intro
    simp only [List.take_succ_cons, List.take_zero, List.drop_succ_cons, List.drop_zero]
    repeat (first
      | (apply grow_val (by rfl); (focus (intro x; (go_simp; try with_reducible rfl); done)); simp only [Act.put, List.setIfInBounds_toArray, List.set_cons_zero, List.set_cons_succ])
      | (apply grow_skip (by rfl); simp only [Act.put, List.setIfInBounds_toArray, List.set_cons_zero, List.set_cons_succ]))
    apply grow_viewF (fun v => v) id_inj (V) (by rfl)
    · intro x hF K Q hK
      go_simp
      go_at_call 32;(with_reducible refine (HN.out x).mono ?_); rintro e w' ⟨s', t', rfl, ho, hp, hs, hb⟩; exact hK _ _ _ hb ho hp hs
    intro A2 c2 B2 d2 F2 O2 hF2 hO2
    simp only [Act.put, List.setIfInBounds_toArray, List.set_cons_zero, List.set_cons_succ]
    repeat (first
      | (apply grow_val (by rfl); (focus (intro x; (go_simp; try with_reducible rfl); done)); simp only [Act.put, List.setIfInBounds_toArray, List.set_cons_zero, List.set_cons_succ])
      | (apply grow_skip (by rfl); simp only [Act.put, List.setIfInBounds_toArray, List.set_cons_zero, List.set_cons_succ]))
    apply grow_callG (by rfl)
    · intro x hF K Q hK
      have hv2 := hF2 _ (hF 2 (by kernel_rfl))
      go_simp
      refine (equalView_same _ _ V _ (HWx.out x) (hv2.1.view hv2.2.1)).mono ?_
      rintro e w' ⟨rfl, hb⟩
      exact hK _ hb
    simp only [Act.put, List.setIfInBounds_toArray, List.set_cons_zero, List.set_cons_succ]
    repeat (first
      | (apply grow_val (by rfl); (focus (intro x; (go_simp; try with_reducible rfl); done)); simp only [Act.put, List.setIfInBounds_toArray, List.set_cons_zero, List.set_cons_succ])
      | (apply grow_skip (by rfl); simp only [Act.put, List.setIfInBounds_toArray, List.set_cons_zero, List.set_cons_succ]))
    refine grow_nil ?_
    intro x hF hS9
    obtain ⟨w5, hb5⟩ := x
    clear hF hS9 hF2 hO2 qA
    go_wp2
    go_ret
    exact ⟨rfl, hz.nx hb5 hz.size⟩
  · have HVS2 : ∀ x : ExtW w3, Calls Try.prog 33 #[.slice A1 s.length c1] x.v fun e w' => e = .returned (.bool true) ∧ Below x.v.heap.size x.v w' := fun x => (HVS.out x).mono fun _ _ h => ⟨by rw [h.1, hs], h.2 ▸ Below.refl _ _⟩
    have HVS2 := hid HVS2
    obtain ⟨m, hm⟩ : ∃ m : Nat, prodI s = (m : Int) := ⟨(prodI s).toNat, by have := shape_prod hs; omega⟩
    have hm60 : m ≤ 60 := by have := shape_prod hs; omega
    have HOF := hid (show offsOf V = upI m by rw [← HV.out]; unfold offsOf; rw [if_pos (newL_valid hs), newL_offs hs, hm, Int.toNat_natCast])
    have HRO := hid (show isRowL V = true by rw [← HV.out]; exact newL_row hs)
    have HVA := hid (show isViewL V = true by rw [← HV.out]; exact newL_valid hs)
    have HC := hid (show countL s = (m : Int) by simp [countL, hs, hm])
    clear hs hm
    refine region_mk 10 (by kernel_rfl) (by kernel_rfl) ?_
    apply Exists.intro
    simp only [List.take_succ_cons, List.take_zero, List.drop_succ_cons, List.drop_zero]
    repeat (first
      | (apply grow_val (by rfl); (focus (intro x; (go_simp; try with_reducible rfl); done)); simp only [Act.put, List.setIfInBounds_toArray, List.set_cons_zero, List.set_cons_succ])
      | (apply grow_skip (by rfl); simp only [Act.put, List.setIfInBounds_toArray, List.set_cons_zero, List.set_cons_succ]))
    apply grow_viewF (fun v => v) id_inj (V) (by rfl)
    · intro x hF K Q hK
      go_simp
      go_at_call 32;(with_reducible refine (HN.out x).mono ?_); rintro e w' ⟨s', t', rfl, ho, hp, hs, hb⟩; exact hK _ _ _ hb ho hp hs
    intro A2 c2 B2 d2 F2 O2 hF2 hO2
    simp only [Act.put, List.setIfInBounds_toArray, List.set_cons_zero, List.set_cons_succ]
    repeat (first
      | (apply grow_val (by rfl); (focus (intro x; (go_simp; try with_reducible rfl); done)); simp only [Act.put, List.setIfInBounds_toArray, List.set_cons_zero, List.set_cons_succ])
      | (apply grow_skip (by rfl); simp only [Act.put, List.setIfInBounds_toArray, List.set_cons_zero, List.set_cons_succ]))
    apply grow_callG (by rfl)
    · intro x hF K Q hK
      have hv2 := hF2 _ (hF 2 (by kernel_rfl))
      go_simp
      refine (equalView_same _ _ V _ (HWx.out x) (hv2.1.view hv2.2.1)).mono ?_
      rintro e w' ⟨rfl, hb⟩
      exact hK _ hb
    simp only [Act.put, List.setIfInBounds_toArray, List.set_cons_zero, List.set_cons_succ]
    repeat (first
      | (apply grow_val (by rfl); (focus (intro x; (go_simp; try with_reducible rfl); done)); simp only [Act.put, List.setIfInBounds_toArray, List.set_cons_zero, List.set_cons_succ])
      | (apply grow_skip (by rfl); simp only [Act.put, List.setIfInBounds_toArray, List.set_cons_zero, List.set_cons_succ])
      | (apply grow_call (by rfl); (focus (intro x K Q hK; go_simp; (first | (go_at_call 33; (with_reducible refine (HVS2.out x).mono ?_); rintro e w' ⟨rfl, hb⟩; exact hK _ hb)); done)); simp only [Act.put, List.setIfInBounds_toArray, List.set_cons_zero, List.set_cons_succ]))
    refine grow_nil ?_
    intro x hF hS9
    obtain ⟨w4, hb4⟩ := x
    have hX := hX.nx hb4
    have hS := hS.nx hb4
    have hz := hz.nx hb4 hz.size
    have hW := hW.nx hb4
    clear hF hS9 hF2 hO2 qA HN HWx HVS HVS2
    obtain ⟨⟨q0, q1, q2⟩, -⟩ := id hX.all3
    go_wp2_with fail
    refine (OffsetsOf_any _ V _ hW).mono ?_; rintro e w5 ⟨r, rfl, ho, hb⟩
    rw [HOF.out] at ho
    have hX := hX.nx hb
    have hS := hS.nx hb
    have hz := hz.nx hb hz.size
    have hW := hW.nx hb
    clear hb q0 q1 q2
    go_wp2_with fail
    refine (CountOf_any _ s _ hS).mono ?_; rintro e w' ⟨rfl, rfl⟩
    rw [HC.out]
    go_wp2_with fail
    refine (lupTo_any _ _ (by omega)).mono ?_; rintro e w6 ⟨r2, rfl, ho2, hb⟩
    have ho := ho.nx hb
    have hX := hX.nx hb
    have hz := hz.nx hb hz.size
    have hW := hW.nx hb
    clear hb
    go_wp2_with fail
    refine (equalInts_same _ _ _ _ ho.ints ho2.ints).mono ?_; rintro e w7 ⟨rfl, hb⟩
    have hX := hX.nx hb
    have hz := hz.nx hb hz.size
    have hW := hW.nx hb
    clear hb ho ho2
    obtain ⟨⟨q0, q1, q2⟩, -⟩ := id hX.all3
    go_wp2_with fail
    refine (iIsRow_any _ V _ hW).mono ?_; rintro e w8 ⟨rfl, hb⟩
    rw [HRO.out]
    have hX := hX.nx hb
    have hz := hz.nx hb hz.size
    have hW := hW.nx hb
    clear hb q0 q1 q2
    obtain ⟨⟨q0, q1, q2⟩, -⟩ := id hX.all3
    go_wp2_with fail
    refine (ValidView_any _ V _ hW).mono ?_; rintro e w9 ⟨rfl, hb⟩
    rw [HVA.out]
    go_wp2
    go_ret
    exact ⟨rfl, hz.nx hb hz.size⟩

end Go.Proofs.Ytldblcolnjkcaaa
