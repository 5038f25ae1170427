/- Contracts: views with equal shapes and cells. No conditions. -/
import Derived.Test.YtpcahfdpbbcapaaC10
import Derived.Outline
import Derived.Deep.RegionHeld3
namespace Go.Proofs.Ytpcahfdpbbcapaa
open Go.RowKit

set_option maxRecDepth 100000 in
set_option maxHeartbeats 1600000 in
theorem SameView_any (a b : Value) (A B : VL) (w : World) (ha : ViewV w a A) (hb : ViewV w b B) :
    Calls Try.prog 25 #[a, b] w fun e w' => e = .returned (.bool (sameL A B)) ∧ Below w.heap.size w w' := by
  have ha0 := ha
  have hb0 := hb
  obtain ⟨sa, ta, rfl, hsa, hta⟩ := ha
  obtain ⟨sb, tb, rfl, hsb, htb⟩ := hb
  obtain ⟨As, cs, ea⟩ := hsa.form
  obtain ⟨Bs, ds, eb⟩ := hsb.form
  subst ea eb
  have hW : Below w.heap.size w ((w.alloc (.cells #[.int .i64 A.base, .slice As A.shape.length cs, ta] 36)).alloc (.cells #[.int .i64 B.base, .slice Bs B.shape.length ds, tb] 36)) := ((Below.refl _ _).alloc (Nat.le_refl _) _).alloc (by simp) _
  have hA := (Blk.new w 36 #[.int .i64 A.base, .slice As A.shape.length cs, ta]).alloc (.cells #[.int .i64 B.base, .slice Bs B.shape.length ds, tb] 36)
  have hB := Blk.new (w.alloc (.cells #[.int .i64 A.base, .slice As A.shape.length cs, ta] 36)) 36 #[.int .i64 B.base, .slice Bs B.shape.length ds, tb]
  simp only [World.size_alloc] at hB
  have t1 : True := trivial
  have t2 : True := trivial
  have t3 : True := trivial
  cases c1 : isViewL A
  · have HQ := hid (show sameL A B = false by simp [sameL, c1])
    go_enter Try.func25, Try.ntmps25
    go_wp2_with fail
    generalize ((w.alloc (.cells #[.int .i64 A.base, .slice As A.shape.length cs, ta] 36)).alloc (.cells #[.int .i64 B.base, .slice Bs B.shape.length ds, tb] 36)) = W1 at *
    have qA := fun x : ExtW W1 => (x.at_ hA).all3.1
    have HaE := hid (fun x : ExtW W1 => (ha0.ext hW).ext x.h)
    refine region_ext (by kernel_rfl) (by kernel_rfl) ?_
    repeat (quiet_step (first
      | ((go_at_call 69); with_reducible exact ext_call (isView_any _ A _ (HaE.out _)))))
    refine wpQuiet_nil ?_
    rintro _ ⟨⟨w1, hb1⟩, rfl⟩
    clear qA
    go_wp2
    go_ret
    exact ⟨ret_bool HQ.out.symm, hW.trans (hb1.mono hW.size)⟩
  have HA := hid (isViewL_and c1)
  cases c2 : isViewL B
  · have HQ := hid (show sameL A B = false by simp [sameL, c2])
    go_enter Try.func25, Try.ntmps25
    go_wp2_with fail
    generalize ((w.alloc (.cells #[.int .i64 A.base, .slice As A.shape.length cs, ta] 36)).alloc (.cells #[.int .i64 B.base, .slice Bs B.shape.length ds, tb] 36)) = W1 at *
    have qA := fun x : ExtW W1 => (x.at_ hA).all3.1
    have qB := fun x : ExtW W1 => (x.at_ hB).all3.1
    have HaE := hid (fun x : ExtW W1 => (ha0.ext hW).ext x.h)
    have HbE := hid (fun x : ExtW W1 => (hb0.ext hW).ext x.h)
    refine region_ext (by kernel_rfl) (by kernel_rfl) ?_
    repeat (quiet_step (first
      | ((go_at_call 69); with_reducible exact ext_call (isView_any _ A _ (HaE.out _)))
      | ((go_at_call 69); with_reducible exact ext_call (isView_any _ B _ (HbE.out _)))
      | ((go_at_call 70); with_reducible exact ext_call (Equal_any _ _ A.shape B.shape _ ((hsa.ext hW).ext (ExtW.h _)) ((hsb.ext hW).ext (ExtW.h _))))))
    refine wpQuiet_nil ?_
    rintro _ ⟨⟨w1, hb1⟩, rfl⟩
    clear qA qB
    go_wp2
    go_ret
    exact ⟨ret_bool HQ.out.symm, hW.trans (hb1.mono hW.size)⟩
  have HB := hid (isViewL_and c2)
  cases c3 : eqL A.shape B.shape
  · have HQ := hid (show sameL A B = false by simp [sameL, c3])
    go_enter Try.func25, Try.ntmps25
    go_wp2_with fail
    generalize ((w.alloc (.cells #[.int .i64 A.base, .slice As A.shape.length cs, ta] 36)).alloc (.cells #[.int .i64 B.base, .slice Bs B.shape.length ds, tb] 36)) = W1 at *
    have qA := fun x : ExtW W1 => (x.at_ hA).all3.1
    have qB := fun x : ExtW W1 => (x.at_ hB).all3.1
    have HaE := hid (fun x : ExtW W1 => (ha0.ext hW).ext x.h)
    have HbE := hid (fun x : ExtW W1 => (hb0.ext hW).ext x.h)
    refine region_ext (by kernel_rfl) (by kernel_rfl) ?_
    repeat (quiet_step (first
      | ((go_at_call 69); with_reducible exact ext_call (isView_any _ A _ (HaE.out _)))
      | ((go_at_call 69); with_reducible exact ext_call (isView_any _ B _ (HbE.out _)))
      | ((go_at_call 70); with_reducible exact ext_call (Equal_any _ _ A.shape B.shape _ ((hsa.ext hW).ext (ExtW.h _)) ((hsb.ext hW).ext (ExtW.h _))))))
    refine wpQuiet_nil ?_
    rintro _ ⟨⟨w1, hb1⟩, rfl⟩
    clear qA qB
    go_wp2
    go_ret
    exact ⟨ret_bool HQ.out.symm, hW.trans (hb1.mono hW.size)⟩
  · have HQ := hid (show sameL A B = eqL (offs A) (offs B) by simp [sameL, c1, c2, c3])
    go_enter Try.func25, Try.ntmps25
    go_wp2_with fail
    generalize ((w.alloc (.cells #[.int .i64 A.base, .slice As A.shape.length cs, ta] 36)).alloc (.cells #[.int .i64 B.base, .slice Bs B.shape.length ds, tb] 36)) = W1 at *
    obtain ⟨⟨q0, q1, q2⟩, -⟩ := id hA.all3
    obtain ⟨⟨p0, p1, p2⟩, -⟩ := id hB.all3
    have hD := hW.drew
    go_region_held3 (fun w' => w'.cell? ⟨w.heap.size, 0, none⟩ = some (.int .i64 A.base) ∧ w'.cell? ⟨w.heap.size, 1, none⟩ = some (.slice As A.shape.length cs) ∧ w'.cell? ⟨w.heap.size, 2, none⟩ = some ta ∧
        w'.cell? ⟨w.heap.size + 1, 0, none⟩ = some (.int .i64 B.base) ∧ w'.cell? ⟨w.heap.size + 1, 1, none⟩ = some (.slice Bs B.shape.length ds) ∧ w'.cell? ⟨w.heap.size + 1, 2, none⟩ = some tb)
      (first | go_keep | exact hK1 | exact hK2 | exact hK3 | exact hK4 | exact hK5 | exact hK6)
      (first
        | (go_at_call 69; have _t := t1; refine (isView_any _ A _ (ha0.ext hD)).mono ?_; rintro e w1 ⟨rfl, hb1⟩; clear t1; have hD1 := bstep hD hb1 hD.size; have hA1 := (Blk.ext hA (below_drew W1) hA.lt).ext hb1 hA.lt; have hB1 := (Blk.ext hB (below_drew W1) hB.lt).ext hb1 hB.lt; have hK1 := six_cells hA1 hB1)
        | (go_at_call 69; have _t := t2; refine (isView_any _ B _ (hb0.ext hD1)).mono ?_; rintro e w2 ⟨rfl, hb2⟩; clear t2; have hD2 := bstep hD1 hb2 hD1.size; have hA2 := hA1.ext hb2 hA1.lt; have hB2 := hB1.ext hb2 hB1.lt; have hK2 := six_cells hA2 hB2)
        | (go_at_call 70; have _t := t3; refine (Equal_any _ _ A.shape B.shape _ (hsa.ext hD2) (hsb.ext hD2)).mono ?_; rintro e w3 ⟨rfl, hb3⟩; clear t3; have hD3 := bstep hD2 hb3 hD2.size; have hA3 := hA2.ext hb3 hA2.lt; have hB3 := hB2.ext hb3 hB2.lt; have hK3 := six_cells hA3 hB3; have t4 : True := trivial)
        | (go_at_call 71; have _t := t4; refine (offsetsOf_any _ A _ (ha0.ext hD3) HA.out.1 HA.out.2.1).mono ?_; rintro e w4 ⟨r1, rfl, ho1, hb4⟩; clear t4; have hD4 := bstep hD3 hb4 hD3.size; have hA4 := hA3.ext hb4 hA3.lt; have hB4 := hB3.ext hb4 hB3.lt; have hK4 := six_cells hA4 hB4)
        | (go_at_call 71; refine (offsetsOf_any _ B _ (hb0.ext hD4) HB.out.1 HB.out.2.1).mono ?_; rintro e w5 ⟨r2, rfl, ho2, hb5⟩; have hD5 := bstep hD4 hb5 hD4.size; have hA5 := hA4.ext hb5 hA4.lt; have hB5 := hB4.ext hb5 hB4.lt; have hK5 := six_cells hA5 hB5)
        | (go_at_call 70; refine (Equal_any _ _ (offs A) (offs B) _ (Own.ints (ho1.ext hb5)) ho2.ints).mono ?_; rintro e w6 ⟨rfl, hb6⟩; have hD6 := bstep hD5 hb6 hD5.size; have hA6 := hA5.ext hb6 hA5.lt; have hB6 := hB5.ext hb6 hB5.lt; have hK6 := six_cells hA6 hB6))
    go_wp2
    go_ret
    exact ⟨ret_bool HQ.out.symm, hD6⟩

set_option maxRecDepth 100000 in
set_option maxHeartbeats 1600000 in
theorem sSameView_any (a b : Value) (A B : VL) (w : World) (ha : ViewV w a A) (hb : ViewV w b B) :
    Calls Try.prog 23 #[a, b] w fun e w' => e = .returned (.bool (sameL A B)) ∧ Below w.heap.size w w' := by
  have ha0 := ha
  have hb0 := hb
  obtain ⟨sa, ta, rfl, hsa, hta⟩ := ha
  obtain ⟨sb, tb, rfl, hsb, htb⟩ := hb
  obtain ⟨As, cs, ea⟩ := hsa.form
  obtain ⟨Bs, ds, eb⟩ := hsb.form
  subst ea eb
  have hW : Below w.heap.size w ((w.alloc (.cells #[.int .i64 A.base, .slice As A.shape.length cs, ta] 36)).alloc (.cells #[.int .i64 B.base, .slice Bs B.shape.length ds, tb] 36)) := ((Below.refl _ _).alloc (Nat.le_refl _) _).alloc (by simp) _
  have hA := (Blk.new w 36 #[.int .i64 A.base, .slice As A.shape.length cs, ta]).alloc (.cells #[.int .i64 B.base, .slice Bs B.shape.length ds, tb] 36)
  have hB := Blk.new (w.alloc (.cells #[.int .i64 A.base, .slice As A.shape.length cs, ta] 36)) 36 #[.int .i64 B.base, .slice Bs B.shape.length ds, tb]
  simp only [World.size_alloc] at hB
  have t1 : True := trivial
  have t2 : True := trivial
  have t3 : True := trivial
  cases c1 : isViewL A
  · have HQ := hid (show sameL A B = false by simp [sameL, c1])
    go_enter Try.func23, Try.ntmps23
    go_wp2_with fail
    generalize ((w.alloc (.cells #[.int .i64 A.base, .slice As A.shape.length cs, ta] 36)).alloc (.cells #[.int .i64 B.base, .slice Bs B.shape.length ds, tb] 36)) = W1 at *
    have qA := fun x : ExtW W1 => (x.at_ hA).all3.1
    have HaE := hid (fun x : ExtW W1 => (ha0.ext hW).ext x.h)
    refine region_ext (by kernel_rfl) (by kernel_rfl) ?_
    repeat (quiet_step (first
      | ((go_at_call 66); with_reducible exact ext_call (validView_any _ A _ (HaE.out _)))))
    refine wpQuiet_nil ?_
    rintro _ ⟨⟨w1, hb1⟩, rfl⟩
    clear qA
    go_wp2
    go_ret
    exact ⟨ret_bool HQ.out.symm, hW.trans (hb1.mono hW.size)⟩
  have HA := hid (isViewL_and c1)
  cases c2 : isViewL B
  · have HQ := hid (show sameL A B = false by simp [sameL, c2])
    go_enter Try.func23, Try.ntmps23
    go_wp2_with fail
    generalize ((w.alloc (.cells #[.int .i64 A.base, .slice As A.shape.length cs, ta] 36)).alloc (.cells #[.int .i64 B.base, .slice Bs B.shape.length ds, tb] 36)) = W1 at *
    have qA := fun x : ExtW W1 => (x.at_ hA).all3.1
    have qB := fun x : ExtW W1 => (x.at_ hB).all3.1
    have HaE := hid (fun x : ExtW W1 => (ha0.ext hW).ext x.h)
    have HbE := hid (fun x : ExtW W1 => (hb0.ext hW).ext x.h)
    refine region_ext (by kernel_rfl) (by kernel_rfl) ?_
    repeat (quiet_step (first
      | ((go_at_call 66); with_reducible exact ext_call (validView_any _ A _ (HaE.out _)))
      | ((go_at_call 66); with_reducible exact ext_call (validView_any _ B _ (HbE.out _)))
      | ((go_at_call 67); with_reducible exact ext_call (sameInts_any _ _ A.shape B.shape _ ((hsa.ext hW).ext (ExtW.h _)) ((hsb.ext hW).ext (ExtW.h _))))))
    refine wpQuiet_nil ?_
    rintro _ ⟨⟨w1, hb1⟩, rfl⟩
    clear qA qB
    go_wp2
    go_ret
    exact ⟨ret_bool HQ.out.symm, hW.trans (hb1.mono hW.size)⟩
  have HB := hid (isViewL_and c2)
  cases c3 : eqL A.shape B.shape
  · have HQ := hid (show sameL A B = false by simp [sameL, c3])
    go_enter Try.func23, Try.ntmps23
    go_wp2_with fail
    generalize ((w.alloc (.cells #[.int .i64 A.base, .slice As A.shape.length cs, ta] 36)).alloc (.cells #[.int .i64 B.base, .slice Bs B.shape.length ds, tb] 36)) = W1 at *
    have qA := fun x : ExtW W1 => (x.at_ hA).all3.1
    have qB := fun x : ExtW W1 => (x.at_ hB).all3.1
    have HaE := hid (fun x : ExtW W1 => (ha0.ext hW).ext x.h)
    have HbE := hid (fun x : ExtW W1 => (hb0.ext hW).ext x.h)
    refine region_ext (by kernel_rfl) (by kernel_rfl) ?_
    repeat (quiet_step (first
      | ((go_at_call 66); with_reducible exact ext_call (validView_any _ A _ (HaE.out _)))
      | ((go_at_call 66); with_reducible exact ext_call (validView_any _ B _ (HbE.out _)))
      | ((go_at_call 67); with_reducible exact ext_call (sameInts_any _ _ A.shape B.shape _ ((hsa.ext hW).ext (ExtW.h _)) ((hsb.ext hW).ext (ExtW.h _))))))
    refine wpQuiet_nil ?_
    rintro _ ⟨⟨w1, hb1⟩, rfl⟩
    clear qA qB
    go_wp2
    go_ret
    exact ⟨ret_bool HQ.out.symm, hW.trans (hb1.mono hW.size)⟩
  · have HQ := hid (show sameL A B = eqL (offs A) (offs B) by simp [sameL, c1, c2, c3])
    go_enter Try.func23, Try.ntmps23
    go_wp2_with fail
    generalize ((w.alloc (.cells #[.int .i64 A.base, .slice As A.shape.length cs, ta] 36)).alloc (.cells #[.int .i64 B.base, .slice Bs B.shape.length ds, tb] 36)) = W1 at *
    obtain ⟨⟨q0, q1, q2⟩, -⟩ := id hA.all3
    obtain ⟨⟨p0, p1, p2⟩, -⟩ := id hB.all3
    have hD := hW.drew
    go_region_held3 (fun w' => w'.cell? ⟨w.heap.size, 0, none⟩ = some (.int .i64 A.base) ∧ w'.cell? ⟨w.heap.size, 1, none⟩ = some (.slice As A.shape.length cs) ∧ w'.cell? ⟨w.heap.size, 2, none⟩ = some ta ∧
        w'.cell? ⟨w.heap.size + 1, 0, none⟩ = some (.int .i64 B.base) ∧ w'.cell? ⟨w.heap.size + 1, 1, none⟩ = some (.slice Bs B.shape.length ds) ∧ w'.cell? ⟨w.heap.size + 1, 2, none⟩ = some tb)
      (first | go_keep | exact hK1 | exact hK2 | exact hK3 | exact hK4 | exact hK5 | exact hK6)
      (first
        | (go_at_call 66; have _t := t1; refine (validView_any _ A _ (ha0.ext hD)).mono ?_; rintro e w1 ⟨rfl, hb1⟩; clear t1; have hD1 := bstep hD hb1 hD.size; have hA1 := (Blk.ext hA (below_drew W1) hA.lt).ext hb1 hA.lt; have hB1 := (Blk.ext hB (below_drew W1) hB.lt).ext hb1 hB.lt; have hK1 := six_cells hA1 hB1)
        | (go_at_call 66; have _t := t2; refine (validView_any _ B _ (hb0.ext hD1)).mono ?_; rintro e w2 ⟨rfl, hb2⟩; clear t2; have hD2 := bstep hD1 hb2 hD1.size; have hA2 := hA1.ext hb2 hA1.lt; have hB2 := hB1.ext hb2 hB1.lt; have hK2 := six_cells hA2 hB2)
        | (go_at_call 67; have _t := t3; refine (sameInts_any _ _ A.shape B.shape _ (hsa.ext hD2) (hsb.ext hD2)).mono ?_; rintro e w3 ⟨rfl, hb3⟩; clear t3; have hD3 := bstep hD2 hb3 hD2.size; have hA3 := hA2.ext hb3 hA2.lt; have hB3 := hB2.ext hb3 hB2.lt; have hK3 := six_cells hA3 hB3; have t4 : True := trivial)
        | (go_at_call 68; have _t := t4; refine (offsets_any _ A _ (ha0.ext hD3) HA.out.1 HA.out.2.1).mono ?_; rintro e w4 ⟨r1, rfl, ho1, hb4⟩; clear t4; have hD4 := bstep hD3 hb4 hD3.size; have hA4 := hA3.ext hb4 hA3.lt; have hB4 := hB3.ext hb4 hB3.lt; have hK4 := six_cells hA4 hB4)
        | (go_at_call 68; refine (offsets_any _ B _ (hb0.ext hD4) HB.out.1 HB.out.2.1).mono ?_; rintro e w5 ⟨r2, rfl, ho2, hb5⟩; have hD5 := bstep hD4 hb5 hD4.size; have hA5 := hA4.ext hb5 hA4.lt; have hB5 := hB4.ext hb5 hB4.lt; have hK5 := six_cells hA5 hB5)
        | (go_at_call 67; refine (sameInts_any _ _ (offs A) (offs B) _ (Own.ints (ho1.ext hb5)) ho2.ints).mono ?_; rintro e w6 ⟨rfl, hb6⟩; have hD6 := bstep hD5 hb6 hD5.size; have hA6 := hA5.ext hb6 hA5.lt; have hB6 := hB5.ext hb6 hB5.lt; have hK6 := six_cells hA6 hB6))
    go_wp2
    go_ret
    exact ⟨ret_bool HQ.out.symm, hD6⟩

end Go.Proofs.Ytpcahfdpbbcapaa
