/- Contract: MergeSlices. No conditions. (printed by mkms.py) -/
import Derived.Test.YtldblcolnjkcaaaMS0
import Derived.Test.YtldblcolnjkcaaaDS1
import Derived.Test.YtldblcolnjkcaaaYB
namespace Go.Proofs.Ytldblcolnjkcaaa
open Go.RowKit

theorem below5 {B : Nat} {w w' : World} (h : Below B w w') {m : Nat} (hm : B ≤ m) (a b c d e : Value) : Below B w (((((w'.setCell ⟨m, 0, none⟩ a).setCell ⟨m, 1, none⟩ b).setCell ⟨m, 2, none⟩ c).setCell ⟨m, 3, none⟩ d).setCell ⟨m, 4, none⟩ e) :=
  ((((h.setCell (p := ⟨m, 0, none⟩) hm a).setCell (p := ⟨m, 1, none⟩) hm b).setCell (p := ⟨m, 2, none⟩) hm c).setCell (p := ⟨m, 3, none⟩) hm d).setCell (p := ⟨m, 4, none⟩) hm e
/-- What two slices take lies in the things. -/
theorem two_facts {n : Int} {a b : SL} (hn : 0 ≤ n ∧ n ≤ 60) (h : ∃ A S c, twoL n a b = progL A S c ∧ S ≠ 0 ∧ ∀ x ∈ progL A S c, 0 ≤ x ∧ x < n) :
    (∀ x ∈ twoL n a b, -100000 ≤ x ∧ x ≤ 100000) ∧ -1 ≤ (normL (twoL n a b)).b ∧ (normL (twoL n a b)).b ≤ 60 ∧ (0 ≤ (normL (twoL n a b)).a ∧ (normL (twoL n a b)).a ≤ 60) ∧ (-60 ≤ (normL (twoL n a b)).s ∧ (normL (twoL n a b)).s ≤ 60) := by
  obtain ⟨A, S, c, e, hS, hin⟩ := h
  rw [e]
  have hs := slice_norm hn hS hin
  exact ⟨fun x hx => by have := hin x hx; omega, hs.2.2.1.1, hs.2.2.1.2, hs.2.1, hs.2.2.2.1⟩

set_option maxRecDepth 100000 in
set_option maxHeartbeats 6400000 in
theorem MergeSlices_any (n : Int) (a b : SL) (w : World) (ha : a.ok) (hb : b.ok) :
    Calls Try.prog 23 #[.int .i64 n, a.val, b.val] w fun e w' => e = .returned (mergeL n a b).val ∧ Below w.heap.size w w' := by
  have HA := hid ha
  have HB := hid hb
  have HQ0 := hid (fun h : okMg n a b = false => (show mergeL n a b = SL.zero by simp [mergeL, h]))
  have HQ1 := hid (fun h : okMg n a b = true => (show mergeL n a b = sliceForL (normL (twoL n a b)) by simp [mergeL, h]))
  have HOK := hid (show okMg n a b = (inR n 0 60 && okSl a && okSl b) from rfl)
  obtain ⟨a_f, a_t, a_b, a_hf, a_ht⟩ := a
  obtain ⟨b_f, b_t, b_b, b_hf, b_ht⟩ := b
  have hA := ((Blk.new w 33 #[.int .i64 a_f, .int .i64 a_t, .int .i64 a_b, .bool a_hf, .bool a_ht]).alloc (.cells #[.int .i64 b_f, .int .i64 b_t, .int .i64 b_b, .bool b_hf, .bool b_ht] 33)).alloc (.cells #[.int .i64 0, .int .i64 0, .int .i64 0, .bool false, .bool false] 33)
  have hB := (Blk.new (w.alloc (.cells #[.int .i64 a_f, .int .i64 a_t, .int .i64 a_b, .bool a_hf, .bool a_ht] 33)) 33 #[.int .i64 b_f, .int .i64 b_t, .int .i64 b_b, .bool b_hf, .bool b_ht]).alloc (.cells #[.int .i64 0, .int .i64 0, .int .i64 0, .bool false, .bool false] 33)
  have hR := Blk.new ((w.alloc (.cells #[.int .i64 a_f, .int .i64 a_t, .int .i64 a_b, .bool a_hf, .bool a_ht] 33)).alloc (.cells #[.int .i64 b_f, .int .i64 b_t, .int .i64 b_b, .bool b_hf, .bool b_ht] 33)) 33 #[.int .i64 0, .int .i64 0, .int .i64 0, .bool false, .bool false]
  simp only [World.size_alloc] at hB hR
  have hW : Below w.heap.size w (((w.alloc (.cells #[.int .i64 a_f, .int .i64 a_t, .int .i64 a_b, .bool a_hf, .bool a_ht] 33)).alloc (.cells #[.int .i64 b_f, .int .i64 b_t, .int .i64 b_b, .bool b_hf, .bool b_ht] 33)).alloc (.cells #[.int .i64 0, .int .i64 0, .int .i64 0, .bool false, .bool false] 33)) := (((Below.refl _ _).alloc (Nat.le_refl _) _).alloc (by simp) _).alloc (by simp; omega) _
  simp only [SL.val]
  clear ha hb
  cases c0 : inR n 0 60
  · have HQ := hid (HQ0.out (by rw [HOK.out, c0]; rfl))
    have C0 := hid c0
    clear c0
    go_enter Try.func23, Try.ntmps23
    go_upto_region 1 with fail
    generalize (((w.alloc (.cells #[.int .i64 a_f, .int .i64 a_t, .int .i64 a_b, .bool a_hf, .bool a_ht] 33)).alloc (.cells #[.int .i64 b_f, .int .i64 b_t, .int .i64 b_b, .bool b_hf, .bool b_ht] 33)).alloc (.cells #[.int .i64 0, .int .i64 0, .int .i64 0, .bool false, .bool false] 33)) = W1 at *
    go_wp2_with fail
    refine (areCells_any n _).mono ?_; rintro e w' ⟨rfl, rfl⟩
    rw [C0.out]
    obtain ⟨⟨z0, z1, z2, z3, z4⟩, zf0, zf1, zf2, zf3, zf4⟩ := id hR.all5
    obtain ⟨⟨t0, t1, t2, t3, t4⟩, -⟩ := (hR.store5 (.int .i64 0) (.int .i64 0) (.int .i64 0) (.bool false) (.bool false)).all5
    clear hR
    go_wp2
    refine bodyPost_ret (v := .agg #[.int .i64 0, .int .i64 0, .int .i64 0, .bool false, .bool false]) (by simp [results, Try.results23, go_sem, t0, t1, t2, t3, t4]) rfl ?_
    rw [HQ.out]
    exact ⟨rfl, below5 hW (by omega) _ _ _ _ _⟩
  have C0 := hid c0
  have hn60 := inR_iff.1 c0
  cases c1 : okSl ⟨a_f, a_t, a_b, a_hf, a_ht⟩
  · have HQ := hid (HQ0.out (by rw [HOK.out, c0, c1]; rfl))
    have C1 := hid c1
    clear c0 c1
    go_enter Try.func23, Try.ntmps23
    go_upto_region 1 with fail
    generalize (((w.alloc (.cells #[.int .i64 a_f, .int .i64 a_t, .int .i64 a_b, .bool a_hf, .bool a_ht] 33)).alloc (.cells #[.int .i64 b_f, .int .i64 b_t, .int .i64 b_b, .bool b_hf, .bool b_ht] 33)).alloc (.cells #[.int .i64 0, .int .i64 0, .int .i64 0, .bool false, .bool false] 33)) = W1 at *
    go_wp2_with fail
    refine (areCells_any n _).mono ?_; rintro e w' ⟨rfl, rfl⟩
    rw [C0.out]
    obtain ⟨⟨q0, q1, q2, q3, q4⟩, -⟩ := id hA.all5
    obtain ⟨⟨p0, p1, p2, p3, p4⟩, -⟩ := id hB.all5
    go_wp2_with fail
    refine (isSlice_any _ ⟨a_f, a_t, a_b, a_hf, a_ht⟩ _ rfl HA.out).mono ?_; rintro e w1 ⟨rfl, hb⟩
    rw [C1.out]
    have hA := hA.nx hb
    have hB := hB.nx hb
    have hR := hR.nx hb
    have hW := hW.nx hb hW.size
    clear hb q0 q1 q2 q3 q4 p0 p1 p2 p3 p4
    obtain ⟨⟨z0, z1, z2, z3, z4⟩, zf0, zf1, zf2, zf3, zf4⟩ := id hR.all5
    obtain ⟨⟨t0, t1, t2, t3, t4⟩, -⟩ := (hR.store5 (.int .i64 0) (.int .i64 0) (.int .i64 0) (.bool false) (.bool false)).all5
    clear hR
    go_wp2
    refine bodyPost_ret (v := .agg #[.int .i64 0, .int .i64 0, .int .i64 0, .bool false, .bool false]) (by simp [results, Try.results23, go_sem, t0, t1, t2, t3, t4]) rfl ?_
    rw [HQ.out]
    exact ⟨rfl, below5 hW (by omega) _ _ _ _ _⟩
  have C1 := hid c1
  cases c2 : okSl ⟨b_f, b_t, b_b, b_hf, b_ht⟩
  · have HQ := hid (HQ0.out (by rw [HOK.out, c0, c1, c2]; rfl))
    have C2 := hid c2
    clear c0 c1 c2
    go_enter Try.func23, Try.ntmps23
    go_upto_region 1 with fail
    generalize (((w.alloc (.cells #[.int .i64 a_f, .int .i64 a_t, .int .i64 a_b, .bool a_hf, .bool a_ht] 33)).alloc (.cells #[.int .i64 b_f, .int .i64 b_t, .int .i64 b_b, .bool b_hf, .bool b_ht] 33)).alloc (.cells #[.int .i64 0, .int .i64 0, .int .i64 0, .bool false, .bool false] 33)) = W1 at *
    go_wp2_with fail
    refine (areCells_any n _).mono ?_; rintro e w' ⟨rfl, rfl⟩
    rw [C0.out]
    obtain ⟨⟨q0, q1, q2, q3, q4⟩, -⟩ := id hA.all5
    obtain ⟨⟨p0, p1, p2, p3, p4⟩, -⟩ := id hB.all5
    go_wp2_with fail
    refine (isSlice_any _ ⟨a_f, a_t, a_b, a_hf, a_ht⟩ _ rfl HA.out).mono ?_; rintro e w1 ⟨rfl, hb⟩
    rw [C1.out]
    have hA := hA.nx hb
    have hB := hB.nx hb
    have hR := hR.nx hb
    have hW := hW.nx hb hW.size
    clear hb q0 q1 q2 q3 q4 p0 p1 p2 p3 p4
    obtain ⟨⟨q0, q1, q2, q3, q4⟩, -⟩ := id hA.all5
    obtain ⟨⟨p0, p1, p2, p3, p4⟩, -⟩ := id hB.all5
    go_wp2_with fail
    refine (isSlice_any _ ⟨b_f, b_t, b_b, b_hf, b_ht⟩ _ rfl HB.out).mono ?_; rintro e w2 ⟨rfl, hb⟩
    rw [C2.out]
    have hA := hA.nx hb
    have hB := hB.nx hb
    have hR := hR.nx hb
    have hW := hW.nx hb hW.size
    clear hb q0 q1 q2 q3 q4 p0 p1 p2 p3 p4
    obtain ⟨⟨z0, z1, z2, z3, z4⟩, zf0, zf1, zf2, zf3, zf4⟩ := id hR.all5
    obtain ⟨⟨t0, t1, t2, t3, t4⟩, -⟩ := (hR.store5 (.int .i64 0) (.int .i64 0) (.int .i64 0) (.bool false) (.bool false)).all5
    clear hR
    go_wp2
    refine bodyPost_ret (v := .agg #[.int .i64 0, .int .i64 0, .int .i64 0, .bool false, .bool false]) (by simp [results, Try.results23, go_sem, t0, t1, t2, t3, t4]) rfl ?_
    rw [HQ.out]
    exact ⟨rfl, below5 hW (by omega) _ _ _ _ _⟩
  have C2 := hid c2
  have HQ := hid (HQ1.out (by rw [HOK.out, c0, c1, c2]; rfl))
  have HTP := hid (two_prog hn60 (okSl_and c1).2.2.2 (okSl_and c2).2.2.2)
  have HL1 := hid (idx_len hn60 (okSl_and c1).2.2.2)
  clear c0 c1 c2
  go_enter Try.func23, Try.ntmps23
  go_upto_region 1 with fail
  generalize (((w.alloc (.cells #[.int .i64 a_f, .int .i64 a_t, .int .i64 a_b, .bool a_hf, .bool a_ht] 33)).alloc (.cells #[.int .i64 b_f, .int .i64 b_t, .int .i64 b_b, .bool b_hf, .bool b_ht] 33)).alloc (.cells #[.int .i64 0, .int .i64 0, .int .i64 0, .bool false, .bool false] 33)) = W1 at *
  go_wp2_with fail
  refine (areCells_any n _).mono ?_; rintro e w' ⟨rfl, rfl⟩
  rw [C0.out]
  obtain ⟨⟨q0, q1, q2, q3, q4⟩, -⟩ := id hA.all5
  obtain ⟨⟨p0, p1, p2, p3, p4⟩, -⟩ := id hB.all5
  go_wp2_with fail
  refine (isSlice_any _ ⟨a_f, a_t, a_b, a_hf, a_ht⟩ _ rfl HA.out).mono ?_; rintro e w1 ⟨rfl, hb⟩
  rw [C1.out]
  have hA := hA.nx hb
  have hB := hB.nx hb
  have hR := hR.nx hb
  have hW := hW.nx hb hW.size
  clear hb q0 q1 q2 q3 q4 p0 p1 p2 p3 p4
  obtain ⟨⟨q0, q1, q2, q3, q4⟩, -⟩ := id hA.all5
  obtain ⟨⟨p0, p1, p2, p3, p4⟩, -⟩ := id hB.all5
  go_wp2_with fail
  refine (isSlice_any _ ⟨b_f, b_t, b_b, b_hf, b_ht⟩ _ rfl HB.out).mono ?_; rintro e w2 ⟨rfl, hb⟩
  rw [C2.out]
  have hA := hA.nx hb
  have hB := hB.nx hb
  have hR := hR.nx hb
  have hW := hW.nx hb hW.size
  clear hb q0 q1 q2 q3 q4 p0 p1 p2 p3 p4
  have HF := hid (two_facts hn60 HTP.out)
  have HLT := hid (show (twoL n ⟨a_f, a_t, a_b, a_hf, a_ht⟩ ⟨b_f, b_t, b_b, b_hf, b_ht⟩).length ≤ 60 by have h1 := HL1.out; have h2 := idx_len (n := ((idxL n ⟨a_f, a_t, a_b, a_hf, a_ht⟩).length : Int)) (by omega) (okSl_and C2.out).2.2.2; simp only [twoL, takenL, List.length_map]; omega)
  obtain ⟨⟨q0, q1, q2, q3, q4⟩, -⟩ := id hA.all5
  go_wp2_with fail
  refine (indicesOf_any n _ ⟨a_f, a_t, a_b, a_hf, a_ht⟩ _ rfl hn60 C1.out).mono ?_; rintro e w3 ⟨r1, rfl, ho1, hb⟩
  have hB := hB.nx hb
  have hR := hR.nx hb
  have hW := hW.nx hb hW.size
  clear hb q0 q1 q2 q3 q4 hA
  obtain ⟨Ai, ci, rfl⟩ := ho1.form
  obtain ⟨⟨p0, p1, p2, p3, p4⟩, -⟩ := id hB.all5
  have hL1 := HL1.out
  go_wp2_with fail
  refine (indicesOf_any _ _ ⟨b_f, b_t, b_b, b_hf, b_ht⟩ _ rfl (by omega) C2.out).mono ?_; rintro e w4 ⟨r2, rfl, ho2, hb⟩
  have ho1 := ho1.nx hb
  have hR := hR.nx hb
  have hW := hW.nx hb hW.size
  clear hb p0 p1 p2 p3 p4 hB
  go_wp2_with fail
  refine (takenOf_anyT _ _ _ _ _ ho1.ints ho2.ints (idx_in (by omega) (okSl_and C2.out).2.2.2) (by have := idx_len (n := ((idxL n ⟨a_f, a_t, a_b, a_hf, a_ht⟩).length : Int)) (by omega) (okSl_and C2.out).2.2.2; omega)).mono ?_; rintro e w5 ⟨r3, rfl, ho3, hb⟩
  have hR := hR.nx hb
  have hW := hW.nx hb hW.size
  clear hb ho1 ho2
  have HO3 := hid (show Own w5 w4.heap.size r3 (twoL n ⟨a_f, a_t, a_b, a_hf, a_ht⟩ ⟨b_f, b_t, b_b, b_hf, b_ht⟩) from ho3)
  clear ho3
  generalize twoL n ⟨a_f, a_t, a_b, a_hf, a_ht⟩ ⟨b_f, b_t, b_b, b_hf, b_ht⟩ = T at *
  go_wp2_with fail
  refine (normalOf_any _ T _ HO3.out.ints (by have := HLT.out; omega) HF.out.1).mono ?_; rintro e w6 ⟨rfl, hb⟩
  have hR := hR.nx hb
  have hW := hW.nx hb hW.size
  clear hb
  have hR6 := hR.lt
  have hF := HF.out.2
  generalize normL T = NR at *
  obtain ⟨ra, rb, rs⟩ := NR
  simp only [RL.val]
  dsimp only at hF
  obtain ⟨hrb1, hrb2, hra, hrs⟩ := hF
  have hC := (Blk.new w6 56 #[.int .i64 ra, .int .i64 rb, .int .i64 rs]).alloc (.cells #[.int .i64 ra, .int .i64 rb, .int .i64 rs, .bool true, .bool true] 33)
  have hD := Blk.new (w6.alloc (.cells #[.int .i64 ra, .int .i64 rb, .int .i64 rs] 56)) 33 #[.int .i64 ra, .int .i64 rb, .int .i64 rs, .bool true, .bool true]
  have hE := below_alloc w6 (.cells #[.int .i64 ra, .int .i64 rb, .int .i64 rs] 56)
  have hE2 := hE.nx (below_alloc (w6.alloc (.cells #[.int .i64 ra, .int .i64 rb, .int .i64 rs] 56)) (.cells #[.int .i64 ra, .int .i64 rb, .int .i64 rs, .bool true, .bool true] 33)) hE.size
  simp only [World.size_alloc] at hD
  have hR := hR.nx hE2
  have hW := hW.nx hE2 hW.size
  go_upto_region 6 with fail
  generalize ((w6.alloc (.cells #[.int .i64 ra, .int .i64 rb, .int .i64 rs] 56)).alloc (.cells #[.int .i64 ra, .int .i64 rb, .int .i64 rs, .bool true, .bool true] 33)) = w7 at *
  clear hE hE2
  obtain ⟨⟨c0, c1, c2⟩, -⟩ := id hC.all3
  obtain ⟨⟨d0, d1, d2, d3, d4⟩, df0, df1, df2, df3, df4⟩ := id hD.all5
  by_cases hm1 : rb = -1
  · have hm1i : (rb == -1) = true := by simp [hm1]
    have hD1 := (hD.set_ 1 (.int .i64 0)).set_ 4 (.bool false)
    simp only [List.setIfInBounds_toArray, List.set_cons_zero, List.set_cons_succ] at hD1
    have hR := (hR.far (p := ⟨w6.heap.size + 1, 1, none⟩) (by show w.heap.size + 1 + 1 ≠ w6.heap.size + 1; omega) (.int .i64 0)).far (p := ⟨w6.heap.size + 1, 4, none⟩) (by show w.heap.size + 1 + 1 ≠ w6.heap.size + 1; omega) (.bool false)
    have hW := (hW.setCell (p := ⟨w6.heap.size + 1, 1, none⟩) (by show w.heap.size ≤ w6.heap.size + 1; omega) (.int .i64 0)).setCell (p := ⟨w6.heap.size + 1, 4, none⟩) (by show w.heap.size ≤ w6.heap.size + 1; omega) (.bool false)
    go_upto_region 9 with fail
    generalize ((w7.setCell ⟨w6.heap.size + 1, 1, none⟩ (.int .i64 0)).setCell ⟨w6.heap.size + 1, 4, none⟩ (.bool false)) = w8 at *
    clear c0 c1 c2 d0 d1 d2 d3 d4 df0 df1 df2 df3 df4 hD hC
    obtain ⟨⟨d0, d1, d2, d3, d4⟩, -⟩ := id hD1.all5
    obtain ⟨⟨z0, z1, z2, z3, z4⟩, zf0, zf1, zf2, zf3, zf4⟩ := id hR.all5
    obtain ⟨⟨t0, t1, t2, t3, t4⟩, -⟩ := (hR.store5 (.int .i64 ra) (.int .i64 0) (.int .i64 rs) (.bool true) (.bool false)).all5
    have HQ2 := hid (show mergeL n ⟨a_f, a_t, a_b, a_hf, a_ht⟩ ⟨b_f, b_t, b_b, b_hf, b_ht⟩ = ⟨ra, 0, rs, true, false⟩ by rw [HQ.out]; simp [sliceForL, hm1])
    clear hm1
    go_wp2
    refine bodyPost_ret (v := .agg #[.int .i64 ra, .int .i64 0, .int .i64 rs, .bool true, .bool false]) (by simp [results, Try.results23, go_sem, t0, t1, t2, t3, t4]) rfl ?_
    rw [HQ2.out]
    exact ⟨rfl, below5 hW (by omega) _ _ _ _ _⟩
  · have hm1i : (rb == -1) = false := by simpa using hm1
    obtain ⟨⟨z0, z1, z2, z3, z4⟩, zf0, zf1, zf2, zf3, zf4⟩ := id hR.all5
    obtain ⟨⟨t0, t1, t2, t3, t4⟩, -⟩ := (hR.store5 (.int .i64 ra) (.int .i64 rb) (.int .i64 rs) (.bool true) (.bool true)).all5
    have HQ2 := hid (show mergeL n ⟨a_f, a_t, a_b, a_hf, a_ht⟩ ⟨b_f, b_t, b_b, b_hf, b_ht⟩ = ⟨ra, rb, rs, true, true⟩ by rw [HQ.out]; simp [sliceForL, hm1])
    clear hm1
    go_wp2
    refine bodyPost_ret (v := .agg #[.int .i64 ra, .int .i64 rb, .int .i64 rs, .bool true, .bool true]) (by simp [results, Try.results23, go_sem, t0, t1, t2, t3, t4]) rfl ?_
    rw [HQ2.out]
    exact ⟨rfl, below5 hW (by omega) _ _ _ _ _⟩

end Go.Proofs.Ytldblcolnjkcaaa
