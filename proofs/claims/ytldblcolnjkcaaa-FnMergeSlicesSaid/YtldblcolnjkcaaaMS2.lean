/- Contract: MergeSlices, the reference's. No conditions. (printed by mkms.py) -/
import Derived.Test.YtldblcolnjkcaaaMS1
import Derived.Test.YtldblcolnjkcaaaYA
import Derived.Test.YtldblcolnjkcaaaSR
namespace Go.Proofs.Ytldblcolnjkcaaa
open Go.RowKit

set_option maxRecDepth 100000 in
set_option maxHeartbeats 6400000 in
theorem sliceFor_any (r : RL) (w : World) (hb : -1 ≤ r.b) :
    Calls Try.prog 107 #[r.val] w fun e w' => e = .returned (sliceForL r).val ∧ Below w.heap.size w w' := by
  obtain ⟨ra, rb, rs⟩ := r
  simp only at hb
  simp only [RL.val]
  have hC := ((Blk.new w 56 #[.int .i64 ra, .int .i64 rb, .int .i64 rs]).alloc (.cells #[.int .i64 0, .int .i64 0, .int .i64 0, .bool false, .bool false] 33)).alloc (.cells #[.int .i64 ra, .int .i64 rb, .int .i64 rs, .bool true, .bool true] 33)
  have hR := (Blk.new (w.alloc (.cells #[.int .i64 ra, .int .i64 rb, .int .i64 rs] 56)) 33 #[.int .i64 0, .int .i64 0, .int .i64 0, .bool false, .bool false]).alloc (.cells #[.int .i64 ra, .int .i64 rb, .int .i64 rs, .bool true, .bool true] 33)
  have hD := Blk.new ((w.alloc (.cells #[.int .i64 ra, .int .i64 rb, .int .i64 rs] 56)).alloc (.cells #[.int .i64 0, .int .i64 0, .int .i64 0, .bool false, .bool false] 33)) 33 #[.int .i64 ra, .int .i64 rb, .int .i64 rs, .bool true, .bool true]
  have hW : Below w.heap.size w (((w.alloc (.cells #[.int .i64 ra, .int .i64 rb, .int .i64 rs] 56)).alloc (.cells #[.int .i64 0, .int .i64 0, .int .i64 0, .bool false, .bool false] 33)).alloc (.cells #[.int .i64 ra, .int .i64 rb, .int .i64 rs, .bool true, .bool true] 33)) := (((Below.refl _ _).alloc (Nat.le_refl _) _).alloc (by simp) _).alloc (by simp; omega) _
  simp only [World.size_alloc] at hR hD
  go_enter Try.func107, Try.ntmps107
  go_upto_region 2 with fail
  generalize (((w.alloc (.cells #[.int .i64 ra, .int .i64 rb, .int .i64 rs] 56)).alloc (.cells #[.int .i64 0, .int .i64 0, .int .i64 0, .bool false, .bool false] 33)).alloc (.cells #[.int .i64 ra, .int .i64 rb, .int .i64 rs, .bool true, .bool true] 33)) = w7 at *
  obtain ⟨⟨c0, c1, c2⟩, -⟩ := id hC.all3
  obtain ⟨⟨d0, d1, d2, d3, d4⟩, df0, df1, df2, df3, df4⟩ := id hD.all5
  by_cases hm1 : rb = -1
  · have hm1i : rb < 0 := by omega
    have hD1 := (hD.set_ 1 (.int .i64 0)).set_ 4 (.bool false)
    simp only [List.setIfInBounds_toArray, List.set_cons_zero, List.set_cons_succ] at hD1
    have hR := (hR.far (p := ⟨w.heap.size + 1 + 1, 1, none⟩) (by show w.heap.size + 1 ≠ w.heap.size + 1 + 1; omega) (.int .i64 0)).far (p := ⟨w.heap.size + 1 + 1, 4, none⟩) (by show w.heap.size + 1 ≠ w.heap.size + 1 + 1; omega) (.bool false)
    have hW := (hW.setCell (p := ⟨w.heap.size + 1 + 1, 1, none⟩) (by show w.heap.size ≤ w.heap.size + 1 + 1; omega) (.int .i64 0)).setCell (p := ⟨w.heap.size + 1 + 1, 4, none⟩) (by show w.heap.size ≤ w.heap.size + 1 + 1; omega) (.bool false)
    go_upto_region 5 with fail
    generalize ((w7.setCell ⟨w.heap.size + 1 + 1, 1, none⟩ (.int .i64 0)).setCell ⟨w.heap.size + 1 + 1, 4, none⟩ (.bool false)) = w8 at *
    clear c0 c1 c2 d0 d1 d2 d3 d4 df0 df1 df2 df3 df4 hD hC
    obtain ⟨⟨d0, d1, d2, d3, d4⟩, -⟩ := id hD1.all5
    obtain ⟨⟨z0, z1, z2, z3, z4⟩, zf0, zf1, zf2, zf3, zf4⟩ := id hR.all5
    obtain ⟨⟨t0, t1, t2, t3, t4⟩, -⟩ := (hR.store5 (.int .i64 ra) (.int .i64 0) (.int .i64 rs) (.bool true) (.bool false)).all5
    have HQ2 := hid (show sliceForL ⟨ra, rb, rs⟩ = ⟨ra, 0, rs, true, false⟩ by simp [sliceForL, hm1])
    clear hm1
    go_wp2
    refine bodyPost_ret (v := .agg #[.int .i64 ra, .int .i64 0, .int .i64 rs, .bool true, .bool false]) (by simp [results, Try.results107, go_sem, t0, t1, t2, t3, t4]) rfl ?_
    rw [HQ2.out]
    exact ⟨rfl, below5 hW (by omega) _ _ _ _ _⟩
  · have hm1i : ¬ rb < 0 := by omega
    obtain ⟨⟨z0, z1, z2, z3, z4⟩, zf0, zf1, zf2, zf3, zf4⟩ := id hR.all5
    obtain ⟨⟨t0, t1, t2, t3, t4⟩, -⟩ := (hR.store5 (.int .i64 ra) (.int .i64 rb) (.int .i64 rs) (.bool true) (.bool true)).all5
    have HQ2 := hid (show sliceForL ⟨ra, rb, rs⟩ = ⟨ra, rb, rs, true, true⟩ by simp [sliceForL, hm1])
    clear hm1
    go_wp2
    refine bodyPost_ret (v := .agg #[.int .i64 ra, .int .i64 rb, .int .i64 rs, .bool true, .bool true]) (by simp [results, Try.results107, go_sem, t0, t1, t2, t3, t4]) rfl ?_
    rw [HQ2.out]
    exact ⟨rfl, below5 hW (by omega) _ _ _ _ _⟩

set_option maxRecDepth 100000 in
set_option maxHeartbeats 6400000 in
theorem sMergeSlices_any (n : Int) (a b : SL) (w : World) (ha : a.ok) (hb : b.ok) :
    Calls Try.prog 25 #[.int .i64 n, a.val, b.val] w fun e w' => e = .returned (mergeL n a b).val ∧ Below w.heap.size w w' := by
  have HA := hid ha
  have HB := hid hb
  have HQ0 := hid (fun h : okMg n a b = false => (show mergeL n a b = SL.zero by simp [mergeL, h]))
  have HQ1 := hid (fun h : okMg n a b = true => (show mergeL n a b = sliceForL (normL (twoL n a b)) by simp [mergeL, h]))
  have HOK := hid (show okMg n a b = (inR n 0 60 && okSl a && okSl b) from rfl)
  obtain ⟨a_f, a_t, a_b, a_hf, a_ht⟩ := a
  obtain ⟨b_f, b_t, b_b, b_hf, b_ht⟩ := b
  have hA := ((Blk.new w 33 #[.int .i64 a_f, .int .i64 a_t, .int .i64 a_b, .bool a_hf, .bool a_ht]).alloc (.cells #[.int .i64 b_f, .int .i64 b_t, .int .i64 b_b, .bool b_hf, .bool b_ht] 33)).alloc (.cells #[.int .i64 0, .int .i64 0, .int .i64 0, .bool false, .bool false] 33)
  have hB := (Blk.new (w.alloc (.cells #[.int .i64 a_f, .int .i64 a_t, .int .i64 a_b, .bool a_hf, .bool a_ht] 33)) 33 #[.int .i64 b_f, .int .i64 b_t, .int .i64 b_b, .bool b_hf, .bool b_ht]).alloc (.cells #[.int .i64 0, .int .i64 0, .int .i64 0, .bool false, .bool false] 33)
  have hR := Blk.new ((w.alloc (.cells #[.int .i64 a_f, .int .i64 a_t, .int .i64 a_b, .bool a_hf, .bool a_ht] 33)).alloc (.cells #[.int .i64 b_f, .int .i64 b_t, .int .i64 b_b, .bool b_hf, .bool b_ht] 33)) 33 #[.int .i64 0, .int .i64 0, .int .i64 0, .bool false, .bool false]
  simp only [World.size_alloc] at hB hR
  have hW : Below w.heap.size w (((w.alloc (.cells #[.int .i64 a_f, .int .i64 a_t, .int .i64 a_b, .bool a_hf, .bool a_ht] 33)).alloc (.cells #[.int .i64 b_f, .int .i64 b_t, .int .i64 b_b, .bool b_hf, .bool b_ht] 33)).alloc (.cells #[.int .i64 0, .int .i64 0, .int .i64 0, .bool false, .bool false] 33)) := (((Below.refl _ _).alloc (Nat.le_refl _) _).alloc (by simp) _).alloc (by simp; omega) _
  simp only [SL.val]
  clear ha hb
  cases c0 : inR n 0 60
  · have HQ := hid (HQ0.out (by rw [HOK.out, c0]; rfl))
    have C0 := hid c0
    clear c0
    go_enter Try.func25, Try.ntmps25
    go_upto_region 1 with fail
    generalize (((w.alloc (.cells #[.int .i64 a_f, .int .i64 a_t, .int .i64 a_b, .bool a_hf, .bool a_ht] 33)).alloc (.cells #[.int .i64 b_f, .int .i64 b_t, .int .i64 b_b, .bool b_hf, .bool b_ht] 33)).alloc (.cells #[.int .i64 0, .int .i64 0, .int .i64 0, .bool false, .bool false] 33)) = W1 at *
    go_wp2_with fail
    refine (inRange_any n 0 60 _).mono ?_; rintro e w' ⟨rfl, rfl⟩
    rw [C0.out]
    obtain ⟨⟨z0, z1, z2, z3, z4⟩, zf0, zf1, zf2, zf3, zf4⟩ := id hR.all5
    obtain ⟨⟨t0, t1, t2, t3, t4⟩, -⟩ := (hR.store5 (.int .i64 0) (.int .i64 0) (.int .i64 0) (.bool false) (.bool false)).all5
    clear hR
    go_wp2
    refine bodyPost_ret (v := .agg #[.int .i64 0, .int .i64 0, .int .i64 0, .bool false, .bool false]) (by simp [results, Try.results25, go_sem, t0, t1, t2, t3, t4]) rfl ?_
    rw [HQ.out]
    exact ⟨rfl, below5 hW (by omega) _ _ _ _ _⟩
  have C0 := hid c0
  have hn60 := inR_iff.1 c0
  cases c1 : okSl ⟨a_f, a_t, a_b, a_hf, a_ht⟩
  · have HQ := hid (HQ0.out (by rw [HOK.out, c0, c1]; rfl))
    have C1 := hid c1
    clear c0 c1
    go_enter Try.func25, Try.ntmps25
    go_upto_region 1 with fail
    generalize (((w.alloc (.cells #[.int .i64 a_f, .int .i64 a_t, .int .i64 a_b, .bool a_hf, .bool a_ht] 33)).alloc (.cells #[.int .i64 b_f, .int .i64 b_t, .int .i64 b_b, .bool b_hf, .bool b_ht] 33)).alloc (.cells #[.int .i64 0, .int .i64 0, .int .i64 0, .bool false, .bool false] 33)) = W1 at *
    go_wp2_with fail
    refine (inRange_any n 0 60 _).mono ?_; rintro e w' ⟨rfl, rfl⟩
    rw [C0.out]
    obtain ⟨⟨q0, q1, q2, q3, q4⟩, -⟩ := id hA.all5
    obtain ⟨⟨p0, p1, p2, p3, p4⟩, -⟩ := id hB.all5
    go_wp2_with fail
    refine (validSlice_any _ ⟨a_f, a_t, a_b, a_hf, a_ht⟩ _ rfl HA.out).mono ?_; rintro e w1 ⟨rfl, hb⟩
    rw [C1.out]
    have hA := hA.nx hb
    have hB := hB.nx hb
    have hR := hR.nx hb
    have hW := hW.nx hb hW.size
    clear hb q0 q1 q2 q3 q4 p0 p1 p2 p3 p4
    obtain ⟨⟨z0, z1, z2, z3, z4⟩, zf0, zf1, zf2, zf3, zf4⟩ := id hR.all5
    obtain ⟨⟨t0, t1, t2, t3, t4⟩, -⟩ := (hR.store5 (.int .i64 0) (.int .i64 0) (.int .i64 0) (.bool false) (.bool false)).all5
    clear hR
    go_wp2
    refine bodyPost_ret (v := .agg #[.int .i64 0, .int .i64 0, .int .i64 0, .bool false, .bool false]) (by simp [results, Try.results25, go_sem, t0, t1, t2, t3, t4]) rfl ?_
    rw [HQ.out]
    exact ⟨rfl, below5 hW (by omega) _ _ _ _ _⟩
  have C1 := hid c1
  cases c2 : okSl ⟨b_f, b_t, b_b, b_hf, b_ht⟩
  · have HQ := hid (HQ0.out (by rw [HOK.out, c0, c1, c2]; rfl))
    have C2 := hid c2
    clear c0 c1 c2
    go_enter Try.func25, Try.ntmps25
    go_upto_region 1 with fail
    generalize (((w.alloc (.cells #[.int .i64 a_f, .int .i64 a_t, .int .i64 a_b, .bool a_hf, .bool a_ht] 33)).alloc (.cells #[.int .i64 b_f, .int .i64 b_t, .int .i64 b_b, .bool b_hf, .bool b_ht] 33)).alloc (.cells #[.int .i64 0, .int .i64 0, .int .i64 0, .bool false, .bool false] 33)) = W1 at *
    go_wp2_with fail
    refine (inRange_any n 0 60 _).mono ?_; rintro e w' ⟨rfl, rfl⟩
    rw [C0.out]
    obtain ⟨⟨q0, q1, q2, q3, q4⟩, -⟩ := id hA.all5
    obtain ⟨⟨p0, p1, p2, p3, p4⟩, -⟩ := id hB.all5
    go_wp2_with fail
    refine (validSlice_any _ ⟨a_f, a_t, a_b, a_hf, a_ht⟩ _ rfl HA.out).mono ?_; rintro e w1 ⟨rfl, hb⟩
    rw [C1.out]
    have hA := hA.nx hb
    have hB := hB.nx hb
    have hR := hR.nx hb
    have hW := hW.nx hb hW.size
    clear hb q0 q1 q2 q3 q4 p0 p1 p2 p3 p4
    obtain ⟨⟨q0, q1, q2, q3, q4⟩, -⟩ := id hA.all5
    obtain ⟨⟨p0, p1, p2, p3, p4⟩, -⟩ := id hB.all5
    go_wp2_with fail
    refine (validSlice_any _ ⟨b_f, b_t, b_b, b_hf, b_ht⟩ _ rfl HB.out).mono ?_; rintro e w2 ⟨rfl, hb⟩
    rw [C2.out]
    have hA := hA.nx hb
    have hB := hB.nx hb
    have hR := hR.nx hb
    have hW := hW.nx hb hW.size
    clear hb q0 q1 q2 q3 q4 p0 p1 p2 p3 p4
    obtain ⟨⟨z0, z1, z2, z3, z4⟩, zf0, zf1, zf2, zf3, zf4⟩ := id hR.all5
    obtain ⟨⟨t0, t1, t2, t3, t4⟩, -⟩ := (hR.store5 (.int .i64 0) (.int .i64 0) (.int .i64 0) (.bool false) (.bool false)).all5
    clear hR
    go_wp2
    refine bodyPost_ret (v := .agg #[.int .i64 0, .int .i64 0, .int .i64 0, .bool false, .bool false]) (by simp [results, Try.results25, go_sem, t0, t1, t2, t3, t4]) rfl ?_
    rw [HQ.out]
    exact ⟨rfl, below5 hW (by omega) _ _ _ _ _⟩
  have C2 := hid c2
  have HQ := hid (HQ1.out (by rw [HOK.out, c0, c1, c2]; rfl))
  have HTP := hid (two_prog hn60 (okSl_and c1).2.2.2 (okSl_and c2).2.2.2)
  have HL1 := hid (idx_len hn60 (okSl_and c1).2.2.2)
  clear c0 c1 c2
  go_enter Try.func25, Try.ntmps25
  go_upto_region 1 with fail
  generalize (((w.alloc (.cells #[.int .i64 a_f, .int .i64 a_t, .int .i64 a_b, .bool a_hf, .bool a_ht] 33)).alloc (.cells #[.int .i64 b_f, .int .i64 b_t, .int .i64 b_b, .bool b_hf, .bool b_ht] 33)).alloc (.cells #[.int .i64 0, .int .i64 0, .int .i64 0, .bool false, .bool false] 33)) = W1 at *
  go_wp2_with fail
  refine (inRange_any n 0 60 _).mono ?_; rintro e w' ⟨rfl, rfl⟩
  rw [C0.out]
  obtain ⟨⟨q0, q1, q2, q3, q4⟩, -⟩ := id hA.all5
  obtain ⟨⟨p0, p1, p2, p3, p4⟩, -⟩ := id hB.all5
  go_wp2_with fail
  refine (validSlice_any _ ⟨a_f, a_t, a_b, a_hf, a_ht⟩ _ rfl HA.out).mono ?_; rintro e w1 ⟨rfl, hb⟩
  rw [C1.out]
  have hA := hA.nx hb
  have hB := hB.nx hb
  have hR := hR.nx hb
  have hW := hW.nx hb hW.size
  clear hb q0 q1 q2 q3 q4 p0 p1 p2 p3 p4
  obtain ⟨⟨q0, q1, q2, q3, q4⟩, -⟩ := id hA.all5
  obtain ⟨⟨p0, p1, p2, p3, p4⟩, -⟩ := id hB.all5
  go_wp2_with fail
  refine (validSlice_any _ ⟨b_f, b_t, b_b, b_hf, b_ht⟩ _ rfl HB.out).mono ?_; rintro e w2 ⟨rfl, hb⟩
  rw [C2.out]
  have hA := hA.nx hb
  have hB := hB.nx hb
  have hR := hR.nx hb
  have hW := hW.nx hb hW.size
  clear hb q0 q1 q2 q3 q4 p0 p1 p2 p3 p4
  have HF := hid (two_facts hn60 HTP.out)
  have HLT := hid (show (twoL n ⟨a_f, a_t, a_b, a_hf, a_ht⟩ ⟨b_f, b_t, b_b, b_hf, b_ht⟩).length ≤ 60 by have h1 := HL1.out; have h2 := idx_len (n := ((idxL n ⟨a_f, a_t, a_b, a_hf, a_ht⟩).length : Int)) (by omega) (okSl_and C2.out).2.2.2; simp only [twoL, takenL, List.length_map]; omega)
  obtain ⟨⟨q0, q1, q2, q3, q4⟩, -⟩ := id hA.all5
  go_wp2_with fail
  refine (indices_any n _ ⟨a_f, a_t, a_b, a_hf, a_ht⟩ _ rfl hn60 C1.out).mono ?_; rintro e w3 ⟨r1, rfl, ho1, hb⟩
  have hB := hB.nx hb
  have hR := hR.nx hb
  have hW := hW.nx hb hW.size
  clear hb q0 q1 q2 q3 q4 hA
  obtain ⟨Ai, ci, rfl⟩ := ho1.form
  obtain ⟨⟨p0, p1, p2, p3, p4⟩, -⟩ := id hB.all5
  have hL1 := HL1.out
  go_wp2_with fail
  refine (indices_any _ _ ⟨b_f, b_t, b_b, b_hf, b_ht⟩ _ rfl (by omega) C2.out).mono ?_; rintro e w4 ⟨r2, rfl, ho2, hb⟩
  have ho1 := ho1.nx hb
  have hR := hR.nx hb
  have hW := hW.nx hb hW.size
  clear hb p0 p1 p2 p3 p4 hB
  obtain ⟨Aj, cj, rfl⟩ := ho2.form
  have HIN := hid (idx_in (n := ((idxL n ⟨a_f, a_t, a_b, a_hf, a_ht⟩).length : Int)) (by omega) (okSl_and C2.out).2.2.2)
  have HIL := hid (idx_len (n := ((idxL n ⟨a_f, a_t, a_b, a_hf, a_ht⟩).length : Int)) (by omega) (okSl_and C2.out).2.2.2)
  have HTW := hid (show twoL n ⟨a_f, a_t, a_b, a_hf, a_ht⟩ ⟨b_f, b_t, b_b, b_hf, b_ht⟩ = takenL (idxL n ⟨a_f, a_t, a_b, a_hf, a_ht⟩) (idxL (idxL n ⟨a_f, a_t, a_b, a_hf, a_ht⟩).length ⟨b_f, b_t, b_b, b_hf, b_ht⟩) from rfl)
  generalize twoL n ⟨a_f, a_t, a_b, a_hf, a_ht⟩ ⟨b_f, b_t, b_b, b_hf, b_ht⟩ = T at *
  generalize idxL ((idxL n ⟨a_f, a_t, a_b, a_hf, a_ht⟩).length : Int) ⟨b_f, b_t, b_b, b_hf, b_ht⟩ = J at *
  generalize idxL n ⟨a_f, a_t, a_b, a_hf, a_ht⟩ = I at *
  have H1 := hid ho1.ints
  have H2 := hid ho2.ints
  have hil := HIL.out
  have HLT2 := hid (show I.length ≤ 60 by omega)
  clear ho1 ho2
  go_wp2_with fail
  go_loopg [9, 10] J.length (fun m out i wr => ∃ k : Nat, k ≤ J.length ∧ m = J.length - k ∧ i = .int .i64 k ∧ Own wr w4.heap.size out (takenL I (J.take k)) ∧ Below w4.heap.size w4 wr)
  case atStart => exact ⟨0, Nat.zero_le _, rfl, rfl, Own.empty w4 rfl (Nat.le_refl _), below_alloc w4 _⟩
  case round =>
    obtain ⟨k, hk, hm, rfl, ho, hBB⟩ := hrel
    have HM := hid hm
    have HO := hid ho
    obtain ⟨Ao, co, e⟩ := ho.form
    subst e
    have hsz := hBB.size
    clear hm ho
    by_cases hlt : k < J.length
    · have hki : (k : Int) < (J.length : Int) := by omega
      obtain ⟨b1, off1, rfl, hx⟩ := (H2.out.ext hBB).elem k hlt
      have hbd := HIN.out J[k] (List.getElem_mem hlt)
      obtain ⟨j, hj⟩ : ∃ j : Nat, J[k] = j := ⟨(J[k]).toNat, by omega⟩
      have hjl : j < I.length := by omega
      obtain ⟨b2, off2, rfl, hy⟩ := (H1.out.ext hBB).elem j hjl
      have HT := hid (show takenL I (J.take (k + 1)) = takenL I (J.take k) ++ [I[j]] by rw [takenL_snoc I J k hlt, hj]; simp [hjl])
      rw [hj] at hx
      have hji : (j : Int) < (I.length : Int) := by omega
      generalize (takenL I (J.take k)).length = tl at *
      generalize I[j] = X at *
      have hjk : k ≤ 60 := by omega
      clear hbd hj
      go_wp2_with (at_builtin; refine app1 _ rfl _ _ rfl w4.heap.size _ (takenL I (J.take k)) rfl (HO.out.alloc _) ⟨wr.heap.size, 0, none⟩ 1 X rfl (cell_new1 _ _ _) (by simp [takenL]; omega) (le_alloc hsz _) ?_)
      intro v1 w9 ho1 hg1 hat1
      have hq := hBB.trans (((below_alloc wr (.cells #[.int .i64 X] 3)).mono hsz).trans ((HO.out.alloc _).under hg1 (le_alloc hsz _)))
      clear hg1 hat1
      go_wp2
      go_roundg (J.length - (k + 1))
      case measure => have := HM.out; omega
      case rel => exact ⟨k + 1, by omega, rfl, by go_num, by rw [HT.out]; exact ho1, hq⟩
    · have hki : ¬ (k : Int) < (J.length : Int) := by omega
      have HO3 := hid (show Own wr w4.heap.size (.slice Ao (takenL I (J.take k)).length co) T by have h := HO.out; rw [List.take_of_length_le (show J.length ≤ k by omega)] at h; rw [HTW.out, List.take_of_length_le (show J.length ≤ k by omega)]; exact h)
      generalize (takenL I (J.take k)).length = tl at *
      have hR := hR.nx hBB
      have hW := hW.nx hBB hW.size
      clear hBB
      go_wp2_with fail
      refine (normal_any _ T _ HO3.out.ints (by have := HLT.out; omega) HF.out.1).mono ?_; rintro e w6 ⟨rfl, hb⟩
      have hR := hR.nx hb
      have hW := hW.nx hb hW.size
      clear hb
      go_wp2_with fail
      refine (sliceFor_any (normL T) _ HF.out.2.1).mono ?_; rintro e w7 ⟨rfl, hb⟩
      have hR := hR.nx hb
      have hW := hW.nx hb hW.size
      clear hb
      generalize sliceForL (normL T) = S at *
      obtain ⟨s_f, s_t, s_b, s_hf, s_ht⟩ := S
      simp only [SL.val]
      obtain ⟨⟨z0, z1, z2, z3, z4⟩, zf0, zf1, zf2, zf3, zf4⟩ := id hR.all5
      obtain ⟨⟨t0, t1, t2, t3, t4⟩, -⟩ := (hR.store5 (.int .i64 s_f) (.int .i64 s_t) (.int .i64 s_b) (.bool s_hf) (.bool s_ht)).all5
      go_wp2
      refine bodyPost_ret (v := .agg #[.int .i64 s_f, .int .i64 s_t, .int .i64 s_b, .bool s_hf, .bool s_ht]) (by simp [results, Try.results25, go_sem, t0, t1, t2, t3, t4]) rfl ?_
      rw [HQ.out]
      exact ⟨rfl, below5 hW (by omega) _ _ _ _ _⟩

end Go.Proofs.Ytldblcolnjkcaaa
