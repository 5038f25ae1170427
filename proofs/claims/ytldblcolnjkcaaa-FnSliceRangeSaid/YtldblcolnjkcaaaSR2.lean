/- Contract: SliceRange, the reference's. No conditions. (printed by mksr.py) -/
import Derived.Test.YtldblcolnjkcaaaSR1
import Derived.Test.YtldblcolnjkcaaaYA
namespace Go.Proofs.Ytldblcolnjkcaaa
open Go.RowKit

set_option maxRecDepth 100000 in
set_option maxHeartbeats 6400000 in
theorem sSliceRange_any (r : RL) (s : SL) (w : World) (hr : r.ok) (hs : s.ok) :
    Calls Try.prog 47 #[r.val, s.val] w fun e w' => e = .returned (sliceRgL r s).val ∧ Below w.heap.size w w' := by
  have HA := hid hr
  have HB := hid hs
  have HQ0 := hid (fun h : okSR r s = false => (show sliceRgL r s = RL.zero by simp [sliceRgL, h]))
  have HQ1 := hid (fun h : okSR r s = true => (show sliceRgL r s = normL (srT r s) by simp [sliceRgL, h]))
  have HOK := hid (show okSR r s = (okRg r && okSl s && decide ((numsR r).length ≤ 60)) from rfl)
  have HF := hid (fun h => sr_facts (r := r) (s := s) h)
  obtain ⟨ra, rb, rs⟩ := r
  obtain ⟨f, t, b, hf, ht⟩ := s
  have hA := ((Blk.new w 56 #[.int .i64 ra, .int .i64 rb, .int .i64 rs]).alloc (.cells #[.int .i64 f, .int .i64 t, .int .i64 b, .bool hf, .bool ht] 33)).alloc (.cells #[.int .i64 0, .int .i64 0, .int .i64 0] 56)
  have hB := (Blk.new (w.alloc (.cells #[.int .i64 ra, .int .i64 rb, .int .i64 rs] 56)) 33 #[.int .i64 f, .int .i64 t, .int .i64 b, .bool hf, .bool ht]).alloc (.cells #[.int .i64 0, .int .i64 0, .int .i64 0] 56)
  have hR := Blk.new ((w.alloc (.cells #[.int .i64 ra, .int .i64 rb, .int .i64 rs] 56)).alloc (.cells #[.int .i64 f, .int .i64 t, .int .i64 b, .bool hf, .bool ht] 33)) 56 #[.int .i64 0, .int .i64 0, .int .i64 0]
  simp only [World.size_alloc] at hB hR
  have hW : Below w.heap.size w (((w.alloc (.cells #[.int .i64 ra, .int .i64 rb, .int .i64 rs] 56)).alloc (.cells #[.int .i64 f, .int .i64 t, .int .i64 b, .bool hf, .bool ht] 33)).alloc (.cells #[.int .i64 0, .int .i64 0, .int .i64 0] 56)) := (((Below.refl _ _).alloc (Nat.le_refl _) _).alloc (by simp) _).alloc (by simp; omega) _
  simp only [SL.val, RL.val]
  clear hr hs
  cases c0 : okRg ⟨ra, rb, rs⟩
  · have HQ := hid (HQ0.out (by rw [HOK.out, c0]; rfl))
    have C0 := hid c0
    clear c0
    go_enter Try.func47, Try.ntmps47
    go_upto_region 1 with fail
    generalize (((w.alloc (.cells #[.int .i64 ra, .int .i64 rb, .int .i64 rs] 56)).alloc (.cells #[.int .i64 f, .int .i64 t, .int .i64 b, .bool hf, .bool ht] 33)).alloc (.cells #[.int .i64 0, .int .i64 0, .int .i64 0] 56)) = W1 at *
    obtain ⟨⟨q0, q1, q2⟩, -⟩ := id hA.all3
    obtain ⟨⟨p0, p1, p2, p3, p4⟩, -⟩ := id hB.all5
    go_wp2_with fail
    refine (validRange_any ⟨ra, rb, rs⟩ _).mono ?_; rintro e w1 ⟨rfl, hb⟩
    rw [C0.out]
    have hA := hA.nx hb
    have hB := hB.nx hb
    have hR := hR.nx hb
    have hW := hW.nx hb hW.size
    clear hb q0 q1 q2 p0 p1 p2 p3 p4
    obtain ⟨⟨z0, z1, z2⟩, zf0, zf1, zf2⟩ := id hR.all3
    obtain ⟨⟨t0, t1, t2⟩, -⟩ := (hR.store3 (.int .i64 0) (.int .i64 0) (.int .i64 0)).all3
    clear hR
    go_wp2
    refine bodyPost_ret (v := .agg #[.int .i64 0, .int .i64 0, .int .i64 0]) (by simp [results, Try.results47, go_sem, t0, t1, t2]) rfl ?_
    rw [HQ.out]
    exact ⟨rfl, below3 hW (by omega) _ _ _⟩
  have C0 := hid c0
  have hbd := okRg_and c0
  have hn1 : -1000 ≤ (RL.mk ra rb rs).a ∧ (RL.mk ra rb rs).a ≤ 1000 := by simp only at hbd ⊢; omega
  have hn2 : -1000 ≤ (RL.mk ra rb rs).b ∧ (RL.mk ra rb rs).b ≤ 1000 := by simp only at hbd ⊢; omega
  have hn3 := hbd.2.2.1
  have hn4 := hbd.2.2.2
  cases c1 : okSl ⟨f, t, b, hf, ht⟩
  · have HQ := hid (HQ0.out (by rw [HOK.out, c0, c1]; rfl))
    have C1 := hid c1
    clear c0 c1 hbd
    go_enter Try.func47, Try.ntmps47
    go_upto_region 1 with fail
    generalize (((w.alloc (.cells #[.int .i64 ra, .int .i64 rb, .int .i64 rs] 56)).alloc (.cells #[.int .i64 f, .int .i64 t, .int .i64 b, .bool hf, .bool ht] 33)).alloc (.cells #[.int .i64 0, .int .i64 0, .int .i64 0] 56)) = W1 at *
    obtain ⟨⟨q0, q1, q2⟩, -⟩ := id hA.all3
    obtain ⟨⟨p0, p1, p2, p3, p4⟩, -⟩ := id hB.all5
    go_wp2_with fail
    refine (validRange_any ⟨ra, rb, rs⟩ _).mono ?_; rintro e w1 ⟨rfl, hb⟩
    rw [C0.out]
    have hA := hA.nx hb
    have hB := hB.nx hb
    have hR := hR.nx hb
    have hW := hW.nx hb hW.size
    clear hb q0 q1 q2 p0 p1 p2 p3 p4
    obtain ⟨⟨q0, q1, q2⟩, -⟩ := id hA.all3
    obtain ⟨⟨p0, p1, p2, p3, p4⟩, -⟩ := id hB.all5
    go_wp2_with fail
    refine (validSlice_any _ ⟨f, t, b, hf, ht⟩ _ rfl HB.out).mono ?_; rintro e w2 ⟨rfl, hb⟩
    rw [C1.out]
    have hA := hA.nx hb
    have hB := hB.nx hb
    have hR := hR.nx hb
    have hW := hW.nx hb hW.size
    clear hb q0 q1 q2 p0 p1 p2 p3 p4
    obtain ⟨⟨z0, z1, z2⟩, zf0, zf1, zf2⟩ := id hR.all3
    obtain ⟨⟨t0, t1, t2⟩, -⟩ := (hR.store3 (.int .i64 0) (.int .i64 0) (.int .i64 0)).all3
    clear hR
    go_wp2
    refine bodyPost_ret (v := .agg #[.int .i64 0, .int .i64 0, .int .i64 0]) (by simp [results, Try.results47, go_sem, t0, t1, t2]) rfl ?_
    rw [HQ.out]
    exact ⟨rfl, below3 hW (by omega) _ _ _⟩
  have C1 := hid c1
  by_cases c2 : (numsR ⟨ra, rb, rs⟩).length ≤ 60
  case neg =>
    have HQ := hid (HQ0.out (by rw [HOK.out, c0, c1]; simpa using c2))
    have hlen : (60 : Int) < ((numsR ⟨ra, rb, rs⟩).length : Int) := by omega
    clear c0 c1 c2 hbd
    go_enter Try.func47, Try.ntmps47
    go_upto_region 1 with fail
    generalize (((w.alloc (.cells #[.int .i64 ra, .int .i64 rb, .int .i64 rs] 56)).alloc (.cells #[.int .i64 f, .int .i64 t, .int .i64 b, .bool hf, .bool ht] 33)).alloc (.cells #[.int .i64 0, .int .i64 0, .int .i64 0] 56)) = W1 at *
    obtain ⟨⟨q0, q1, q2⟩, -⟩ := id hA.all3
    obtain ⟨⟨p0, p1, p2, p3, p4⟩, -⟩ := id hB.all5
    go_wp2_with fail
    refine (validRange_any ⟨ra, rb, rs⟩ _).mono ?_; rintro e w1 ⟨rfl, hb⟩
    rw [C0.out]
    have hA := hA.nx hb
    have hB := hB.nx hb
    have hR := hR.nx hb
    have hW := hW.nx hb hW.size
    clear hb q0 q1 q2 p0 p1 p2 p3 p4
    obtain ⟨⟨q0, q1, q2⟩, -⟩ := id hA.all3
    obtain ⟨⟨p0, p1, p2, p3, p4⟩, -⟩ := id hB.all5
    go_wp2_with fail
    refine (validSlice_any _ ⟨f, t, b, hf, ht⟩ _ rfl HB.out).mono ?_; rintro e w2 ⟨rfl, hb⟩
    rw [C1.out]
    have hA := hA.nx hb
    have hB := hB.nx hb
    have hR := hR.nx hb
    have hW := hW.nx hb hW.size
    clear hb q0 q1 q2 p0 p1 p2 p3 p4
    obtain ⟨⟨q0, q1, q2⟩, -⟩ := id hA.all3
    obtain ⟨⟨p0, p1, p2, p3, p4⟩, -⟩ := id hB.all5
    go_wp2_with fail
    refine (numbers_any ⟨ra, rb, rs⟩ _ hn1 hn2 hn3 hn4).mono ?_; rintro e w3 ⟨u0, rfl, ho0, hb⟩
    obtain ⟨A0, k0, rfl⟩ := ho0.form
    clear ho0
    have hA := hA.nx hb
    have hB := hB.nx hb
    have hR := hR.nx hb
    have hW := hW.nx hb hW.size
    clear hb q0 q1 q2 p0 p1 p2 p3 p4
    obtain ⟨⟨z0, z1, z2⟩, zf0, zf1, zf2⟩ := id hR.all3
    obtain ⟨⟨t0, t1, t2⟩, -⟩ := (hR.store3 (.int .i64 0) (.int .i64 0) (.int .i64 0)).all3
    clear hR
    go_wp2
    refine bodyPost_ret (v := .agg #[.int .i64 0, .int .i64 0, .int .i64 0]) (by simp [results, Try.results47, go_sem, t0, t1, t2]) rfl ?_
    rw [HQ.out]
    exact ⟨rfl, below3 hW (by omega) _ _ _⟩
  have hok : okSR ⟨ra, rb, rs⟩ ⟨f, t, b, hf, ht⟩ = true := by rw [HOK.out, c0, c1]; simpa using c2
  have HQ := hid (HQ1.out hok)
  have HF := hid (HF.out hok)
  have hlen : ¬ (60 : Int) < ((numsR ⟨ra, rb, rs⟩).length : Int) := by omega
  have HLN := hid c2
  clear c0 c1 c2 hbd hok
  go_enter Try.func47, Try.ntmps47
  go_upto_region 1 with fail
  generalize (((w.alloc (.cells #[.int .i64 ra, .int .i64 rb, .int .i64 rs] 56)).alloc (.cells #[.int .i64 f, .int .i64 t, .int .i64 b, .bool hf, .bool ht] 33)).alloc (.cells #[.int .i64 0, .int .i64 0, .int .i64 0] 56)) = W1 at *
  obtain ⟨⟨q0, q1, q2⟩, -⟩ := id hA.all3
  obtain ⟨⟨p0, p1, p2, p3, p4⟩, -⟩ := id hB.all5
  go_wp2_with fail
  refine (validRange_any ⟨ra, rb, rs⟩ _).mono ?_; rintro e w1 ⟨rfl, hb⟩
  rw [C0.out]
  have hA := hA.nx hb
  have hB := hB.nx hb
  have hR := hR.nx hb
  have hW := hW.nx hb hW.size
  clear hb q0 q1 q2 p0 p1 p2 p3 p4
  obtain ⟨⟨q0, q1, q2⟩, -⟩ := id hA.all3
  obtain ⟨⟨p0, p1, p2, p3, p4⟩, -⟩ := id hB.all5
  go_wp2_with fail
  refine (validSlice_any _ ⟨f, t, b, hf, ht⟩ _ rfl HB.out).mono ?_; rintro e w2 ⟨rfl, hb⟩
  rw [C1.out]
  have hA := hA.nx hb
  have hB := hB.nx hb
  have hR := hR.nx hb
  have hW := hW.nx hb hW.size
  clear hb q0 q1 q2 p0 p1 p2 p3 p4
  obtain ⟨⟨q0, q1, q2⟩, -⟩ := id hA.all3
  obtain ⟨⟨p0, p1, p2, p3, p4⟩, -⟩ := id hB.all5
  go_wp2_with fail
  refine (numbers_any ⟨ra, rb, rs⟩ _ hn1 hn2 hn3 hn4).mono ?_; rintro e w3 ⟨u0, rfl, ho0, hb⟩
  obtain ⟨A0, k0, rfl⟩ := ho0.form
  clear ho0
  have hA := hA.nx hb
  have hB := hB.nx hb
  have hR := hR.nx hb
  have hW := hW.nx hb hW.size
  clear hb q0 q1 q2 p0 p1 p2 p3 p4
  obtain ⟨⟨q0, q1, q2⟩, -⟩ := id hA.all3
  obtain ⟨⟨p0, p1, p2, p3, p4⟩, -⟩ := id hB.all5
  go_wp2_with fail
  refine (numbers_any ⟨ra, rb, rs⟩ _ hn1 hn2 hn3 hn4).mono ?_; rintro e w4 ⟨u1, rfl, ho1, hb⟩
  obtain ⟨A1, k1, rfl⟩ := ho1.form
  have hA := hA.nx hb
  have hB := hB.nx hb
  have hR := hR.nx hb
  have hW := hW.nx hb hW.size
  clear hb q0 q1 q2 p0 p1 p2 p3 p4
  obtain ⟨⟨p0, p1, p2, p3, p4⟩, -⟩ := id hB.all5
  have hln := HLN.out
  go_wp2_with fail
  refine (indices_any _ _ ⟨f, t, b, hf, ht⟩ _ rfl (by omega) C1.out).mono ?_; rintro e w5 ⟨u2, rfl, ho2, hb⟩
  have ho1 := ho1.nx hb
  have hR := hR.nx hb
  have hW := hW.nx hb hW.size
  clear hb p0 p1 p2 p3 p4 hA hB
  obtain ⟨A2, k2, rfl⟩ := ho2.form
  have HIN := hid HF.out.2.2.2.2.2.1
  have HJL := hid HF.out.2.2.2.2.2.2
  have HTW := hid (show srT ⟨ra, rb, rs⟩ ⟨f, t, b, hf, ht⟩ = takenL (numsR ⟨ra, rb, rs⟩) (idxL (numsR ⟨ra, rb, rs⟩).length ⟨f, t, b, hf, ht⟩) from rfl)
  generalize srT ⟨ra, rb, rs⟩ ⟨f, t, b, hf, ht⟩ = T at *
  generalize idxL ((numsR ⟨ra, rb, rs⟩).length : Int) ⟨f, t, b, hf, ht⟩ = J at *
  generalize numsR ⟨ra, rb, rs⟩ = I at *
  have H1 := hid ho1.ints
  have H2 := hid ho2.ints
  clear ho1 ho2
  have hjl := HJL.out
  go_wp2_with fail
  go_loopg [7, 8] J.length (fun m out i wr => ∃ k : Nat, k ≤ J.length ∧ m = J.length - k ∧ i = .int .i64 k ∧ Own wr w5.heap.size out (takenL I (J.take k)) ∧ Below w5.heap.size w5 wr)
  case atStart => exact ⟨0, Nat.zero_le _, rfl, rfl, Own.empty w5 rfl (Nat.le_refl _), below_alloc w5 _⟩
  case round =>
    obtain ⟨k, hk, hm, rfl, ho, hBB⟩ := hrel
    have HM := hid hm
    have HO := hid ho
    obtain ⟨Ao, co, e⟩ := ho.form
    subst e
    have hsz := hBB.size
    clear hm ho
    by_cases hlt : k < J.length
    · have hki : (k : Int) < (J.length : Int) := by omega
      obtain ⟨b1, off1, rfl, hx⟩ := (H2.out.ext hBB).elem k hlt
      have hbd := HIN.out J[k] (List.getElem_mem hlt)
      obtain ⟨j, hj⟩ : ∃ j : Nat, J[k] = j := ⟨(J[k]).toNat, by omega⟩
      have hjl2 : j < I.length := by omega
      obtain ⟨b2, off2, rfl, hy⟩ := (H1.out.ext hBB).elem j hjl2
      have HT := hid (show takenL I (J.take (k + 1)) = takenL I (J.take k) ++ [I[j]] by rw [takenL_snoc I J k hlt, hj]; simp [hjl2])
      rw [hj] at hx
      have hji : (j : Int) < (I.length : Int) := by omega
      generalize (takenL I (J.take k)).length = tl at *
      generalize I[j] = X at *
      have hjk : k ≤ 60 := by omega
      clear hbd hj
      go_wp2_with (at_builtin; refine app1 _ rfl _ _ rfl w5.heap.size _ (takenL I (J.take k)) rfl (HO.out.alloc _) ⟨wr.heap.size, 0, none⟩ 1 X rfl (cell_new1 _ _ _) (by simp [takenL]; omega) (le_alloc hsz _) ?_)
      intro v1 w9 ho1 hg1 hat1
      have hq := hBB.trans (((below_alloc wr (.cells #[.int .i64 X] 3)).mono hsz).trans ((HO.out.alloc _).under hg1 (le_alloc hsz _)))
      clear hg1 hat1
      go_wp2
      go_roundg (J.length - (k + 1))
      case measure => have := HM.out; omega
      case rel => exact ⟨k + 1, by omega, rfl, by go_num, by rw [HT.out]; exact ho1, hq⟩
    · have hki : ¬ (k : Int) < (J.length : Int) := by omega
      have HO3 := hid (show Own wr w5.heap.size (.slice Ao (takenL I (J.take k)).length co) T by have h := HO.out; rw [List.take_of_length_le (show J.length ≤ k by omega)] at h; rw [HTW.out, List.take_of_length_le (show J.length ≤ k by omega)]; exact h)
      generalize (takenL I (J.take k)).length = tl at *
      have hR := hR.nx hBB
      have hW := hW.nx hBB hW.size
      clear hBB
      go_wp2_with fail
      refine (normal_any _ T _ HO3.out.ints (by have := HF.out.1; omega) (fun x hx => by have := HF.out.2.1 x hx; omega)).mono ?_; rintro e w8 ⟨rfl, hb⟩
      have hR := hR.nx hb
      have hW := hW.nx hb hW.size
      clear hb HO3 HF
      generalize normL T = NR at *
      obtain ⟨xa, xb, xs⟩ := NR
      simp only [RL.val]
      obtain ⟨⟨z0, z1, z2⟩, zf0, zf1, zf2⟩ := id hR.all3
      obtain ⟨⟨t0, t1, t2⟩, -⟩ := (hR.store3 (.int .i64 xa) (.int .i64 xb) (.int .i64 xs)).all3
      clear hR
      go_wp2
      refine bodyPost_ret (v := .agg #[.int .i64 xa, .int .i64 xb, .int .i64 xs]) (by simp [results, Try.results47, go_sem, t0, t1, t2]) rfl ?_
      rw [HQ.out]
      exact ⟨rfl, below3 hW (by omega) _ _ _⟩

end Go.Proofs.Ytldblcolnjkcaaa
