/- Contract: SliceRange. No conditions. (printed by mksr.py) -/
import Derived.Test.YtldblcolnjkcaaaSR0
import Derived.Test.YtldblcolnjkcaaaMS0
namespace Go.Proofs.Ytldblcolnjkcaaa
open Go.RowKit

/-- What a slice takes of a range. -/
def okSR (r : RL) (s : SL) : Bool := okRg r && okSl s && decide ((numsR r).length ≤ 60)
def srT (r : RL) (s : SL) : List Int := takenL (numsR r) (idxL (numsR r).length s)
def sliceRgL (r : RL) (s : SL) : RL := if okSR r s then normL (srT r s) else RL.zero
theorem nums_in {r : RL} (h : okRg r = true) : ∀ x ∈ numsR r, -100 ≤ x ∧ x ≤ 100 := by
  obtain ⟨h1, h2, h3, h4⟩ := okRg_and h
  intro x hx
  simp only [numsR, numsL, List.mem_map, List.mem_range] at hx
  obtain ⟨k, hk, rfl⟩ := hx
  rcases Int.lt_or_gt_of_ne h4 with hs | hs
  · have a := (cnt_dn (a := r.a) (b := r.b) hs k).2 hk
    have b : (k : Int) * r.s ≤ 0 := Int.mul_nonpos_of_nonneg_of_nonpos (by omega) (by omega)
    omega
  · have a := (cnt_up (a := r.a) (b := r.b) hs k).2 hk
    have b : 0 ≤ (k : Int) * r.s := Int.mul_nonneg (by omega) (by omega)
    omega
theorem sr_facts {r : RL} {s : SL} (h : okSR r s = true) : (srT r s).length ≤ 60 ∧ (∀ x ∈ srT r s, -100 ≤ x ∧ x ≤ 100) ∧ (∀ x ∈ srT r s, x ∈ numsR r) ∧ numsR (normL (srT r s)) = srT r s ∧ okRg (normL (srT r s)) = true ∧
    (∀ i ∈ idxL (numsR r).length s, 0 ≤ i ∧ i < (numsR r).length) ∧ (idxL (numsR r).length s).length ≤ 60 := by
  simp only [okSR, Bool.and_eq_true, decide_eq_true_eq] at h
  obtain ⟨⟨h1, h2⟩, h3⟩ := h
  have hs := (okSl_and h2).2.2.2
  have hr := (okRg_and h1).2.2.2
  have hi := idx_in (n := ((numsR r).length : Int)) (by omega) hs
  have hl := idx_len (n := ((numsR r).length : Int)) (by omega) hs
  have hin : ∀ x ∈ srT r s, x ∈ numsR r := fun x hx => by
    obtain ⟨i, hi', rfl⟩ := List.mem_map.1 hx
    have := hi i hi'
    have hk : i.toNat < (numsR r).length := by omega
    rw [List.getD_eq_getElem?_getD, List.getElem?_eq_getElem hk]
    exact List.getElem_mem hk
  have hb : ∀ x ∈ srT r s, -100 ≤ x ∧ x ≤ 100 := fun x hx => nums_in h1 x (hin x hx)
  have e : ∃ A S c, srT r s = progL A S c ∧ S ≠ 0 := by
    have hx : ∀ x ∈ progL (fromL (numsR r).length s) s.by_ (cnt (fromL (numsR r).length s) (toL (numsR r).length s) s.by_), 0 ≤ x ∧ x < ((cnt r.a r.b r.s : Nat) : Int) := fun x hx => by
      have := hi x hx
      rw [show (numsR r).length = cnt r.a r.b r.s from numsL_length _ _ _] at this
      exact this
    exact ⟨_, _, _, taken_prog (a := r.a) (s := r.s) (c := cnt r.a r.b r.s) hx, Int.mul_ne_zero hs hr⟩
  obtain ⟨A, S, c, e, hS⟩ := e
  refine ⟨by simp only [srT, takenL, List.length_map]; omega, hb, hin, by rw [e]; exact norm_prog hS, ?_, hi, by omega⟩
  rw [e] at hb ⊢
  have hc : c = 0 ∨ c = 1 ∨ 2 ≤ c := by omega
  have hk : okRg (normL (progL A S c)) = true ↔ ((-100 ≤ (normL (progL A S c)).a ∧ (normL (progL A S c)).a ≤ 100) ∧ (-101 ≤ (normL (progL A S c)).b ∧ (normL (progL A S c)).b ≤ 101) ∧ (-200 ≤ (normL (progL A S c)).s ∧ (normL (progL A S c)).s ≤ 200) ∧ (normL (progL A S c)).s ≠ 0) := by
    simp only [okRg, Bool.and_eq_true, inR_iff, Bool.not_eq_true', beq_eq_false_iff_ne, and_assoc]
  rw [hk]
  rcases hc with rfl | rfl | hc
  · rw [norm_zero]; simp
  · have h0 := hb _ (prog_mem (A := A) (S := S) (c := 1) (k := 0) (by omega))
    simp only [Int.natCast_zero, Int.zero_mul, Int.add_zero] at h0
    rw [norm_one]; dsimp only; omega
  · have h0 := hb _ (prog_mem (A := A) (S := S) (c := c) (k := 0) (by omega))
    have h1 := hb _ (prog_mem (A := A) (S := S) (c := c) (k := 1) (by omega))
    have h2 := hb _ (prog_mem (A := A) (S := S) (c := c) (k := c - 1) (by omega))
    simp only [Int.natCast_zero, Int.zero_mul, Int.add_zero, Int.natCast_one, Int.one_mul] at h0 h1
    rw [norm_more hc]
    generalize ((c - 1 : Nat) : Int) * S = L at *
    by_cases hs' : S < 0
    · simp only [hs', if_true]; omega
    · simp only [hs', if_false]; omega

set_option maxRecDepth 100000 in
set_option maxHeartbeats 6400000 in
theorem SliceRange_any (r : RL) (s : SL) (w : World) (hr : r.ok) (hs : s.ok) :
    Calls Try.prog 45 #[r.val, s.val] w fun e w' => e = .returned (sliceRgL r s).val ∧ Below w.heap.size w w' := by
  have HA := hid hr
  have HB := hid hs
  have HQ0 := hid (fun h : okSR r s = false => (show sliceRgL r s = RL.zero by simp [sliceRgL, h]))
  have HQ1 := hid (fun h : okSR r s = true => (show sliceRgL r s = normL (srT r s) by simp [sliceRgL, h]))
  have HOK := hid (show okSR r s = (okRg r && okSl s && decide ((numsR r).length ≤ 60)) from rfl)
  have HF := hid (fun h => sr_facts (r := r) (s := s) h)
  obtain ⟨ra, rb, rs⟩ := r
  obtain ⟨f, t, b, hf, ht⟩ := s
  have hA := ((Blk.new w 56 #[.int .i64 ra, .int .i64 rb, .int .i64 rs]).alloc (.cells #[.int .i64 f, .int .i64 t, .int .i64 b, .bool hf, .bool ht] 33)).alloc (.cells #[.int .i64 0, .int .i64 0, .int .i64 0] 56)
  have hB := (Blk.new (w.alloc (.cells #[.int .i64 ra, .int .i64 rb, .int .i64 rs] 56)) 33 #[.int .i64 f, .int .i64 t, .int .i64 b, .bool hf, .bool ht]).alloc (.cells #[.int .i64 0, .int .i64 0, .int .i64 0] 56)
  have hR := Blk.new ((w.alloc (.cells #[.int .i64 ra, .int .i64 rb, .int .i64 rs] 56)).alloc (.cells #[.int .i64 f, .int .i64 t, .int .i64 b, .bool hf, .bool ht] 33)) 56 #[.int .i64 0, .int .i64 0, .int .i64 0]
  simp only [World.size_alloc] at hB hR
  have hW : Below w.heap.size w (((w.alloc (.cells #[.int .i64 ra, .int .i64 rb, .int .i64 rs] 56)).alloc (.cells #[.int .i64 f, .int .i64 t, .int .i64 b, .bool hf, .bool ht] 33)).alloc (.cells #[.int .i64 0, .int .i64 0, .int .i64 0] 56)) := (((Below.refl _ _).alloc (Nat.le_refl _) _).alloc (by simp) _).alloc (by simp; omega) _
  simp only [SL.val, RL.val]
  clear hr hs
  cases c0 : okRg ⟨ra, rb, rs⟩
  · have HQ := hid (HQ0.out (by rw [HOK.out, c0]; rfl))
    have C0 := hid c0
    clear c0
    go_enter Try.func45, Try.ntmps45
    go_upto_region 1 with fail
    generalize (((w.alloc (.cells #[.int .i64 ra, .int .i64 rb, .int .i64 rs] 56)).alloc (.cells #[.int .i64 f, .int .i64 t, .int .i64 b, .bool hf, .bool ht] 33)).alloc (.cells #[.int .i64 0, .int .i64 0, .int .i64 0] 56)) = W1 at *
    obtain ⟨⟨q0, q1, q2⟩, -⟩ := id hA.all3
    obtain ⟨⟨p0, p1, p2, p3, p4⟩, -⟩ := id hB.all5
    go_wp2_with fail
    refine (isRange_any ⟨ra, rb, rs⟩ _ HA.out).mono ?_; rintro e w1 ⟨rfl, hb⟩
    rw [C0.out]
    have hA := hA.nx hb
    have hB := hB.nx hb
    have hR := hR.nx hb
    have hW := hW.nx hb hW.size
    clear hb q0 q1 q2 p0 p1 p2 p3 p4
    obtain ⟨⟨z0, z1, z2⟩, zf0, zf1, zf2⟩ := id hR.all3
    obtain ⟨⟨t0, t1, t2⟩, -⟩ := (hR.store3 (.int .i64 0) (.int .i64 0) (.int .i64 0)).all3
    clear hR
    go_wp2
    refine bodyPost_ret (v := .agg #[.int .i64 0, .int .i64 0, .int .i64 0]) (by simp [results, Try.results45, go_sem, t0, t1, t2]) rfl ?_
    rw [HQ.out]
    exact ⟨rfl, below3 hW (by omega) _ _ _⟩
  have C0 := hid c0
  have hbd := okRg_and c0
  have hn1 : -1000 ≤ (RL.mk ra rb rs).a ∧ (RL.mk ra rb rs).a ≤ 1000 := by simp only at hbd ⊢; omega
  have hn2 : -1000 ≤ (RL.mk ra rb rs).b ∧ (RL.mk ra rb rs).b ≤ 1000 := by simp only at hbd ⊢; omega
  have hn3 := hbd.2.2.1
  have hn4 := hbd.2.2.2
  cases c1 : okSl ⟨f, t, b, hf, ht⟩
  · have HQ := hid (HQ0.out (by rw [HOK.out, c0, c1]; rfl))
    have C1 := hid c1
    clear c0 c1 hbd
    go_enter Try.func45, Try.ntmps45
    go_upto_region 1 with fail
    generalize (((w.alloc (.cells #[.int .i64 ra, .int .i64 rb, .int .i64 rs] 56)).alloc (.cells #[.int .i64 f, .int .i64 t, .int .i64 b, .bool hf, .bool ht] 33)).alloc (.cells #[.int .i64 0, .int .i64 0, .int .i64 0] 56)) = W1 at *
    obtain ⟨⟨q0, q1, q2⟩, -⟩ := id hA.all3
    obtain ⟨⟨p0, p1, p2, p3, p4⟩, -⟩ := id hB.all5
    go_wp2_with fail
    refine (isRange_any ⟨ra, rb, rs⟩ _ HA.out).mono ?_; rintro e w1 ⟨rfl, hb⟩
    rw [C0.out]
    have hA := hA.nx hb
    have hB := hB.nx hb
    have hR := hR.nx hb
    have hW := hW.nx hb hW.size
    clear hb q0 q1 q2 p0 p1 p2 p3 p4
    obtain ⟨⟨q0, q1, q2⟩, -⟩ := id hA.all3
    obtain ⟨⟨p0, p1, p2, p3, p4⟩, -⟩ := id hB.all5
    go_wp2_with fail
    refine (isSlice_any _ ⟨f, t, b, hf, ht⟩ _ rfl HB.out).mono ?_; rintro e w2 ⟨rfl, hb⟩
    rw [C1.out]
    have hA := hA.nx hb
    have hB := hB.nx hb
    have hR := hR.nx hb
    have hW := hW.nx hb hW.size
    clear hb q0 q1 q2 p0 p1 p2 p3 p4
    obtain ⟨⟨z0, z1, z2⟩, zf0, zf1, zf2⟩ := id hR.all3
    obtain ⟨⟨t0, t1, t2⟩, -⟩ := (hR.store3 (.int .i64 0) (.int .i64 0) (.int .i64 0)).all3
    clear hR
    go_wp2
    refine bodyPost_ret (v := .agg #[.int .i64 0, .int .i64 0, .int .i64 0]) (by simp [results, Try.results45, go_sem, t0, t1, t2]) rfl ?_
    rw [HQ.out]
    exact ⟨rfl, below3 hW (by omega) _ _ _⟩
  have C1 := hid c1
  by_cases c2 : (numsR ⟨ra, rb, rs⟩).length ≤ 60
  case neg =>
    have HQ := hid (HQ0.out (by rw [HOK.out, c0, c1]; simpa using c2))
    have hlen : (60 : Int) < ((numsR ⟨ra, rb, rs⟩).length : Int) := by omega
    clear c0 c1 c2 hbd
    go_enter Try.func45, Try.ntmps45
    go_upto_region 1 with fail
    generalize (((w.alloc (.cells #[.int .i64 ra, .int .i64 rb, .int .i64 rs] 56)).alloc (.cells #[.int .i64 f, .int .i64 t, .int .i64 b, .bool hf, .bool ht] 33)).alloc (.cells #[.int .i64 0, .int .i64 0, .int .i64 0] 56)) = W1 at *
    obtain ⟨⟨q0, q1, q2⟩, -⟩ := id hA.all3
    obtain ⟨⟨p0, p1, p2, p3, p4⟩, -⟩ := id hB.all5
    go_wp2_with fail
    refine (isRange_any ⟨ra, rb, rs⟩ _ HA.out).mono ?_; rintro e w1 ⟨rfl, hb⟩
    rw [C0.out]
    have hA := hA.nx hb
    have hB := hB.nx hb
    have hR := hR.nx hb
    have hW := hW.nx hb hW.size
    clear hb q0 q1 q2 p0 p1 p2 p3 p4
    obtain ⟨⟨q0, q1, q2⟩, -⟩ := id hA.all3
    obtain ⟨⟨p0, p1, p2, p3, p4⟩, -⟩ := id hB.all5
    go_wp2_with fail
    refine (isSlice_any _ ⟨f, t, b, hf, ht⟩ _ rfl HB.out).mono ?_; rintro e w2 ⟨rfl, hb⟩
    rw [C1.out]
    have hA := hA.nx hb
    have hB := hB.nx hb
    have hR := hR.nx hb
    have hW := hW.nx hb hW.size
    clear hb q0 q1 q2 p0 p1 p2 p3 p4
    obtain ⟨⟨q0, q1, q2⟩, -⟩ := id hA.all3
    obtain ⟨⟨p0, p1, p2, p3, p4⟩, -⟩ := id hB.all5
    go_wp2_with fail
    refine (numbersOf_any ⟨ra, rb, rs⟩ _ hn1 hn2 hn3 hn4).mono ?_; rintro e w3 ⟨u0, rfl, ho0, hb⟩
    obtain ⟨A0, k0, rfl⟩ := ho0.form
    clear ho0
    have hA := hA.nx hb
    have hB := hB.nx hb
    have hR := hR.nx hb
    have hW := hW.nx hb hW.size
    clear hb q0 q1 q2 p0 p1 p2 p3 p4
    obtain ⟨⟨z0, z1, z2⟩, zf0, zf1, zf2⟩ := id hR.all3
    obtain ⟨⟨t0, t1, t2⟩, -⟩ := (hR.store3 (.int .i64 0) (.int .i64 0) (.int .i64 0)).all3
    clear hR
    go_wp2
    refine bodyPost_ret (v := .agg #[.int .i64 0, .int .i64 0, .int .i64 0]) (by simp [results, Try.results45, go_sem, t0, t1, t2]) rfl ?_
    rw [HQ.out]
    exact ⟨rfl, below3 hW (by omega) _ _ _⟩
  have hok : okSR ⟨ra, rb, rs⟩ ⟨f, t, b, hf, ht⟩ = true := by rw [HOK.out, c0, c1]; simpa using c2
  have HQ := hid (HQ1.out hok)
  have HF := hid (HF.out hok)
  have hlen : ¬ (60 : Int) < ((numsR ⟨ra, rb, rs⟩).length : Int) := by omega
  have HLN := hid c2
  clear c0 c1 c2 hbd hok
  go_enter Try.func45, Try.ntmps45
  go_upto_region 1 with fail
  generalize (((w.alloc (.cells #[.int .i64 ra, .int .i64 rb, .int .i64 rs] 56)).alloc (.cells #[.int .i64 f, .int .i64 t, .int .i64 b, .bool hf, .bool ht] 33)).alloc (.cells #[.int .i64 0, .int .i64 0, .int .i64 0] 56)) = W1 at *
  obtain ⟨⟨q0, q1, q2⟩, -⟩ := id hA.all3
  obtain ⟨⟨p0, p1, p2, p3, p4⟩, -⟩ := id hB.all5
  go_wp2_with fail
  refine (isRange_any ⟨ra, rb, rs⟩ _ HA.out).mono ?_; rintro e w1 ⟨rfl, hb⟩
  rw [C0.out]
  have hA := hA.nx hb
  have hB := hB.nx hb
  have hR := hR.nx hb
  have hW := hW.nx hb hW.size
  clear hb q0 q1 q2 p0 p1 p2 p3 p4
  obtain ⟨⟨q0, q1, q2⟩, -⟩ := id hA.all3
  obtain ⟨⟨p0, p1, p2, p3, p4⟩, -⟩ := id hB.all5
  go_wp2_with fail
  refine (isSlice_any _ ⟨f, t, b, hf, ht⟩ _ rfl HB.out).mono ?_; rintro e w2 ⟨rfl, hb⟩
  rw [C1.out]
  have hA := hA.nx hb
  have hB := hB.nx hb
  have hR := hR.nx hb
  have hW := hW.nx hb hW.size
  clear hb q0 q1 q2 p0 p1 p2 p3 p4
  obtain ⟨⟨q0, q1, q2⟩, -⟩ := id hA.all3
  obtain ⟨⟨p0, p1, p2, p3, p4⟩, -⟩ := id hB.all5
  go_wp2_with fail
  refine (numbersOf_any ⟨ra, rb, rs⟩ _ hn1 hn2 hn3 hn4).mono ?_; rintro e w3 ⟨u0, rfl, ho0, hb⟩
  obtain ⟨A0, k0, rfl⟩ := ho0.form
  clear ho0
  have hA := hA.nx hb
  have hB := hB.nx hb
  have hR := hR.nx hb
  have hW := hW.nx hb hW.size
  clear hb q0 q1 q2 p0 p1 p2 p3 p4
  obtain ⟨⟨q0, q1, q2⟩, -⟩ := id hA.all3
  obtain ⟨⟨p0, p1, p2, p3, p4⟩, -⟩ := id hB.all5
  go_wp2_with fail
  refine (numbersOf_any ⟨ra, rb, rs⟩ _ hn1 hn2 hn3 hn4).mono ?_; rintro e w4 ⟨u1, rfl, ho1, hb⟩
  obtain ⟨A1, k1, rfl⟩ := ho1.form
  have hA := hA.nx hb
  have hB := hB.nx hb
  have hR := hR.nx hb
  have hW := hW.nx hb hW.size
  clear hb q0 q1 q2 p0 p1 p2 p3 p4
  obtain ⟨⟨p0, p1, p2, p3, p4⟩, -⟩ := id hB.all5
  have hln := HLN.out
  go_wp2_with fail
  refine (indicesOf_any _ _ ⟨f, t, b, hf, ht⟩ _ rfl (by omega) C1.out).mono ?_; rintro e w5 ⟨u2, rfl, ho2, hb⟩
  have ho1 := ho1.nx hb
  have hR := hR.nx hb
  have hW := hW.nx hb hW.size
  clear hb p0 p1 p2 p3 p4 hA hB
  go_wp2_with fail
  refine (takenOf_anyT _ _ _ _ _ ho1.ints ho2.ints HF.out.2.2.2.2.2.1 (by have := HF.out.2.2.2.2.2.2; omega)).mono ?_; rintro e w6 ⟨u3, rfl, ho3, hb⟩
  have HO3 := hid (show Own w6 w5.heap.size u3 (srT ⟨ra, rb, rs⟩ ⟨f, t, b, hf, ht⟩) from ho3)
  clear ho1 ho2 ho3
  have hR := hR.nx hb
  have hW := hW.nx hb hW.size
  clear hb
  go_wp2_with fail
  refine (normalOf_any _ (srT ⟨ra, rb, rs⟩ ⟨f, t, b, hf, ht⟩) _ HO3.out.ints (by have := HF.out.1; omega) (fun x hx => by have := HF.out.2.1 x hx; omega)).mono ?_; rintro e w8 ⟨rfl, hb⟩
  have hR := hR.nx hb
  have hW := hW.nx hb hW.size
  clear hb HO3 HF
  generalize normL (srT ⟨ra, rb, rs⟩ ⟨f, t, b, hf, ht⟩) = NR at *
  obtain ⟨xa, xb, xs⟩ := NR
  simp only [RL.val]
  obtain ⟨⟨z0, z1, z2⟩, zf0, zf1, zf2⟩ := id hR.all3
  obtain ⟨⟨t0, t1, t2⟩, -⟩ := (hR.store3 (.int .i64 xa) (.int .i64 xb) (.int .i64 xs)).all3
  clear hR
  go_wp2
  refine bodyPost_ret (v := .agg #[.int .i64 xa, .int .i64 xb, .int .i64 xs]) (by simp [results, Try.results45, go_sem, t0, t1, t2]) rfl ?_
  rw [HQ.out]
  exact ⟨rfl, below3 hW (by omega) _ _ _⟩

end Go.Proofs.Ytldblcolnjkcaaa
