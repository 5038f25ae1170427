/- Contracts: drawn ranges. No conditions. -/
import Derived.Test.YtldblcolnjkcaaaDS1
namespace Go.Proofs.Ytldblcolnjkcaaa
open Go.RowKit

def rgBd (R : RL) : Prop := (-102 ≤ R.a ∧ R.a ≤ 102) ∧ (-102 ≤ R.b ∧ R.b ≤ 102) ∧ (-201 ≤ R.s ∧ R.s ≤ 201)
/-- What drawing a range leaves. -/
def RetRangeR (N g p : Nat) (w : World) (e : Ending) (w' : World) : Prop := ∃ (R : RL) (q : Nat), e = .returned R.val ∧ rgBd R ∧ q ≤ p + 10 ∧ Rd N w' g q ∧ w.grownBy w' (some g)
theorem range_fin {N g p q : Nat} {w wx : World} {T : TypeId} {z cs : Array Value} {t : Nat} (h : DBox N g w T z t wx q cs) (R : RL) (hb : rgBd R) (hq : q ≤ p + 10) (a b c : Value) :
    RetRangeR N g p w (.returned R.val) (((wx.setCell ⟨w.heap.size, 0, none⟩ a).setCell ⟨w.heap.size, 1, none⟩ b).setCell ⟨w.heap.size, 2, none⟩ c) := by
  have hg := h.1.1
  obtain ⟨r1, g1⟩ := DBox.fin h.rd hg h.2.2.1 0 a
  obtain ⟨r2, g2⟩ := DBox.fin r1 hg g1 1 b
  obtain ⟨r3, g3⟩ := DBox.fin r2 hg g2 2 c
  exact ⟨R, q, rfl, hb, hq, r3, g3⟩
theorem DBox.put3 {N g t q : Nat} {w wx : World} {T : TypeId} {z : Array Value} {a b c : Value} (h : DBox N g w T z t wx q #[a, b, c]) (x y u : Value) : DBox N g w T z t (((wx.setCell ⟨t, 0, none⟩ x).setCell ⟨t, 1, none⟩ y).setCell ⟨t, 2, none⟩ u) q #[x, y, u] := by
  have := ((h.put 0 x).put 1 y).put 2 u
  simpa using this

set_option maxRecDepth 100000 in
set_option maxHeartbeats 6400000 in
theorem someRange_any (N g p : Nat) (w : World) (h : Rd N w g p) (hp : p ≤ 900000) :
    Calls Try.prog 119 #[.pointer (some ⟨g, 0, none⟩)] w (RetRangeR N g p w) := by
  have HM0 := hid (DRes.start h 56 #[.int .i64 0, .int .i64 0, .int .i64 0])
  obtain ⟨m, hm⟩ : ∃ m, m = w.heap.size := ⟨_, rfl⟩
  have HMm := hid hm
  go_enter Try.func119, Try.ntmps119
  go_upto_region 1 with fail
  rw [← hm]
  clear hm h
  generalize w.alloc (.cells #[.int .i64 0, .int .i64 0, .int .i64 0] 56) = w0 at *
  go_wp2_with fail
  refine (pick_any _ _ (p) 40 _ HM0.out.rd (by omega) (by omega)).mono ?_; rintro e w1 ⟨r1, rfl, hr1, hR, hG⟩
  have HM1 := hid (HM0.out.ate hR hG)
  clear hR hG
  have hw1 : IntKind.i64.wrap ((r1 : Int) - 20) = (r1 : Int) - 20 := IntWalk.i64_in _ (by omega)
  have hL : Own (w1.alloc (.cells #[.int .i64 0, .int .i64 1, .int .i64 (-3), .int .i64 5, .int .i64 ((r1 : Int) - 20)] 3)) w1.heap.size (.slice (some ⟨w1.heap.size, 0, none⟩) 5 5) [0, 1, -3, 5, ((r1 : Int) - 20)] := own_lit w1 [0, 1, -3, 5, ((r1 : Int) - 20)] (by simp)
  have HA := hid (HM1.out.nx (below_alloc w1 (.cells #[.int .i64 0, .int .i64 1, .int .i64 (-3), .int .i64 5, .int .i64 ((r1 : Int) - 20)] 3)))
  have HE := hid (HM1.out.rd.lit 5 5)
  go_wp2_with fail
  refine (one_any _ _ (p + 1) _ _ _ _ HA.out.rd (by omega) hL (by simp) HE.out).mono ?_; rintro e w2 ⟨r, hr, rfl, hR, hG⟩
  have HM2 := hid (HA.out.ate hR hG)
  obtain ⟨y1, ey, hy1⟩ : ∃ y : Int, [0, 1, -3, 5, ((r1 : Int) - 20)][r] = y ∧ y ∈ ([0, 1, -3, 5, ((r1 : Int) - 20)] : List Int) := ⟨_, rfl, List.getElem_mem hr⟩
  rw [ey]
  clear hR hG ey hr hL HA HE
  have hy1 : -20 ≤ y1 ∧ y1 ≤ 20 := by simp at hy1; omega
  have HY1 := hid hy1
  clear hy1 hw1
  go_wp2_with fail
  refine (pick_any _ _ (p + 2) 60 _ HM2.out.rd (by omega) (by omega)).mono ?_; rintro e w3 ⟨r2, rfl, hr2, hR, hG⟩
  have HM3 := hid (HM2.out.ate hR hG)
  clear hR hG
  have hw2 : IntKind.i64.wrap ((r2 : Int) - 30) = (r2 : Int) - 30 := IntWalk.i64_in _ (by omega)
  have hL : Own (w3.alloc (.cells #[.int .i64 10, .int .i64 7, .int .i64 20, .int .i64 (-8), .int .i64 ((r2 : Int) - 30)] 3)) w3.heap.size (.slice (some ⟨w3.heap.size, 0, none⟩) 5 5) [10, 7, 20, -8, ((r2 : Int) - 30)] := own_lit w3 [10, 7, 20, -8, ((r2 : Int) - 30)] (by simp)
  have HA := hid (HM3.out.nx (below_alloc w3 (.cells #[.int .i64 10, .int .i64 7, .int .i64 20, .int .i64 (-8), .int .i64 ((r2 : Int) - 30)] 3)))
  have HE := hid (HM3.out.rd.lit 5 5)
  go_wp2_with fail
  refine (one_any _ _ (p + 3) _ _ _ _ HA.out.rd (by omega) hL (by simp) HE.out).mono ?_; rintro e w4 ⟨r, hr, rfl, hR, hG⟩
  have HM4 := hid (HA.out.ate hR hG)
  obtain ⟨y2, ey, hy2⟩ : ∃ y : Int, [10, 7, 20, -8, ((r2 : Int) - 30)][r] = y ∧ y ∈ ([10, 7, 20, -8, ((r2 : Int) - 30)] : List Int) := ⟨_, rfl, List.getElem_mem hr⟩
  rw [ey]
  clear hR hG ey hr hL HA HE
  have hy2 : -30 ≤ y2 ∧ y2 ≤ 30 := by simp at hy2; omega
  have HY2 := hid hy2
  clear hy2 hw2
  have hL : Own (w4.alloc (.cells #[.int .i64 1, .int .i64 2, .int .i64 3, .int .i64 (-1), .int .i64 (-2), .int .i64 4, .int .i64 (-5), .int .i64 6, .int .i64 9] 3)) w4.heap.size (.slice (some ⟨w4.heap.size, 0, none⟩) 9 9) [1, 2, 3, -1, -2, 4, -5, 6, 9] := own_lit w4 [1, 2, 3, -1, -2, 4, -5, 6, 9] (by simp)
  have HA := hid (HM4.out.nx (below_alloc w4 (.cells #[.int .i64 1, .int .i64 2, .int .i64 3, .int .i64 (-1), .int .i64 (-2), .int .i64 4, .int .i64 (-5), .int .i64 6, .int .i64 9] 3)))
  have HE := hid (HM4.out.rd.lit 9 9)
  go_wp2_with fail
  refine (one_any _ _ (p + 4) _ _ _ _ HA.out.rd (by omega) hL (by simp) HE.out).mono ?_; rintro e w5 ⟨r, hr, rfl, hR, hG⟩
  have HM5 := hid (HA.out.ate hR hG)
  obtain ⟨y3, ey, hy3⟩ : ∃ y : Int, [1, 2, 3, -1, -2, 4, -5, 6, 9][r] = y ∧ y ∈ ([1, 2, 3, -1, -2, 4, -5, 6, 9] : List Int) := ⟨_, rfl, List.getElem_mem hr⟩
  rw [ey]
  clear hR hG ey hr hL HA HE
  have hy3 : -5 ≤ y3 ∧ y3 ≤ 9 := by simp at hy3; omega
  have HY3 := hid hy3
  clear hy3
  have HB := hid (HM5.out.box #[.int .i64 y1, .int .i64 y2, .int .i64 y3])
  obtain ⟨t, ht⟩ : ∃ t, t = w5.heap.size := ⟨_, rfl⟩
  go_upto_region 2 with fail
  rw [← ht] at HB ⊢
  clear ht HM0 HM1 HM2 HM3 HM4 HM5
  generalize w5.alloc (.cells #[.int .i64 y1, .int .i64 y2, .int .i64 y3] 56) = w1 at *
  have HM1 := HB
  obtain ⟨⟨c0, c1, c2⟩, cf0, cf1, cf2⟩ := HM1.out.blk.all3
  go_cut [27] (fun c wx => ∃ (cb : Bool) (q : Nat), c = .bool cb ∧ q ≤ p + 6 ∧ Hid (DBox N g w 56 #[.int .i64 0, .int .i64 0, .int .i64 0] t wx q #[.int .i64 y1, .int .i64 y2, .int .i64 y3]))
  case first =>
    by_cases hs : y3 < 0
    · go_wp2_with fail
      refine (pick_any _ _ (p + 5) 3 _ HM1.out.rd (by omega) (by omega)).mono ?_; rintro e w2 ⟨r3, rfl, hr3, hR, hG⟩
      have HM2 := hid (HM1.out.ate hR hG)
      clear hR hG
      go_wp2_with fail
      go_meet
      exact ⟨_, p + 5 + 1, rfl, by omega, HM2⟩
    · go_wp2_with fail
      go_meet
      exact ⟨false, p + 4 + 1, rfl, by omega, HM1⟩
  case rest =>
  obtain ⟨cb, q0, rfl, hq0, HM2⟩ := hcut
  obtain ⟨w2, rfl⟩ : ∃ w2, w2 = wc := ⟨_, rfl⟩
  clear c0 c1 c2 cf0 cf1 cf2 HM1 HB
  obtain ⟨⟨c0, c1, c2⟩, cf0, cf1, cf2⟩ := HM2.out.blk.all3
  go_upto_if 27 with fail
  go_cut [] (fun wx => ∃ (f1 f2 f3 : Int) (q : Nat), ((-30 ≤ f1 ∧ f1 ≤ 30) ∧ (-30 ≤ f2 ∧ f2 ≤ 30) ∧ (-5 ≤ f3 ∧ f3 ≤ 9)) ∧ q ≤ p + 6 ∧ Hid (DBox N g w 56 #[.int .i64 0, .int .i64 0, .int .i64 0] t wx q #[.int .i64 f1, .int .i64 f2, .int .i64 f3]))
  case first =>
    cases cb
    · go_wp2_with fail
      go_meet
      exact ⟨y1, y2, y3, q0, by have := HY1.out; have := HY2.out; have := HY3.out; omega, hq0, HM2⟩
    · have HM3 := hid (HM2.out.put3 (.int .i64 y2) (.int .i64 y1) (.int .i64 y3))
      go_wp2_with fail
      go_meet
      exact ⟨y2, y1, y3, q0, by have := HY1.out; have := HY2.out; have := HY3.out; omega, hq0, HM3⟩
  case rest =>
    obtain ⟨f1, f2, f3, q1, hf, hq1, HM4⟩ := hcut
    obtain ⟨w4, rfl⟩ : ∃ w4, w4 = wc := ⟨_, rfl⟩
    have HF1 := hid hf.1
    have HF2 := hid hf.2.1
    have HF3 := hid hf.2.2
    clear hf c0 c1 c2 cf0 cf1 cf2 HM2
    go_wp2_with fail
    refine (pick_any _ _ (q1) 24 _ HM4.out.rd (by omega) (by omega)).mono ?_; rintro e w5 ⟨r, rfl, hr, hR, hG⟩
    have HM5 := hid (HM4.out.ate hR hG)
    clear hR hG
    by_cases h0 : r = 0
    · have h0i : ((r : Int) == 0) = true := by simp [h0]
      clear h0
      have hL : Own (w5.alloc (.cells #[.int .i64 0, .int .i64 201, .int .i64 (-201)] 3)) w5.heap.size (.slice (some ⟨w5.heap.size, 0, none⟩) 3 3) [0, 201, -201] := own_lit w5 [0, 201, -201] (by simp)
      have HA := hid (HM5.out.nx (below_alloc w5 (.cells #[.int .i64 0, .int .i64 201, .int .i64 (-201)] 3)))
      have HE := hid (HM5.out.rd.lit 3 3)
      go_wp2_with fail
      refine (one_any _ _ (q1 + 1) _ _ _ _ HA.out.rd (by omega) hL (by simp) HE.out).mono ?_; rintro e w6 ⟨r, hr, rfl, hR, hG⟩
      have HM6 := hid (HA.out.ate hR hG)
      obtain ⟨x, ey, hx⟩ : ∃ y : Int, [0, 201, -201][r] = y ∧ y ∈ ([0, 201, -201] : List Int) := ⟨_, rfl, List.getElem_mem hr⟩
      rw [ey]
      clear hR hG ey hr hL HA HE
      have hx : -201 ≤ x ∧ x ≤ 201 := by simp at hx; omega
      have HX := hid hx
      obtain ⟨⟨c0, c1, c2⟩, cf0, cf1, cf2⟩ := HM6.out.blk.all3
      have HM7 := hid (HM6.out.put 2 (.int .i64 x))
      simp only [List.setIfInBounds_toArray, List.set_cons_zero, List.set_cons_succ] at HM7
      go_upto_region 11 with fail
      clear c0 c1 c2 cf0 cf1 cf2 hx
      generalize w6.setCell ⟨t, 2, none⟩ (.int .i64 x) = w7 at *
      obtain ⟨⟨c0, c1, c2⟩, -⟩ := id HM7.out.blk.all3
      have hres := HM7.out.res
      rw [← HMm.out] at hres
      obtain ⟨⟨s0, s1, s2⟩, sf0, sf1, sf2⟩ := id hres.all3
      obtain ⟨⟨t0, t1, t2⟩, -⟩ := (hres.store3 (.int .i64 f1) (.int .i64 f2) (.int .i64 x)).all3
      clear hres
      go_wp2
      refine bodyPost_ret (v := .agg #[.int .i64 f1, .int .i64 f2, .int .i64 x]) (by simp [results, Try.results119, go_sem, t0, t1, t2]) rfl ?_
      rw [HMm.out]
      exact range_fin HM7.out ⟨f1, f2, x⟩ (by have := HF1.out; have := HF2.out; have := HF3.out; have := HX.out; refine ⟨?_, ?_, ?_⟩ <;> simp only <;> omega) (by omega) _ _ _
    · have h0i : ((r : Int) == 0) = false := by simp; omega
      by_cases h1 : r = 1
      · have h1i : ((r : Int) == 1) = true := by simp [h1]
        clear h0 h1
        have hL : Own (w5.alloc (.cells #[.int .i64 101, .int .i64 (-101), .int .i64 100] 3)) w5.heap.size (.slice (some ⟨w5.heap.size, 0, none⟩) 3 3) [101, -101, 100] := own_lit w5 [101, -101, 100] (by simp)
        have HA := hid (HM5.out.nx (below_alloc w5 (.cells #[.int .i64 101, .int .i64 (-101), .int .i64 100] 3)))
        have HE := hid (HM5.out.rd.lit 3 3)
        go_wp2_with fail
        refine (one_any _ _ (q1 + 1) _ _ _ _ HA.out.rd (by omega) hL (by simp) HE.out).mono ?_; rintro e w6 ⟨r, hr, rfl, hR, hG⟩
        have HM6 := hid (HA.out.ate hR hG)
        obtain ⟨x, ey, hx⟩ : ∃ y : Int, [101, -101, 100][r] = y ∧ y ∈ ([101, -101, 100] : List Int) := ⟨_, rfl, List.getElem_mem hr⟩
        rw [ey]
        clear hR hG ey hr hL HA HE
        have hx : -101 ≤ x ∧ x ≤ 101 := by simp at hx; omega
        have HX := hid hx
        obtain ⟨⟨c0, c1, c2⟩, cf0, cf1, cf2⟩ := HM6.out.blk.all3
        have HM7 := hid (HM6.out.put 0 (.int .i64 x))
        simp only [List.setIfInBounds_toArray, List.set_cons_zero] at HM7
        go_upto_region 11 with fail
        clear c0 c1 c2 cf0 cf1 cf2 hx
        generalize w6.setCell ⟨t, 0, none⟩ (.int .i64 x) = w7 at *
        obtain ⟨⟨c0, c1, c2⟩, -⟩ := id HM7.out.blk.all3
        have hres := HM7.out.res
        rw [← HMm.out] at hres
        obtain ⟨⟨s0, s1, s2⟩, sf0, sf1, sf2⟩ := id hres.all3
        obtain ⟨⟨t0, t1, t2⟩, -⟩ := (hres.store3 (.int .i64 x) (.int .i64 f2) (.int .i64 f3)).all3
        clear hres
        go_wp2
        refine bodyPost_ret (v := .agg #[.int .i64 x, .int .i64 f2, .int .i64 f3]) (by simp [results, Try.results119, go_sem, t0, t1, t2]) rfl ?_
        rw [HMm.out]
        exact range_fin HM7.out ⟨x, f2, f3⟩ (by have := HF1.out; have := HF2.out; have := HF3.out; have := HX.out; refine ⟨?_, ?_, ?_⟩ <;> simp only <;> omega) (by omega) _ _ _
      · have h1i : ((r : Int) == 1) = false := by simp; omega
        by_cases h2 : r = 2
        · have h2i : ((r : Int) == 2) = true := by simp [h2]
          clear h0 h1 h2
          have hL : Own (w5.alloc (.cells #[.int .i64 102, .int .i64 (-102), .int .i64 101] 3)) w5.heap.size (.slice (some ⟨w5.heap.size, 0, none⟩) 3 3) [102, -102, 101] := own_lit w5 [102, -102, 101] (by simp)
          have HA := hid (HM5.out.nx (below_alloc w5 (.cells #[.int .i64 102, .int .i64 (-102), .int .i64 101] 3)))
          have HE := hid (HM5.out.rd.lit 3 3)
          go_wp2_with fail
          refine (one_any _ _ (q1 + 1) _ _ _ _ HA.out.rd (by omega) hL (by simp) HE.out).mono ?_; rintro e w6 ⟨r, hr, rfl, hR, hG⟩
          have HM6 := hid (HA.out.ate hR hG)
          obtain ⟨x, ey, hx⟩ : ∃ y : Int, [102, -102, 101][r] = y ∧ y ∈ ([102, -102, 101] : List Int) := ⟨_, rfl, List.getElem_mem hr⟩
          rw [ey]
          clear hR hG ey hr hL HA HE
          have hx : -102 ≤ x ∧ x ≤ 102 := by simp at hx; omega
          have HX := hid hx
          obtain ⟨⟨c0, c1, c2⟩, cf0, cf1, cf2⟩ := HM6.out.blk.all3
          have HM7 := hid (HM6.out.put 1 (.int .i64 x))
          simp only [List.setIfInBounds_toArray, List.set_cons_zero, List.set_cons_succ] at HM7
          go_upto_region 11 with fail
          clear c0 c1 c2 cf0 cf1 cf2 hx
          generalize w6.setCell ⟨t, 1, none⟩ (.int .i64 x) = w7 at *
          obtain ⟨⟨c0, c1, c2⟩, -⟩ := id HM7.out.blk.all3
          have hres := HM7.out.res
          rw [← HMm.out] at hres
          obtain ⟨⟨s0, s1, s2⟩, sf0, sf1, sf2⟩ := id hres.all3
          obtain ⟨⟨t0, t1, t2⟩, -⟩ := (hres.store3 (.int .i64 f1) (.int .i64 x) (.int .i64 f3)).all3
          clear hres
          go_wp2
          refine bodyPost_ret (v := .agg #[.int .i64 f1, .int .i64 x, .int .i64 f3]) (by simp [results, Try.results119, go_sem, t0, t1, t2]) rfl ?_
          rw [HMm.out]
          exact range_fin HM7.out ⟨f1, x, f3⟩ (by have := HF1.out; have := HF2.out; have := HF3.out; have := HX.out; refine ⟨?_, ?_, ?_⟩ <;> simp only <;> omega) (by omega) _ _ _
        · have h2i : ((r : Int) == 2) = false := by simp; omega
          clear h0 h1 h2
          go_upto_region 11 with fail
          obtain ⟨⟨c0, c1, c2⟩, -⟩ := id HM5.out.blk.all3
          have hres := HM5.out.res
          rw [← HMm.out] at hres
          obtain ⟨⟨s0, s1, s2⟩, sf0, sf1, sf2⟩ := id hres.all3
          obtain ⟨⟨t0, t1, t2⟩, -⟩ := (hres.store3 (.int .i64 f1) (.int .i64 f2) (.int .i64 f3)).all3
          clear hres
          go_wp2
          refine bodyPost_ret (v := .agg #[.int .i64 f1, .int .i64 f2, .int .i64 f3]) (by simp [results, Try.results119, go_sem, t0, t1, t2]) rfl ?_
          rw [HMm.out]
          exact range_fin HM5.out ⟨f1, f2, f3⟩ (by have := HF1.out; have := HF2.out; have := HF3.out; refine ⟨?_, ?_, ?_⟩ <;> simp only <;> omega) (by omega) _ _ _

end Go.Proofs.Ytldblcolnjkcaaa
