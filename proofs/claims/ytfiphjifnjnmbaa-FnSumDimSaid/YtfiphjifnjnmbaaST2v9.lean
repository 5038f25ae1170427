/- Contract: a drawn tensor. No conditions. -/
import Derived.Test.YtfiphjifnjnmbaaST1v9
namespace Go.Proofs.Ytfiphjifnjnmbaa
open Go.RowKit

set_option maxRecDepth 100000 in
set_option maxHeartbeats 6400000 in
theorem someTensor_any (N g p : Nat) (w : World) (h : Rd N w g p) (hp : p ≤ 800000) :
    Calls Try.prog 31 #[.pointer (some ⟨g, 0, none⟩)] w (RetTensorR N g p 61 66 w) := by
  have H1 := hid ((Hr.start h).op ((Hr.start h).hp.alloc 25 #[.slice none 0 0, .slice none 0 0]))
  go_enter Try.func31, Try.ntmps31
  go_upto_region 1 with fail
  generalize (w.alloc (.cells #[.slice none 0 0, .slice none 0 0] 25)) = w1 at *
  go_wp2_with fail
  refine (goodShape_any N g p _ H1.out.rd (by omega)).mono ?_; rintro e w2 ⟨u, xs, q, rfl, hs, -, hO, hq, hR, hG⟩
  have H2 := hid (H1.out.ate hR hG)
  have hN := IntsN.of_own hO (show g < w1.heap.size by have := H1.out.rd.lt; omega)
  obtain ⟨A0, c0, eu⟩ := hO.form
  subst eu
  have HS := hid hs
  clear hR hG hO hs H1
  go_wp2_with fail
  refine (tensorFor_any N g q _ xs _ H2.out.rd (by omega) hN HS.out).mono ?_; rintro e w3 ⟨sv, tv, T, q3, rfl, hl1, hl2, hO1, hO2, hsp, hq3, hR, hG⟩
  obtain ⟨A1, c1, eu⟩ := hO1.form
  subst eu
  obtain ⟨A2, c2, eu⟩ := hO2.form
  subst eu
  have H3 := hid (show Hr N g q3 w w3 [.blk w.heap.size 25 #[.slice none 0 0, .slice none 0 0], .ints (.slice A1 T.shape.length c1) T.shape, .ints (.slice A2 T.values.length c2) T.values] from ⟨⟨Below.refl _ _, Nat.le_trans H2.out.sz hG.size, fun i hi => by
      simp only [List.mem_cons, List.not_mem_nil, or_false] at hi
      rcases hi with rfl | rfl | rfl
      · exact ((H2.out.ate hR hG).hp.ok _ (by simp))
      · exact hO1.mono H2.out.sz
      · exact hO2.mono H2.out.sz,
    .cons (fun i hi => by
      simp only [List.mem_cons, List.not_mem_nil, or_false] at hi
      have hz := (H2.out.blk 0 rfl).lt
      rcases hi with rfl | rfl
      · exact fun k h1 h2 => by have h1 : k = _ := h1; have := (hO1.lt k h2).1; omega
      · exact fun k h1 h2 => by have h1 : k = _ := h1; have := (hO2.lt k h2).1; omega) (List.pairwise_pair.2 fun k h1 h2 => hsp k h1 h2)⟩, H2.out.lt, hR, H2.out.grew.trans hG⟩)
  have HL := hid (And.intro hl1 hl2)
  have HQ := hid (And.intro hq hq3)
  have hqb : q3 ≤ 900000 := by omega
  clear hR hG hO1 hO2 hsp hN H2 hl1 hl2 hq hq3 HS
  have H4 := hid (H3.out.op (H3.out.hp.alloc 25 #[.slice A1 T.shape.length c1, .slice A2 T.values.length c2]))
  simp only [List.nil_append, List.cons_append] at H4
  clear H3
  go_upto_region 2 with fail
  generalize (w3.alloc (.cells #[.slice A1 T.shape.length c1, .slice A2 T.values.length c2] 25)) = w4 at *
  generalize w3.heap.size = b at *
  have HM4 := H4
  clear H4
  go_wp2_with fail
  refine (pick_any _ _ (q3) 24 _ HM4.out.rd (by omega) (by omega)).mono ?_; rintro e w5 ⟨r, rfl, hr, hR, hG⟩
  have HM5 := hid (HM4.out.ate hR hG)
  clear hR hG
  obtain ⟨⟨r0, r1⟩, s0, s1⟩ := (HM5.out.blk 0 rfl).all2
  obtain ⟨⟨z0, z1⟩, y0, y1⟩ := (HM5.out.blk 3 rfl).all2
  have HL1 := hid (show T.shape.length ≤ 1000000000000 by have := HL.out; omega)
  have HL2 := hid (show T.values.length ≤ 1000000000000 by have := HL.out; omega)
  clear HM4
  by_cases h0 : r = 0
  · have h0i : ((r : Int) == 0) = true := by simp [h0]
    clear h0
    have H6 := hid (HM5.out.nx (below_alloc w5 (.cells #[.int .i64 1] 3)))
    obtain ⟨⟨zz0, zz1⟩, -⟩ := (H6.out.blk 3 rfl).all2
    go_wp2_with (at_builtin; refine app1 _ rfl _ _ rfl w.heap.size _ T.values rfl (H6.out.ints 2 rfl) ⟨w5.heap.size, 0, none⟩ 1 1 rfl (cell_new1 _ _ _) HL2.out H6.out.sz ?_)
    intro v1 w9 ho9 hg9 hat9
    rw [← World.size_alloc w5 (.cells #[.int .i64 1] 3)] at hat9
    have H7 := hid (H6.out.op (H6.out.hp.grown 2 rfl ho9 hg9 hat9))
    simp only [List.set_cons_succ, List.set_cons_zero] at H7
    obtain ⟨Av, cv, ev⟩ := ho9.form
    rw [List.length_append, List.length_singleton] at ev
    subst ev
    obtain ⟨⟨x0, x1⟩, t0, t1⟩ := (H7.out.blk 3 rfl).all2
    have H8 := hid (H7.out.op (H7.out.hp.store 3 rfl 1 (.slice Av (T.values.length + 1) cv)))
    simp only [List.set_cons_succ, List.set_cons_zero, List.setIfInBounds_toArray] at H8
    obtain ⟨⟨r0', r1'⟩, s0', s1'⟩ := (H8.out.blk 0 rfl).all2
    obtain ⟨⟨k0, k1⟩, l0, l1⟩ := (H8.out.blk 3 rfl).all2
    have HF := hid (H8.out.op (H8.out.hp.store2 0 rfl (.slice A1 T.shape.length c1) (.slice Av (T.values.length + 1) cv)))
    have HLA := hid (show (T.values ++ [1]).length ≤ 61 by have := HL.out; simp; omega)
    clear ho9 hg9 hat9 r0 r1 s0 s1 z0 z1 y0 y1 zz0 zz1
    go_wp2
    refine bodyPost_ret (v := .agg #[.slice A1 T.shape.length c1, .slice Av (T.values.length + 1) cv]) (by simp [results, Try.results31, go_sem, r0', r1']) rfl ?_
    exact ⟨_, _, ⟨T.shape, T.values ++ [1]⟩, q3 + 1, rfl, (by have := HL.out; show T.shape.length ≤ 61; omega), HLA.out, HF.out.ints 1 rfl, HF.out.ints 2 rfl, HF.out.hp.apart 1 2 rfl rfl (by omega), by have := HQ.out; omega, HF.out.rd, HF.out.grew⟩
  · have h0i : ((r : Int) == 0) = false := by simp; omega
    by_cases h1 : r = 1
    · have h1i : ((r : Int) == 1) = true := by simp [h1]
      clear h0 h1
      have HS4 := hid (show True from trivial)
      have H6 := hid (HM5.out.nx (below_alloc w5 (.cells #[.int .i64 (-1)] 3)))
      obtain ⟨⟨zz0, zz1⟩, -⟩ := (H6.out.blk 3 rfl).all2
      go_wp2_with (at_builtin; refine app1 _ rfl _ _ rfl w.heap.size _ T.shape rfl (H6.out.ints 1 rfl) ⟨w5.heap.size, 0, none⟩ 1 (-1) rfl (cell_new1 _ _ _) HL1.out H6.out.sz ?_)
      intro v1 w9 ho9 hg9 hat9
      rw [← World.size_alloc w5 (.cells #[.int .i64 (-1)] 3)] at hat9
      have H7 := hid (H6.out.op (H6.out.hp.grown 1 rfl ho9 hg9 hat9))
      simp only [List.set_cons_succ, List.set_cons_zero] at H7
      obtain ⟨Av, cv, ev⟩ := ho9.form
      rw [List.length_append, List.length_singleton] at ev
      subst ev
      obtain ⟨⟨x0, x1⟩, t0, t1⟩ := (H7.out.blk 3 rfl).all2
      have H8 := hid (H7.out.op (H7.out.hp.store 3 rfl 0 (.slice Av (T.shape.length + 1) cv)))
      simp only [List.set_cons_succ, List.set_cons_zero, List.setIfInBounds_toArray] at H8
      obtain ⟨⟨r0', r1'⟩, s0', s1'⟩ := (H8.out.blk 0 rfl).all2
      obtain ⟨⟨k0, k1⟩, l0, l1⟩ := (H8.out.blk 3 rfl).all2
      have HF := hid (H8.out.op (H8.out.hp.store2 0 rfl (.slice Av (T.shape.length + 1) cv) (.slice A2 T.values.length c2)))
      have HLA := hid (show (T.shape ++ [-1]).length ≤ 61 by have := HL.out; simp; omega)
      clear ho9 hg9 hat9 r0 r1 s0 s1 z0 z1 y0 y1 zz0 zz1
      go_wp2
      refine bodyPost_ret (v := .agg #[.slice Av (T.shape.length + 1) cv, .slice A2 T.values.length c2]) (by simp [results, Try.results31, go_sem, r0', r1']) rfl ?_
      exact ⟨_, _, ⟨T.shape ++ [-1], T.values⟩, q3 + 1, rfl, HLA.out, by have := HL.out; show T.values.length ≤ 61; omega, HF.out.ints 1 rfl, HF.out.ints 2 rfl, HF.out.hp.apart 1 2 rfl rfl (by omega), by have := HQ.out; omega, HF.out.rd, HF.out.grew⟩
    · have h1i : ((r : Int) == 1) = false := by simp; omega
      clear h0 h1
      have HF := hid (HM5.out.op (HM5.out.hp.store2 0 rfl (.slice A1 T.shape.length c1) (.slice A2 T.values.length c2)))
      go_wp2
      refine bodyPost_ret (v := .agg #[.slice A1 T.shape.length c1, .slice A2 T.values.length c2]) (by simp [results, Try.results31, go_sem, r0, r1]) rfl ?_
      exact ⟨_, _, T, q3 + 1, rfl, by have := HL.out; omega, by have := HL.out; omega, HF.out.ints 1 rfl, HF.out.ints 2 rfl, HF.out.hp.apart 1 2 rfl rfl (by omega), by have := HQ.out; omega, HF.out.rd, HF.out.grew⟩

end Go.Proofs.Ytfiphjifnjnmbaa
