/- Contract: a drawn item. No conditions. -/
import Derived.Test.YtmiamnaholnnoaaDD
import Derived.Test.YtmiamnaholnnoaaQ3
namespace Go.Proofs.Ytmiamnaholnnoaa
open Go.RowKit

set_option maxRecDepth 100000 in
set_option maxHeartbeats 6400000 in
theorem someItem_any (N g p : Nat) (sv : Value) (F : FL) (w : World) (h : Rd N w g p) (hp : p ≤ 900000) (hs : IntsN g w sv F.sizes) (hl : F.sizes.length ≤ 5) :
    Calls Try.prog 45 #[.pointer (some ⟨g, 0, none⟩), .agg #[sv, .bool F.big, .bool F.aligned]] w (RetIntsR N g p 5 30 w) := by
  obtain ⟨A, c, e⟩ := hs.1.form
  subst e
  have hlt := h.lt
  have hZ := Blk.new w 25 #[.slice A F.sizes.length c, .bool F.big, .bool F.aligned]
  have hb1 := below_alloc w (.cells #[.slice A F.sizes.length c, .bool F.big, .bool F.aligned] 25)
  have h1 := h.nx hb1
  have hs1 := hs.nx hb1
  have hG1 : w.grownBy (w.alloc (.cells #[.slice A F.sizes.length c, .bool F.big, .bool F.aligned] 25)) (some g) := grown_of hb1
  have hz1 : (w.alloc (.cells #[.slice A F.sizes.length c, .bool F.big, .bool F.aligned] 25)).heap.size = w.heap.size + 1 := by simp
  obtain ⟨m, hm⟩ : ∃ m, m = w.heap.size := ⟨_, rfl⟩
  rw [← hm] at hZ hz1 hlt
  have HGM := hid hm
  go_enter Try.func45, Try.ntmps45
  go_wp2_with fail
  rw [← hm]
  generalize (w.alloc (.cells #[.slice A F.sizes.length c, .bool F.big, .bool F.aligned] 25)) = w1 at *
  clear hm hb1 hs h
  have HD := DMid.start h1
  rw [hz1] at HD
  have HD := hid HD
  have HZ := hid hZ
  have HS := hid hs1
  have HG := hid hG1
  clear h1 hZ hs1 hG1
  go_loopg [5, 6, 7] F.sizes.length (fun m' out i z wr => ∃ (k q : Nat) (xs : List Int), k ≤ F.sizes.length ∧ m' = F.sizes.length - k ∧ i = .int .i64 k ∧ q ≤ p + 4 * k ∧ xs.length = k ∧ DMid N g w1 (m + 1) wr q out xs)
  case atStart => exact ⟨0, p, [], Nat.zero_le _, rfl, rfl, by omega, rfl, HD.out⟩
  case round =>
    obtain ⟨k, q, xs, hk, hm, rfl, hq, hxl, hM⟩ := hrel
    have HM := hid hm
    have HXL := hid hxl
    clear hm hxl HD
    have hB := HZ.out.grown hM.grew (by omega)
    have hS := HS.out.grown hM.grew
    obtain ⟨Ao, co, eo⟩ := hM.own.form
    subst eo
    have HMM := hid hM
    clear hM
    by_cases hlt2 : k < F.sizes.length
    · obtain ⟨b, off, e, hx2⟩ := hS.1.elem k hlt2
      subst e
      have hbg : b ≠ g := hS.2 b rfl
      have HXL1 := hid (show xs.length ≤ 1000000000000 by have := HXL.out; omega)
      have HM2 := HMM
      generalize F.sizes[k] = s at *
      clear hS HMM
      obtain ⟨⟨q0, q1, q2⟩, -⟩ := id hB.all3
      clear hB
      have hki : (k : Int) < (F.sizes.length : Int) := by omega
      go_wp2_with fail
      refine (pick_any N g (q + 0) 256 _ HM2.out.rd (by omega) (by omega)).mono ?_; rintro e w3 ⟨r1, rfl, hr1, hR3, hG3⟩
      have HM3 := hid (HM2.out.ate hR3 hG3)
      have hx3 := (hG3.cell_far ⟨b, off + k, none⟩ (World.block_lt_of_cell? _ _ hx2) (fun e => hbg (by injection e))).trans hx2
      clear hR3 hG3 hx2 q0 q1 q2
      obtain ⟨⟨q0, q1, q2⟩, -⟩ := (HZ.out.grown HM3.out.grew (by omega)).all3
      
      by_cases h2 : 2 ≤ s
      · go_wp2_with fail
        refine (pick_any N g (q + 1) 256 _ HM3.out.rd (by omega) (by omega)).mono ?_; rintro e w4 ⟨r2, rfl, hr2, hR4, hG4⟩
        have HM4 := hid (HM3.out.ate hR4 hG4)
        have hx4 := (hG4.cell_far ⟨b, off + k, none⟩ (World.block_lt_of_cell? _ _ hx3) (fun e => hbg (by injection e))).trans hx3
        clear hR4 hG4 hx3 q0 q1 q2
        obtain ⟨⟨q0, q1, q2⟩, -⟩ := (HZ.out.grown HM4.out.grew (by omega)).all3
        
        have hw1 : IntKind.i64.wrap (256 * (r2 : Int)) = 256 * (r2 : Int) := IntWalk.i64_in _ (by omega)
        have hw2 : IntKind.i64.wrap ((r1 : Int) + 256 * (r2 : Int)) = (r1 : Int) + 256 * (r2 : Int) := IntWalk.i64_in _ (by omega)
        by_cases h4 : s = 4
        · have h4b : (s == 4) = true := by simp [h4]
          clear h4
          go_wp2_with fail
          refine (pick_any N g (q + 2) 256 _ HM4.out.rd (by omega) (by omega)).mono ?_; rintro e w5 ⟨r3, rfl, hr3, hR5, hG5⟩
          have HM5 := hid (HM4.out.ate hR5 hG5)
          have hx5 := (hG5.cell_far ⟨b, off + k, none⟩ (World.block_lt_of_cell? _ _ hx4) (fun e => hbg (by injection e))).trans hx4
          clear hR5 hG5 hx4 q0 q1 q2
          obtain ⟨⟨q0, q1, q2⟩, -⟩ := (HZ.out.grown HM5.out.grew (by omega)).all3
          
          have hw3 : IntKind.i64.wrap (65536 * (r3 : Int)) = 65536 * (r3 : Int) := IntWalk.i64_in _ (by omega)
          have hw4 : IntKind.i64.wrap ((r1 : Int) + 256 * (r2 : Int) + 65536 * (r3 : Int)) = (r1 : Int) + 256 * (r2 : Int) + 65536 * (r3 : Int) := IntWalk.i64_in _ (by omega)
          go_wp2_with fail
          refine (pick_any N g (q + 3) 256 _ HM5.out.rd (by omega) (by omega)).mono ?_; rintro e w6 ⟨r4, rfl, hr4, hR6, hG6⟩
          have HM6 := hid (HM5.out.ate hR6 hG6)
          have hx6 := (hG6.cell_far ⟨b, off + k, none⟩ (World.block_lt_of_cell? _ _ hx5) (fun e => hbg (by injection e))).trans hx5
          clear hR6 hG6 hx5 q0 q1 q2
          obtain ⟨⟨q0, q1, q2⟩, -⟩ := (HZ.out.grown HM6.out.grew (by omega)).all3
          
          have hw5 : IntKind.i64.wrap (16777216 * (r4 : Int)) = 16777216 * (r4 : Int) := IntWalk.i64_in _ (by omega)
          have hw6 : IntKind.i64.wrap ((r1 : Int) + 256 * (r2 : Int) + 65536 * (r3 : Int) + 16777216 * (r4 : Int)) = (r1 : Int) + 256 * (r2 : Int) + 65536 * (r3 : Int) + 16777216 * (r4 : Int) := IntWalk.i64_in _ (by omega)
          have HV := hid (show True from trivial)
          go_wp2_with (at_builtin; refine app1 _ rfl _ _ rfl (m + 1) _ xs rfl (HM6.out.own.alloc _) ⟨w6.heap.size, 0, none⟩ 1 ((r1 : Int) + 256 * (r2 : Int) + 65536 * (r3 : Int) + 16777216 * (r4 : Int)) rfl (cell_new1 _ _ _) HXL1.out (le_alloc HM6.out.sz _) ?_)
          intro v1 w9 ho9 hg9 hat9
          have HM9 := hid ((HM6.out.nx (below_alloc w6 (.cells #[.int .i64 (((r1 : Int) + 256 * (r2 : Int) + 65536 * (r3 : Int) + 16777216 * (r4 : Int)))] 3))).row ho9 hg9)
          clear hg9 hat9 ho9 hx6 q0 q1 q2
          go_wp2
          go_roundg (F.sizes.length - (k + 1))
          case measure => have := HM.out; omega
          case rel => exact ⟨k + 1, q + 4, _, by omega, rfl, by go_num, by omega, by have := HXL.out; simp; omega, HM9.out⟩
          
        · have h4b : (s == 4) = false := by simpa using h4
          clear h4
          have HV := hid (show True from trivial)
          go_wp2_with (at_builtin; refine app1 _ rfl _ _ rfl (m + 1) _ xs rfl (HM4.out.own.alloc _) ⟨w4.heap.size, 0, none⟩ 1 ((r1 : Int) + 256 * (r2 : Int)) rfl (cell_new1 _ _ _) HXL1.out (le_alloc HM4.out.sz _) ?_)
          intro v1 w9 ho9 hg9 hat9
          have HM9 := hid ((HM4.out.nx (below_alloc w4 (.cells #[.int .i64 (((r1 : Int) + 256 * (r2 : Int)))] 3))).row ho9 hg9)
          clear hg9 hat9 ho9 hx4 q0 q1 q2
          go_wp2
          go_roundg (F.sizes.length - (k + 1))
          case measure => have := HM.out; omega
          case rel => exact ⟨k + 1, q + 2, _, by omega, rfl, by go_num, by omega, by have := HXL.out; simp; omega, HM9.out⟩
          
      · have h4b : (s == 4) = false := by simp; omega
        have HV := hid (show True from trivial)
        go_wp2_with (at_builtin; refine app1 _ rfl _ _ rfl (m + 1) _ xs rfl (HM3.out.own.alloc _) ⟨w3.heap.size, 0, none⟩ 1 r1 rfl (cell_new1 _ _ _) HXL1.out (le_alloc HM3.out.sz _) ?_)
        intro v1 w9 ho9 hg9 hat9
        have HM9 := hid ((HM3.out.nx (below_alloc w3 (.cells #[.int .i64 (r1)] 3))).row ho9 hg9)
        clear hg9 hat9 ho9 hx3 q0 q1 q2
        go_wp2
        go_roundg (F.sizes.length - (k + 1))
        case measure => have := HM.out; omega
        case rel => exact ⟨k + 1, q + 1, _, by omega, rfl, by go_num, by omega, by have := HXL.out; simp; omega, HM9.out⟩
        
    · have hki : ¬ (k : Int) < (F.sizes.length : Int) := by omega
      have hxl := HXL.out
      have hkk : k = F.sizes.length := by omega
      obtain ⟨⟨q0, q1, q2⟩, -⟩ := id hB.all3
      clear hS hB HM
      by_cases h0 : xs.length = 0
      · have HQ := hid (show q ≤ p + 30 by omega)
        obtain rfl : xs = [] := List.eq_nil_of_length_eq_zero h0
        clear h0 hxl hkk HXL
        simp only [List.length_nil] at HMM ⊢
        go_wp2
        go_ret
        exact HMM.out.ret HG.out HMM.out.own.ints (fun k e => (HMM.out.own.lt k e).1) (by simp) HQ.out
      · obtain ⟨gr, cr, esv, hgr1, hgr2⟩ := HMM.out.own.row (by omega)
        simp only [Value.slice.injEq, true_and] at esv
        obtain ⟨rfl, rfl⟩ := esv
        have h0i : (0 : Int) < (xs.length : Int) := by omega
        have HL := hid (show xs.length ≤ 5 ∧ 0 < xs.length by omega)
        have HQ := hid (show q ≤ p + 20 by omega)
        obtain ⟨A', c', hv', hcap, hcm, -⟩ := HMM.out.own.ints
        simp only [Value.slice.injEq, true_and] at hv'
        obtain ⟨-, rfl⟩ := hv'
        unfold maxLen at hcm
        clear h0 hxl hkk
        go_wp2_with fail
        refine (pick_any N g q 20 _ HMM.out.rd (by have := HQ.out; omega) (by omega)).mono ?_; rintro e w2 ⟨r, rfl, hr, hR2, hG2⟩
        have HM2 := hid (HMM.out.ate hR2 hG2)
        clear hR2 hG2 HMM
        clear q0 q1 q2
        by_cases hr0 : r = 0
        · have hr0i : ((r : Int) == 0) = true := by simp [hr0]
          clear hr0
          have hL : Own (w2.alloc (.cells #[.int .i64 (-1), .int .i64 256, .int .i64 65536, .int .i64 4294967296] 3)) w2.heap.size (.slice (some ⟨w2.heap.size, 0, none⟩) 4 4) [-1, 256, 65536, 4294967296] := own_lit w2 [-1, 256, 65536, 4294967296] (by simp)
          have HMA := hid (HM2.out.nx (below_alloc w2 (.cells #[.int .i64 (-1), .int .i64 256, .int .i64 65536, .int .i64 4294967296] 3)))
          have hgw := HM2.out.sz
          have hne : ∀ i, (Value.slice (some ⟨w2.heap.size, 0, none⟩) 4 4).ownBlock = some i → i ≠ g := fun i e => by simp [Value.ownBlock] at e; omega
          go_wp2_with fail
          refine (one_any N g (q + 1) _ _ _ _ HMA.out.rd (by have := HQ.out; omega) hL (by simp) hne).mono ?_; rintro e w3 ⟨r3, hr3, rfl, hR3, hG3⟩
          have HM3 := hid (HMA.out.ate hR3 hG3)
          generalize [-1, 256, 65536, 4294967296][r3] = y at *
          have hv0 := HM3.out.own.cell 0 HL.out.2
          have hvf := HM3.out.own.free 0
          clear hR3 hG3 hL
          have HM4 := hid (HM3.out.row (HM3.out.own.put 0 y) (grown_set _ _ _))
          go_wp2
          go_ret
          exact HM4.out.ret HG.out HM4.out.own.ints (fun k e => (HM4.out.own.lt k e).1) (by simp; exact HL.out.1) (by have := HQ.out; omega)
        · have hr0i : ((r : Int) == 0) = false := by simp; omega
          by_cases hr1 : r = 1
          · have hr1i : ((r : Int) == 1) = true := by simp [hr1]
            clear hr1 hr0
            have h1l : (1 : Int) ≤ (xs.length : Int) := by omega
            by_cases hco : co = 1
            · subst hco
              have HD := HM2.out.own.ints.dropAll (k := 1) rfl
              rw [show xs.length - 1 = 0 by omega] at HD
              have HD := hid HD
              go_wp2
              go_ret
              exact HM2.out.ret HG.out HD.out (fun k e => by injection e with e; subst e; exact hgr1) (by rw [List.length_drop]; have := HL.out; omega) (by have := HQ.out; omega)
            · have HD := hid (HM2.out.own.ints.drop 1 HL.out.2)
              go_wp2
              go_ret
              exact HM2.out.ret HG.out HD.out (fun k e => by injection e with e; subst e; exact hgr1) (by rw [List.length_drop]; have := HL.out; omega) (by have := HQ.out; omega)
          · have hr1i : ((r : Int) == 1) = false := by simp; omega
            clear hr1 hr0
            go_wp2
            go_ret
            exact HM2.out.ret HG.out HM2.out.own.ints (fun k e => (HM2.out.own.lt k e).1) HL.out.1 (by have := HQ.out; omega)

end Go.Proofs.Ytmiamnaholnnoaa
