/- Contract: drawn bytes of items. No conditions. -/
import Derived.Test.YtmiamnaholnnoaaDD
import Derived.Test.YtmiamnaholnnoaaR1
import Derived.Test.YtmiamnaholnnoaaFI2
namespace Go.Proofs.Ytmiamnaholnnoaa
open Go.RowKit

set_option maxRecDepth 100000 in
set_option maxHeartbeats 6400000 in
theorem sItemSize_bad (v : Value) (F : FL) (w : World) (hv : FormatV w v F) (hok : isFormatL F = false) :
    Calls Try.prog 54 #[v] w fun e w' => e = .returned (.int .i64 (-1)) ∧ Below w.heap.size w w' := by
  obtain ⟨A, c, rfl, hk, hm, h0⟩ := hv.form
  have HB := FBox.new h0
  go_enter Try.func54, Try.ntmps54
  go_wp2_with fail
  generalize w.alloc (.cells #[.slice A F.sizes.length c, .bool F.big, .bool F.aligned] 25) = W1 at *
  refine (validFormat_any _ F _ HB.format).mono ?_; rintro e w1 ⟨rfl, hb1⟩
  have HB1 := HB.nx hb1
  rw [hok]
  clear hok
  go_wp2
  go_ret
  exact ⟨rfl, HB1.below⟩
/-- The size of an item, or -1. -/
def sizeB (F : FL) : Int := if isFormatL F then sizeF F else -1
theorem sizeB_bd (F : FL) : -1 ≤ sizeB F ∧ sizeB F ≤ 38 := by
  unfold sizeB
  split
  · rename_i h
    have := size_bd h
    omega
  · omega
theorem sItemSizeB_any (v : Value) (F : FL) (w : World) (hv : FormatV w v F) :
    Calls Try.prog 54 #[v] w fun e w' => e = .returned (.int .i64 (sizeB F)) ∧ Below w.heap.size w w' := by
  cases hok : isFormatL F
  · have := sItemSize_bad v F w hv hok
    simpa [sizeB, hok] using this
  · have := sItemSize_any v F w hv hok
    simpa [sizeB, hok] using this

set_option maxRecDepth 100000 in
set_option maxHeartbeats 6400000 in
theorem someBytes_any (N g p many : Nat) (sv : Value) (F : FL) (w : World) (h : Rd N w g p) (hp : p ≤ 900000) (hs : IntsN g w sv F.sizes) (hmany : many ≤ 3) :
    Calls Try.prog 53 #[.pointer (some ⟨g, 0, none⟩), .agg #[sv, .bool F.big, .bool F.aligned], .int .i64 many] w (RetIntsR N g p 120 200 w) := by
  obtain ⟨A, c, e⟩ := hs.1.form
  subst e
  have hlt := h.lt
  have hZ := Blk.new w 25 #[.slice A F.sizes.length c, .bool F.big, .bool F.aligned]
  have hb1 := below_alloc w (.cells #[.slice A F.sizes.length c, .bool F.big, .bool F.aligned] 25)
  have h1 := h.nx hb1
  have hs1 := hs.nx hb1
  have hG1 : w.grownBy (w.alloc (.cells #[.slice A F.sizes.length c, .bool F.big, .bool F.aligned] 25)) (some g) := grown_of hb1
  have hz1 : (w.alloc (.cells #[.slice A F.sizes.length c, .bool F.big, .bool F.aligned] 25)).heap.size = w.heap.size + 1 := by simp
  obtain ⟨m, hm⟩ : ∃ m, m = w.heap.size := ⟨_, rfl⟩
  rw [← hm] at hZ hz1 hlt
  have HGM := hid hm
  go_enter Try.func53, Try.ntmps53
  go_upto_region 2 with fail
  rw [← hm]
  generalize (w.alloc (.cells #[.slice A F.sizes.length c, .bool F.big, .bool F.aligned] 25)) = w1 at *
  clear hm hb1 hs h
  have HD := DMid.start h1
  rw [hz1] at HD
  have HD := hid HD
  have HZ := hid (hZ.nx (below_alloc w1 (.cells #[] 3)))
  have HS := hid (hs1.nx (below_alloc w1 (.cells #[] 3)))
  have HG := hid hG1
  have HZ1 := hid hz1
  clear h1 hZ hs1 hG1
  clear hz1
  obtain ⟨⟨q0, q1, q2⟩, -⟩ := HZ.out.all3
  generalize hw2 : w1.alloc (.cells #[] 3) = w2 at *
  have hsb := sizeB_bd F
  have hmul : (many : Int) * sizeB F ≤ 114 ∧ -3 ≤ (many : Int) * sizeB F := by
    have : many = 0 ∨ many = 1 ∨ many = 2 ∨ many = 3 := by omega
    rcases this with rfl | rfl | rfl | rfl
    all_goals
      push_cast
      omega
  have hmw : IntKind.i64.wrap ((many : Int) * sizeB F) = (many : Int) * sizeB F := IntWalk.i64_in _ (by omega)
  go_wp2_with fail
  refine (sItemSizeB_any _ F _ (show FormatV w2 _ F from ⟨_, rfl, HS.out.1⟩)).mono ?_; rintro e w3 ⟨rfl, hb3⟩
  have HD3 := hid (HD.out.nx hb3)
  clear q0 q1 q2 hb3 HD HZ HS hw2
  go_wp2_with fail
  generalize (many : Int) * sizeB F = T at *
  go_loopg [7, 8] T.toNat (fun m' out z wr => ∃ (i : Int) (q : Nat) (xs : List Int), z = .int .i64 i ∧ i ≤ 114 ∧ -3 ≤ i ∧ m' = i.toNat ∧ q + i.toNat ≤ p + 114 ∧ xs.length + i.toNat ≤ 114 ∧ DMid N g w1 (m + 1) wr q out xs)
  case atStart => exact ⟨T, p, [], rfl, by omega, by omega, rfl, by omega, by simp; omega, HD3.out⟩
  case round =>
    obtain ⟨i, q, xs, rfl, hi1, hi2, hmm, hq, hxl, hM⟩ := hrel
    have HM := hid hmm
    have HXL := hid hxl
    have HMM := hid hM
    clear hmm hxl HD3 hM
    obtain ⟨Ao, co, eo⟩ := HMM.out.own.form
    subst eo
    by_cases hi : 0 < i
    · have HXL1 := hid (show xs.length ≤ 1000000000000 by have := HXL.out; omega)
      go_wp2_with fail
      refine (pick_any N g q 256 _ HMM.out.rd (by omega) (by omega)).mono ?_; rintro e w4 ⟨r, rfl, hr, hR4, hG4⟩
      have HM4 := hid (HMM.out.ate hR4 hG4)
      clear hR4 hG4 HMM
      go_wp2_with (at_builtin; refine app1 _ rfl _ _ rfl (m + 1) _ xs rfl (HM4.out.own.alloc _) ⟨w4.heap.size, 0, none⟩ 1 r rfl (cell_new1 _ _ _) HXL1.out (le_alloc HM4.out.sz _) ?_)
      intro v1 w9 ho9 hg9 hat9
      have HM9 := hid ((HM4.out.nx (below_alloc w4 (.cells #[.int .i64 (r : Int)] 3))).row ho9 hg9)
      clear hg9 hat9 ho9
      have hw1 : IntKind.i64.wrap (i - 1) = i - 1 := IntWalk.i64_in _ (by omega)
      go_wp2
      go_roundg (i - 1).toNat
      case measure => have := HM.out; omega
      case rel => exact ⟨i - 1, q + 1, _, rfl, by omega, by omega, rfl, by omega, by have := HXL.out; simp; omega, HM9.out⟩
    · have hxl := HXL.out
      clear HM
      by_cases h0 : xs.length = 0
      · have HQ := hid (show q ≤ p + 200 by omega)
        obtain rfl : xs = [] := List.eq_nil_of_length_eq_zero h0
        clear h0 hxl HXL
        simp only [List.length_nil] at HMM ⊢
        go_wp2
        go_ret
        exact HMM.out.ret HG.out HMM.out.own.ints (fun k e => (HMM.out.own.lt k e).1) (by simp) HQ.out
      · obtain ⟨gr, cr, esv, hgr1, hgr2⟩ := HMM.out.own.row (by omega)
        simp only [Value.slice.injEq, true_and] at esv
        obtain ⟨rfl, rfl⟩ := esv
        have h0i : (0 : Int) < (xs.length : Int) := by omega
        have HL := hid (show xs.length ≤ 120 ∧ 0 < xs.length by omega)
        have HQ := hid (show q ≤ p + 120 by omega)
        obtain ⟨A', c', hv', hcap, hcm, -⟩ := HMM.out.own.ints
        simp only [Value.slice.injEq, true_and] at hv'
        obtain ⟨-, rfl⟩ := hv'
        unfold maxLen at hcm
        clear h0 hxl
        go_wp2_with fail
        refine (pick_any N g q 20 _ HMM.out.rd (by have := HQ.out; omega) (by omega)).mono ?_; rintro e w4 ⟨r, rfl, hr, hR2, hG2⟩
        have HM2 := hid (HMM.out.ate hR2 hG2)
        clear hR2 hG2 HMM
        by_cases hr1 : r = 0
        · have hr1i : ((r : Int) == 0) = true := by simp [hr1]
          clear hr1
          have h1l : (1 : Int) ≤ (xs.length : Int) := by omega
          by_cases hco : co = 1
          · subst hco
            have HD := HM2.out.own.ints.dropAll (k := 1) rfl
            rw [show xs.length - 1 = 0 by omega] at HD
            have HD := hid HD
            go_wp2
            go_ret
            exact HM2.out.ret HG.out HD.out (fun k e => by injection e with e; subst e; exact hgr1) (by rw [List.length_drop]; have := HL.out; omega) (by have := HQ.out; omega)
          · have HD := hid (HM2.out.own.ints.drop 1 HL.out.2)
            go_wp2
            go_ret
            exact HM2.out.ret HG.out HD.out (fun k e => by injection e with e; subst e; exact hgr1) (by rw [List.length_drop]; have := HL.out; omega) (by have := HQ.out; omega)
        · have hr1i : ((r : Int) == 0) = false := by simp; omega
          by_cases hr0 : r = 1
          · have hr0i : ((r : Int) == 1) = true := by simp [hr0]
            clear hr0 hr1
            have hL : Own (w4.alloc (.cells #[.int .i64 (-1), .int .i64 256] 3)) w4.heap.size (.slice (some ⟨w4.heap.size, 0, none⟩) 2 2) [-1, 256] := own_lit w4 [-1, 256] (by simp)
            have HMA := hid (HM2.out.nx (below_alloc w4 (.cells #[.int .i64 (-1), .int .i64 256] 3)))
            have hgw := HM2.out.sz
            have hne : ∀ i, (Value.slice (some ⟨w4.heap.size, 0, none⟩) 2 2).ownBlock = some i → i ≠ g := fun i e => by simp [Value.ownBlock] at e; omega
            go_wp2_with fail
            refine (one_any N g (q + 1) _ _ _ _ HMA.out.rd (by have := HQ.out; omega) hL (by simp) hne).mono ?_; rintro e w5 ⟨r3, hr3, rfl, hR3, hG3⟩
            have HM3 := hid (HMA.out.ate hR3 hG3)
            generalize [-1, 256][r3] = y at *
            have hv0 := HM3.out.own.cell 0 HL.out.2
            have hvf := HM3.out.own.free 0
            clear hR3 hG3 hL
            have HM4 := hid (HM3.out.row (HM3.out.own.put 0 y) (grown_set _ _ _))
            go_wp2
            go_ret
            exact HM4.out.ret HG.out HM4.out.own.ints (fun k e => (HM4.out.own.lt k e).1) (by simp; exact HL.out.1) (by have := HQ.out; omega)
          · have hr0i : ((r : Int) == 1) = false := by simp; omega
            clear hr1 hr0
            go_wp2
            go_ret
            exact HM2.out.ret HG.out HM2.out.own.ints (fun k e => (HM2.out.own.lt k e).1) HL.out.1 (by have := HQ.out; omega)

end Go.Proofs.Ytmiamnaholnnoaa
