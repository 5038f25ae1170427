/- Contract: two drawn shapes. No conditions. -/
import Derived.Test.YtldblcolnjkcaaaSH2
import Derived.Test.YtldblcolnjkcaaaD1
namespace Go.Proofs.Ytldblcolnjkcaaa
open Go.RowKit

section
variable {N g h q : Nat} {w0 wx wy : World} {v : Value} {xs : List Int}
theorem DMid.start0 (hR : Rd N w0 g q) : DMid N g w0 w0.heap.size w0 q (.slice none 0 0) [] :=
  ⟨⟨hR.lt.2, Nat.le_refl _⟩, hR, World.grownBy.refl _ _, Own.nil _ _, Nat.le_refl _⟩
theorem DMid.copied (hR : Rd N w0 g q) (ho : Own wx w0.heap.size v xs) (hb : Below w0.heap.size w0 wx) : DMid N g w0 w0.heap.size wx q v xs :=
  ⟨⟨hR.lt.2, Nat.le_refl _⟩, hR.nx hb, grown_of hb, ho, hb.size⟩
theorem DMid.put {b n c : Nat} (hM : DMid N g w0 h wx q (.slice (some ⟨b, 0, none⟩) n c) xs) (j : Nat) (x : Int) : DMid N g w0 h (wx.setCell ⟨b, j, none⟩ (.int .i64 x)) q (.slice (some ⟨b, 0, none⟩) n c) (xs.set j x) :=
  hM.row (hM.own.put j x) (grown_set wx ⟨b, j, none⟩ _)
end

set_option maxRecDepth 100000 in
set_option maxHeartbeats 6400000 in
theorem DrawCommonShape_any (v : Value) (n : Nat) (w : World) (h : BytesV w v n) :
    Calls Try.prog 40 #[v] w (RetDrawII w 5 5) := by
  go_enter Try.func40, Try.ntmps40
  go_wp2_with fail
  refine (newReader_any _ n _ h).mono ?_; rintro e w1 ⟨rfl, hR, hb1, hlt⟩
  go_wp2_with fail
  refine (someShape_any _ _ _ _ hR (by omega)).mono ?_; rintro e w2 ⟨u, xs, q, rfl, hl, hI, hu, hq, hR2, hG⟩
  have HB := hid (hb1.trans (Own.below hG (by omega) (fun k e => by injection e with e; omega)))
  obtain ⟨A, c, eu⟩ := hI.1.form
  subst eu
  have hz1 := hG.size
  have HM2 := DMid.start0 hR2
  obtain ⟨g, hg⟩ : ∃ g, g = w.heap.size := ⟨_, rfl⟩
  rw [← hg] at HM2 hI
  have HM2 := hid HM2
  have HI := hid hI
  have hgw : g = w.heap.size ∧ w.heap.size ≤ w2.heap.size := ⟨hg, by omega⟩
  have HGW := hid hgw
  clear hb1 hR hR2 hG hI hu hlt hz1 hgw
  go_upto_region 3 with fail
  rw [← hg]
  clear hg
  go_wp2_with fail
  refine (pick_any _ _ (q) 3 _ HM2.out.rd (by omega) (by omega)).mono ?_; rintro e w3 ⟨r, rfl, hr, hR, hG⟩
  have HM3 := hid (HM2.out.ate hR hG)
  clear hR hG
  have HI3 := hid (HI.out.grown HM3.out.grew)
  have HB3 := hid (HB.out.trans (Own.below HM3.out.grew HGW.out.2 (fun k e => by have := HGW.out.1; injection e with e; omega)))
  by_cases h0 : r = 0
  · have h0i : ((r : Int) == 0) = true := by simp [h0]
    clear h0
    go_wp2_with fail
    refine (someShape_any _ _ _ _ HM3.out.rd (by omega)).mono ?_; rintro e w4 ⟨u2, ys, q2, rfl, hl2, hI2, hu2, hq2, hR4, hG4⟩
    have hsz := HM3.out.grew.size
    have HI4 := hid (HI3.out.grown hG4)
    have HB4 := hid (HB3.out.trans (Own.below hG4 (by have := HGW.out.2; omega) (fun k e => by have := HGW.out.1; injection e with e; omega)))
    have HI5 := hid hI2
    have HL2 := hid hl2
    obtain ⟨A2, c2, eu⟩ := hI2.1.form
    subst eu
    clear hI2 hu2 hR4 hG4 hl2
    go_wp2
    refine bodyPost_ret (v := .tuple #[.slice A xs.length c, .slice A2 ys.length c2]) (by simp [results, Try.results40, go_sem]) rfl ?_
    exact ⟨_, _, xs, ys, rfl, HI4.out.1, HI5.out.1, hl, HL2.out, HB4.out⟩
  have h0i : ((r : Int) == 0) = false := by simp; omega
  clear h0
  go_wp2_with fail
  refine (copyInts_any _ xs _ HI3.out.1 (by omega)).mono ?_; rintro e w4 ⟨v1, rfl, ho, hb⟩
  have hsz := HM3.out.grew.size
  obtain ⟨A1, c1, eu⟩ := ho.form
  subst eu
  have HM4 := hid (DMid.copied HM3.out.rd ho hb)
  have hgw2 : w.heap.size ≤ w3.heap.size := by have := HGW.out.2; omega
  clear ho hb hsz
  go_wp2_with fail
  go_loopg [7] xs.length (fun m' z wr => ∃ (k p : Nat) (ys : List Int), k ≤ xs.length ∧ m' = xs.length - k ∧ z = .int .i64 k ∧ p ≤ 20 + k ∧ Hid (ys.length = xs.length) ∧ DMid g g w3 w3.heap.size wr p (.slice A1 xs.length c1) ys)
  case atStart => exact ⟨0, q + 1, xs, Nat.zero_le _, rfl, rfl, by omega, hid rfl, HM4.out⟩
  case round =>
    obtain ⟨k, p, ys, hk, hm, rfl, hp, HYL, hM⟩ := hrel
    have HM := hid hm
    obtain ⟨w5, rfl⟩ : ∃ w5, w5 = wr := ⟨_, rfl⟩
    have HM5 := hid hM
    clear hm hM HM3 HM2 HM4
    by_cases hlt : k < xs.length
    · have hki : (k : Int) < (xs.length : Int) := by omega
      go_wp2_with fail
      refine (pick_any _ _ (p) 2 _ HM5.out.rd (by omega) (by omega)).mono ?_; rintro e w6 ⟨r1, rfl, hr1, hR, hG⟩
      have HM6 := hid (HM5.out.ate hR hG)
      clear hR hG
      by_cases h0 : r1 = 0
      · have h0i : ((r1 : Int) == 0) = true := by simp [h0]
        clear h0
        obtain ⟨b, cc, e1, -, -⟩ := HM6.out.own.row (by rw [HYL.out]; omega)
        simp only [Value.slice.injEq] at e1
        obtain ⟨rfl, -, -⟩ := e1
        have q0 := HM6.out.own.cell k (by rw [HYL.out]; omega)
        have q1 := HM6.out.own.free k
        have HM7 := hid (HM6.out.put k 1)
        go_wp2
        go_roundg (xs.length - (k + 1))
        case measure => have := HM.out; omega
        case rel => exact ⟨k + 1, p + 1, _, by omega, rfl, by go_num, by omega, hid (by rw [List.length_set]; exact HYL.out), HM7.out⟩
      · have h0i : ((r1 : Int) == 0) = false := by simp; omega
        clear h0
        go_wp2
        go_roundg (xs.length - (k + 1))
        case measure => have := HM.out; omega
        case rel => exact ⟨k + 1, p + 1, ys, by omega, rfl, by go_num, by omega, HYL, HM6.out⟩
    · have hki : ¬ (k : Int) < (xs.length : Int) := by omega
      by_cases hx0 : xs.length = 0
      · have hxi : ¬ (0 : Int) < (xs.length : Int) := by omega
        have hxj : ¬ (xs.length : Int) > 0 := by omega
        have HX0 := hid hx0
        clear hx0
        have HI5 := hid (HI3.out.grown HM5.out.grew)
        have HO5 := hid (by have := HM5.out.own.ints; exact this)
        have HB5 := hid (HB3.out.trans (Own.below HM5.out.grew hgw2 (fun k e => by have := HGW.out.1; injection e with e; omega)))
        go_wp2
        refine bodyPost_ret (v := .tuple #[.slice A xs.length c, .slice A1 xs.length c1]) (by simp [results, Try.results40, go_sem]) rfl ?_
        exact ⟨_, _, xs, ys, rfl, HI5.out.1, HO5.out, hl, by have := HYL.out; omega, HB5.out⟩
      · have hxi : (0 : Int) < (xs.length : Int) := by omega
        have hxj : (xs.length : Int) > 0 := by omega
        go_wp2_with fail
        refine (pick_any _ _ (p) 2 _ HM5.out.rd (by omega) (by omega)).mono ?_; rintro e w6 ⟨r1, rfl, hr1, hR, hG⟩
        have HM6 := hid (HM5.out.ate hR hG)
        clear hR hG
        have HI6 := hid (HI3.out.grown HM6.out.grew)
        have HO6 := hid (by have := HM6.out.own.ints; exact this)
        have HB6 := hid (HB3.out.trans (Own.below HM6.out.grew hgw2 (fun k e => by have := HGW.out.1; injection e with e; omega)))
        by_cases h0 : r1 = 0
        · have h0i : ((r1 : Int) == 0) = true := by simp [h0]
          clear h0
          obtain ⟨b, cc, e1, -, -⟩ := HM6.out.own.row (by rw [HYL.out]; omega)
          simp only [Value.slice.injEq] at e1
          obtain ⟨rfl, -, -⟩ := e1
          have HD1 := hid (fun h : c1 = 1 => HO6.out.dropAll (k := 1) h)
          have HD2 := hid (HO6.out.drop 1 (by omega))
          have HL6 := hid (show (ys.drop 1).length ≤ 5 by rw [List.length_drop]; have := HYL.out; omega)
          go_wp2
          · refine bodyPost_ret (v := .tuple #[.slice A xs.length c, .slice (some ⟨b, 0, none⟩) (xs.length - 1) 0]) (by simp [results, Try.results40, go_sem]) rfl ?_
            exact ⟨_, _, xs, ys.drop 1, rfl, HI6.out.1, HD1.out (by first | assumption | omega), hl, HL6.out, HB6.out⟩
          · refine bodyPost_ret (v := .tuple #[.slice A xs.length c, .slice (some ⟨b, 1, none⟩) (xs.length - 1) (c1 - 1)]) (by simp [results, Try.results40, go_sem]) rfl ?_
            exact ⟨_, _, xs, ys.drop 1, rfl, HI6.out.1, HD2.out, hl, HL6.out, HB6.out⟩
        · have h0i : ((r1 : Int) == 0) = false := by simp; omega
          clear h0
          go_wp2
          refine bodyPost_ret (v := .tuple #[.slice A xs.length c, .slice A1 xs.length c1]) (by simp [results, Try.results40, go_sem]) rfl ?_
          exact ⟨_, _, xs, ys, rfl, HI6.out.1, HO6.out, hl, by have := HYL.out; omega, HB6.out⟩

end Go.Proofs.Ytldblcolnjkcaaa
