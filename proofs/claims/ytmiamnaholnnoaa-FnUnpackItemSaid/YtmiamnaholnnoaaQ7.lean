/- Contract: padding, the program's. No conditions. -/
import Derived.Test.YtmiamnaholnnoaaQ5
import Derived.Test.YtmiamnaholnnoaaHb
import Derived.Deep.Cut
import Derived.Deep.LoopGhost
namespace Go.Proofs.Ytmiamnaholnnoaa
open Go.RowKit

/-- The row of free bytes, with all that was there before it. -/
structure FreeB (w w2 wr : World) (A : Option Addr) (c : Nat) (F : FL) (g n : Nat) (bs : List Bool) : Prop where
  row : OwnB wr w2.heap.size (.slice (some ⟨g, 0, none⟩) n n) bs
  below : Below w2.heap.size w2 wr
  ge : w2.heap.size ≤ g
theorem FreeB.put {w w2 wr : World} {A : Option Addr} {c : Nat} {F : FL} {g n : Nat} {bs : List Bool} (h : FreeB w w2 wr A c F g n bs) (j : Nat) (x : Bool) : FreeB w w2 (wr.setCell ⟨g, j, none⟩ (.bool x)) A c F g n (bs.set j x) :=
  ⟨h.row.put j x, h.below.setCell (p := ⟨g, j, none⟩) h.ge _, h.ge⟩
theorem FreeB.nx {w w2 wr w' : World} {A : Option Addr} {c : Nat} {F : FL} {g n : Nat} {bs : List Bool} (h : FreeB w w2 wr A c F g n bs) (hb : Below wr.heap.size wr w') : FreeB w w2 w' A c F g n bs :=
  ⟨h.row.ext hb, h.below.trans (hb.mono h.below.size), h.ge⟩

set_option maxRecDepth 100000 in
set_option maxHeartbeats 6400000 in
theorem PaddingOf_any (v : Value) (F : FL) (w : World) (hv : FormatV w v F) :
    Calls Try.prog 10 #[v] w (RetOwn w (padL F)) := by
  obtain ⟨A, c, rfl, hk, hm, h0⟩ := hv.form
  have HB := FBox.new h0
  cases hok : isFormatL F
  · have HQ := hid (show padL F = [] by simp [padL, hok])
    go_enter Try.func10, Try.ntmps10
    go_wp2_with fail
    generalize w.alloc (.cells #[.slice A F.sizes.length c, .bool F.big, .bool F.aligned] 25) = W1 at *
    refine (isFormat_any _ F _ HB.format).mono ?_; rintro e w1 ⟨rfl, hb1⟩
    have HB1 := HB.nx hb1
    rw [hok]
    go_wp2
    go_ret
    rw [HQ.out]
    exact ⟨_, rfl, Own.nil _ _, HB1.below⟩
  have HQ := hid (show padL F = padTo (psF F) F.sizes (sizeF F).toNat by simp [padL, hok])
  have hsb := size_bd hok
  have hpl := psF_length hok
  have hin := hid (psF_in hok)
  have hl5 := (isFormat_iff.1 hok).2.1
  obtain ⟨n, hn⟩ : ∃ n : Nat, sizeF F = n := ⟨(sizeF F).toNat, by omega⟩
  have HN := hid hn
  have hnb : n ≤ 38 := by omega
  go_enter Try.func10, Try.ntmps10
  go_wp2_with fail
  generalize w.alloc (.cells #[.slice A F.sizes.length c, .bool F.big, .bool F.aligned] 25) = W1 at *
  refine (isFormat_any _ F _ HB.format).mono ?_; rintro e w1 ⟨rfl, hb1⟩
  have HB1 := HB.nx hb1
  have HOK := hid hok
  rw [hok]
  obtain ⟨⟨q1, q2, q3⟩, r1, r2, r3⟩ := HB1.blk.all3
  go_wp2_with fail
  refine (itemSize_any _ F _ HB1.format HOK.out).mono ?_; rintro e w2 ⟨rfl, hb2⟩
  clear q1 q2 q3 r1 r2 r3
  have HB2 := HB1.nx hb2
  have hz1 := HB1.size
  have hz2 := hb2.size
  have hPL := hid hpl
  rw [hn]
  clear hok HB HB1 h0 hv hb1 hb2 hn
  go_wp2_with (at_make; refine mkB _ rfl _ _ rfl n rfl rfl (by omega) ?_)
  intro w3 hR3 hb3 hz3
  rw [← tf_zero] at hR3
  have hF3 : FreeB w w2 w3 A c F w2.heap.size n (tf n 0) := ⟨hR3, hb3, Nat.le_refl _⟩
  generalize hG : w2.heap.size = G at hF3 ⊢
  have HG := hid hG
  clear hR3 hb3 hG
  go_upto_region 5 with fail
  go_loopg [19] n (fun g i wr => ∃ k : Nat, k ≤ n ∧ g = n - k ∧ i = .int .i64 k ∧ FreeB w w2 wr A c F G n (tf n k))
  case atStart => exact ⟨0, Nat.zero_le _, rfl, rfl, hF3⟩
  case round =>
    obtain ⟨k, hk1, rfl, rfl, hF⟩ := hrel
    by_cases hlt : k < n
    · have hx := hF.row.cell k (by rw [tf_length]; exact hlt)
      have hf := hF.row.free k
      have HF2 := hid (hF.put k true)
      rw [tf_put] at HF2
      clear hF hF3
      go_wp2
      go_roundg (n - (k + 1))
      case rel => exact ⟨k + 1, by omega, rfl, by go_num, HF2.out⟩
      case measure => omega
    · obtain rfl : n = k := by omega
      rw [tf_all, ← freeL_zero (psF F) F.sizes] at hF
      have HBr := HB2.nx hF.below
      obtain ⟨⟨q1, q2, q3⟩, r1, r2, r3⟩ := HBr.blk.all3
      go_wp2_with fail
      refine (placesOf_any _ F _ HBr.format HOK.out).mono ?_; rintro e w4 ⟨v1, rfl, hP, hb4⟩
      clear q1 q2 q3 r1 r2 r3
      have HB4 := HBr.nx hb4
      have hF4 := hF.nx hb4
      obtain ⟨A1, c1, e1⟩ := hP.form
      subst e1
      have hGM : G < wr.heap.size := (hF.row.lt G rfl).2
      have hGz := HG.out
      generalize wr.heap.size = M at hP hGM
      clear hF hF3 HBr hb4 HB4 hnb
      go_upto_region 10 with fail
      go_loopg [29] F.sizes.length (fun g i wr => ∃ k : Nat, k ≤ F.sizes.length ∧ g = F.sizes.length - k ∧ i = .int .i64 k ∧ FreeB w w2 wr A c F G n (freeL (psF F) F.sizes n k 0) ∧ Own wr M (.slice A1 (psF F).length c1) (psF F))
      case atStart => exact ⟨0, Nat.zero_le _, rfl, rfl, hF4, hP⟩
      case round =>
        obtain ⟨k, hk1, rfl, rfl, hF, hP5⟩ := hrel
        clear hF4 hP
        have HBr := HB2.nx hF.below
        by_cases hlt : k < F.sizes.length
        · have hlp : k < (psF F).length := by rw [hPL.out]; exact hlt
          have hsx := HBr.elem k hlt
          have hpx := hP5.ints.elem k hlp
          have hbd := hin.out k hlt
          have e1 : (psF F).getD k 0 = (psF F)[k] := by simp [hlp]
          rw [e1] at hbd
          obtain ⟨s, hs⟩ : ∃ s : Nat, F.sizes[k] = s := ⟨F.sizes[k].toNat, by omega⟩
          obtain ⟨p, hp⟩ : ∃ p : Nat, (psF F)[k] = p := ⟨((psF F)[k]).toNat, by omega⟩
          rw [hs] at hsx hbd
          rw [hp] at hpx hbd
          have HNX := hid (freeL_next (P := psF F) (xs := F.sizes) (n := n) (k := k) (s := s) (by simp [hlt, hs]))
          have HPT := hid (fun j : Nat => freeL_put (P := psF F) (xs := F.sizes) (n := n) (k := k) (j := j) (p := p + j) (by rw [e1, hp]; simp))
          have hpn : p + s ≤ n := by have := HN.out; omega
          have hn38 : n ≤ 38 := by have := HN.out; omega
          clear hs hp e1
          obtain ⟨b, off, rfl, hx⟩ := hsx
          obtain ⟨b1, off1, rfl, hy⟩ := hpx
          obtain ⟨⟨q1, q2, q3⟩, r1, r2, r3⟩ := HBr.blk.all3
          go_upto_region 13 with fail
          go_loopg [39] s (fun g i wr => ∃ j : Nat, j ≤ s ∧ g = s - j ∧ i = .int .i64 j ∧ FreeB w w2 wr (some ⟨b, off, none⟩) c F G n (freeL (psF F) F.sizes n k j) ∧ Own wr M (.slice (some ⟨b1, off1, none⟩) (psF F).length c1) (psF F))
          case atStart => exact ⟨0, Nat.zero_le _, rfl, rfl, hF, hP5⟩
          case round =>
            obtain ⟨j, hj1, rfl, rfl, hF6, hP6⟩ := hrel
            clear hF hP5 q1 q2 q3 r1 r2 r3 hx hy
            by_cases hlt2 : j < s
            · have hx := hF6.row.cell (p + j) (by rw [freeL_length]; omega)
              have hf := hF6.row.free (p + j)
              have HF7 := hid (hF6.put (p + j) false)
              rw [HPT.out] at HF7
              have HP7 := hid (hP6.far (p := ⟨G, p + j, none⟩) hGM (.bool false))
              have hw1 : IntKind.i64.wrap ((p : Int) + (j : Int)) = (p : Int) + (j : Int) := IntWalk.i64_in _ (by omega)
              have htn : ((p : Int) + (j : Int)).toNat = p + j := by omega
              have h0i : (0 : Int) ≤ (p : Int) + (j : Int) := by omega
              have hni : (p : Int) + (j : Int) < (n : Int) := by omega
              clear hF6 hP6
              go_wp2
              go_roundg (s - (j + 1))
              case rel => exact ⟨j + 1, by omega, rfl, by go_num, HF7.out, HP7.out⟩
              case measure => omega
            · obtain rfl : s = j := by omega
              rw [HNX.out] at hF6
              have HF6 := hid hF6
              have HP6 := hid hP6
              clear hF6 hP6
              go_wp2
              go_roundg (F.sizes.length - (k + 1))
              case rel => exact ⟨k + 1, by omega, rfl, by go_num, HF6.out, HP6.out⟩
              case measure => omega
        · obtain rfl : F.sizes.length = k := by omega
          have hbx := HBr.below
          have hF5 := hF
          have hzM := hF.row.lt G rfl
          obtain ⟨w5, rfl⟩ : ∃ w5 : World, w5 = wr := ⟨_, rfl⟩
          clear hP5 HBr hF
          go_upto_region 20 with fail
          have hw0 := hz1
          go_loopg [8, 52] n (fun g out i wr => ∃ k : Nat, k ≤ n ∧ g = n - k ∧ i = .int .i64 k ∧ Own wr w5.heap.size out (padTo (psF F) F.sizes k) ∧ Below w5.heap.size w5 wr)
          case atStart => exact ⟨0, Nat.zero_le _, rfl, rfl, Own.empty w5 rfl (Nat.le_refl _), below_alloc w5 _⟩
          case round =>
            obtain ⟨k, hk2, rfl, rfl, hown, hbw⟩ := hrel
            have HO := hid hown
            by_cases hlt2 : k < n
            · have HIN := hid (padTo_in (P := psF F) (xs := F.sizes) (n := k))
              have HOUT := hid (padTo_out (P := psF F) (xs := F.sizes) (n := k))
              have hn38 : n ≤ 38 := by have := HN.out; omega
              have HL1 := hid (show (padTo (psF F) F.sizes k).length ≤ 1000000000000 by have := padTo_length (psF F) F.sizes k; omega)
              have hx := (hF5.nx hbw).row.cell k (by rw [freeL_length]; exact hlt2)
              have hat := freeL_at (P := psF F) (xs := F.sizes) (n := n) (k := F.sizes.length) hlt2
              rw [List.getElem?_eq_getElem (by rw [freeL_length]; exact hlt2)] at hat
              rw [Option.some.inj hat] at hx
              have hsz1 := hbw.size
              clear hat hown
              cases hmt : inFieldB (psF F) F.sizes k F.sizes.length
              · have HE := hid (HOUT.out hmt)
                rw [hmt] at hx
                clear hmt
                go_wp2_with (at_builtin; refine app1 _ rfl _ _ rfl w5.heap.size _ (padTo (psF F) F.sizes k) rfl (HO.out.alloc _) ⟨wr.heap.size, 0, none⟩ 1 k rfl (cell_new1 _ _ _) HL1.out (le_alloc hsz1 _) ?_)
                intro v1 w1 ho1 hg1 hat1
                have hq := hbw.trans (((below_alloc wr (.cells #[.int .i64 k] 3)).mono hsz1).trans ((HO.out.alloc _).under hg1 (le_alloc hsz1 _)))
                have HAT := hid hat1
                clear hat1 hg1 hx
                go_wp2
                go_roundg (n - (k + 1))
                case rel => exact ⟨k + 1, by omega, rfl, by go_num, by rw [HE.out]; exact ho1, hq⟩
                case measure => omega
              · have HE := hid (HIN.out hmt)
                rw [hmt] at hx
                clear hmt
                go_wp2
                go_roundg (n - (k + 1))
                case rel => exact ⟨k + 1, by omega, rfl, by go_num, by rw [HE.out]; exact HO.out, hbw⟩
                case measure => omega
            · obtain rfl : n = k := by omega
              have HR := hid (show padTo (psF F) F.sizes n = padL F by rw [HQ.out, HN.out]; rfl)
              clear hown
              go_wp2
              go_ret
              exact ⟨_, rfl, by rw [← HR.out]; exact HO.out.mono (by omega), hbx.trans (hbw.mono (by omega))⟩

end Go.Proofs.Ytmiamnaholnnoaa
