/- Contract: UnpackAll, the reference's. No conditions. (printed by mkua.py) -/
import Derived.Test.YtmiamnaholnnoaaUA1
import Derived.Test.YtmiamnaholnnoaaLA
import Derived.Test.YtmiamnaholnnoaaR2
import Derived.Test.YtmiamnaholnnoaaR3
import Derived.Test.YtmiamnaholnnoaaUA2
namespace Go.Proofs.Ytmiamnaholnnoaa
open Go.RowKit

set_option maxRecDepth 100000 in
set_option maxHeartbeats 6400000 in
theorem sUnpackAll_any (v vb : Value) (F : FL) (bs : List Int) (w : World) (hv : FormatV w v F) (hbs : Ints w vb bs) :
    Calls Try.prog 31 #[v, vb] w (RetListsB w (unpackAllL F bs) (okUA F bs)) := by
  obtain ⟨A, c, rfl, hk, hm, h0⟩ := hv.form
  have hbs0 := hbs
  obtain ⟨Ab, cb, rfl, hkb, hmb, hb3⟩ := hbs
  unfold maxLen at hmb
  have HB := FBox.new h0
  cases hok : isFormatL F
  · have HOK := hid hok
    have HQ := hid (show unpackAllL F bs = [] ∧ okUA F bs = false by
      have h : okUA F bs = false := by simp [okUA, hok]
      exact ⟨by simp [unpackAllL, h], h⟩)
    clear hok
    go_enter Try.func31, Try.ntmps31
    go_wp2_with fail
    generalize w.alloc (.cells #[.slice A F.sizes.length c, .bool F.big, .bool F.aligned] 25) = W1 at *
    refine (validFormat_any _ F _ HB.format).mono ?_; rintro e w1 ⟨rfl, hb1⟩
    have HB1 := HB.nx hb1
    rw [HOK.out]
    obtain ⟨⟨q1, q2, q3⟩, r1, r2, r3⟩ := HB1.blk.all3
    have hb := HB1.below
    go_wp2
    refine bodyPost_ret (v := .tuple #[.slice none 0 0, .bool false]) (by simp [results, Try.results31, go_sem]) rfl ?_
    rw [HQ.out.1, HQ.out.2]
    exact ⟨_, _, rfl, OwnL.nil _ _, hb⟩
  have HOK := hid hok
  have hsb := size_bd hok
  obtain ⟨n, hn⟩ : ∃ n : Nat, sizeF F = n := ⟨(sizeF F).toNat, by omega⟩
  have HN := hid hn
  have hn0 : 0 < n ∧ n ≤ 38 := by omega
  have hnz : ¬ n = 0 := by omega
  cases hme : isMemL bs
  · have HME := hid hme
    have HQ := hid (show unpackAllL F bs = [] ∧ okUA F bs = false by
      have h : okUA F bs = false := by simp [okUA, hme]
      exact ⟨by simp [unpackAllL, h], h⟩)
    clear hok hme hn
    go_enter Try.func31, Try.ntmps31
    go_wp2_with fail
    generalize w.alloc (.cells #[.slice A F.sizes.length c, .bool F.big, .bool F.aligned] 25) = W1 at *
    refine (validFormat_any _ F _ HB.format).mono ?_; rintro e w1 ⟨rfl, hb1⟩
    have HB1 := HB.nx hb1
    rw [HOK.out]
    obtain ⟨⟨q1, q2, q3⟩, r1, r2, r3⟩ := HB1.blk.all3
    go_wp2_with fail
    refine (validMemory_anyM _ bs _ (hbs0.ext HB1.below)).mono ?_; rintro e w' ⟨rfl, rfl⟩
    rw [HME.out]
    have hb := HB1.below
    go_wp2
    refine bodyPost_ret (v := .tuple #[.slice none 0 0, .bool false]) (by simp [results, Try.results31, go_sem]) rfl ?_
    rw [HQ.out.1, HQ.out.2]
    exact ⟨_, _, rfl, OwnL.nil _ _, hb⟩
  have HME := hid hme
  have hmem := hme
  have hl60 : ¬ 60 < bs.length := by simp [isMemL] at hmem; omega
  clear hme
  have hmm : ((bs.length : Int) % (n : Int)) = ((bs.length % n : Nat) : Int) := by omega
  by_cases hmod : bs.length % n = 0
  case neg =>
    have HQ := hid (show unpackAllL F bs = [] ∧ okUA F bs = false by
      have h : okUA F bs = false := by rw [show okUA F bs = (isFormatL F && isMemL bs && decide (bs.length % (sizeF F).toNat = 0)) from rfl, hn]; simp [hmod]
      exact ⟨by simp [unpackAllL, h], h⟩)
    have hne : (((bs.length : Int) % (n : Int)) != 0) = true := by rw [hmm]; simp; omega
    clear hmm
    clear hok hmem hn hmod
    go_enter Try.func31, Try.ntmps31
    go_wp2_with fail
    generalize w.alloc (.cells #[.slice A F.sizes.length c, .bool F.big, .bool F.aligned] 25) = W1 at *
    refine (validFormat_any _ F _ HB.format).mono ?_; rintro e w1 ⟨rfl, hb1⟩
    have HB1 := HB.nx hb1
    rw [HOK.out]
    obtain ⟨⟨q1, q2, q3⟩, r1, r2, r3⟩ := HB1.blk.all3
    go_wp2_with fail
    refine (validMemory_anyM _ bs _ (hbs0.ext HB1.below)).mono ?_; rintro e w' ⟨rfl, rfl⟩
    rw [HME.out]
    go_wp2_with fail
    refine (sItemSize_any _ F _ HB1.format HOK.out).mono ?_; rintro e w2 ⟨rfl, hb2⟩
    have HB2 := HB1.nx hb2
    rw [HN.out]
    clear q1 q2 q3 r1 r2 r3
    have hb := HB2.below
    go_wp2
    refine bodyPost_ret (v := .tuple #[.slice none 0 0, .bool false]) (by simp [results, Try.results31, go_sem]) rfl ?_
    rw [HQ.out.1, HQ.out.2]
    exact ⟨_, _, rfl, OwnL.nil _ _, hb⟩
  have hok3 : okUA F bs = true := by rw [show okUA F bs = (isFormatL F && isMemL bs && decide (bs.length % (sizeF F).toNat = 0)) from rfl, hn]; simp [hok, hmem, hmod]
  have HQ := hid (show unpackAllL F bs = itemsTo F bs n (bs.length / n) ∧ okUA F bs = true from ⟨by unfold unpackAllL; rw [hok3, hn]; rfl, hok3⟩)
  have HB255 := hid (show ∀ b ∈ bs, 0 ≤ b ∧ b ≤ 255 from fun b hb => by
    have h : bs.all (inR · 0 255) = true := by unfold isMemL at hmem; simp only [Bool.and_eq_true] at hmem; exact hmem.2
    exact inR_iff.1 (List.all_eq_true.1 h b hb))
  have hne : (((bs.length : Int) % (n : Int)) != 0) = false := by rw [hmm, hmod]; rfl
  clear hmm
  obtain ⟨m, hm1⟩ : ∃ m, m = bs.length / n := ⟨_, rfl⟩
  have hlm : bs.length = m * n := by rw [hm1]; exact (Nat.div_mul_cancel (Nat.dvd_of_mod_eq_zero hmod)).symm
  have HLM := hid hlm
  have HM1 := hid hm1
  have hm60 : m ≤ 60 := by rw [hm1]; exact Nat.le_trans (Nat.div_le_self _ _) (by omega)
  clear hok hmem hmod hok3 hlm hm1 hn
  go_enter Try.func31, Try.ntmps31
  go_wp2_with fail
  generalize w.alloc (.cells #[.slice A F.sizes.length c, .bool F.big, .bool F.aligned] 25) = W1 at *
  refine (validFormat_any _ F _ HB.format).mono ?_; rintro e w1 ⟨rfl, hb1⟩
  have HB1 := HB.nx hb1
  rw [HOK.out]
  obtain ⟨⟨q1, q2, q3⟩, r1, r2, r3⟩ := HB1.blk.all3
  go_wp2_with fail
  refine (validMemory_anyM _ bs _ (hbs0.ext HB1.below)).mono ?_; rintro e w' ⟨rfl, rfl⟩
  rw [HME.out]
  go_wp2_with fail
  refine (sItemSize_any _ F _ HB1.format HOK.out).mono ?_; rintro e w2 ⟨rfl, hb2⟩
  have HB2 := HB1.nx hb2
  rw [HN.out]
  clear q1 q2 q3 r1 r2 r3
  obtain ⟨⟨q1, q2, q3⟩, r1, r2, r3⟩ := HB2.blk.all3
  have hlit := OwnL.empty w2
  have HBL := HB2.nx (below_alloc w2 (.cells #[] 23))
  obtain ⟨⟨l1, l2, l3⟩, l4, l5, l6⟩ := HBL.blk.all3
  go_wp2_with fail
  clear q1 q2 q3 r1 r2 r3 l1 l2 l3 l4 l5 l6
  refine (sItemSize_any _ F _ HBL.format HOK.out).mono ?_; rintro e w5 ⟨rfl, hb5⟩
  rw [HN.out]
  have hl5 := hlit.ext hb5
  have hbl5 := (below_alloc w2 (.cells #[] 23)).trans (hb5.mono (by simp))
  have hz1 := HB1.size
  have hz2 := hb2.size
  go_upto_region 6 with fail
  go_loopg [6, 8] m (fun g out at_ wr => ∃ (k p : Nat) (us : List Value), k ≤ m ∧ g = m - k ∧ p = k * n ∧ p ≤ bs.length ∧ at_ = .int .i64 p ∧ OwnL wr w2.heap.size out us (itemsTo F bs n k) ∧ Below w2.heap.size w2 wr)
  case atStart => exact ⟨0, 0, [], Nat.zero_le _, rfl, by simp, Nat.zero_le _, rfl, hl5, hbl5⟩
  case round =>
    obtain ⟨k, p, us, hk1, rfl, hp, hpl, rfl, hown, hbw⟩ := hrel
    have HBr := HB2.nx hbw
    have hsz := hbw.size
    by_cases hlt : k < m
    · have hpn : p + n ≤ bs.length := by rw [hp, HLM.out, ← Nat.succ_mul]; exact Nat.mul_le_mul_right n hlt
      have cpl : p < bs.length := by omega
      have HP1 := hid (show p + n = (k + 1) * n by rw [hp, Nat.succ_mul])
      obtain ⟨bb, bo, rfl, -, -⟩ := hb3 (by omega)
      have HS := hid (itemsTo_succ F bs n k)
      rw [← hp] at HS
      have HFL := hid (fieldL_length (bs := bs) (p := p) (s := n) hpn)
      have HFB := hid (show ∀ b ∈ fieldL bs p n, 0 ≤ b ∧ b ≤ 255 from fun b h => HB255.out b (List.mem_of_mem_drop (List.mem_of_mem_take h)))
      have HBS := hid (fun (W : World) (h : Below w.heap.size w W) => fieldL_ints (hbs0.ext h) hpn)
      have HLN := hid (show (itemsTo F bs n k).length ≤ 1000000000 by rw [itemsTo_length]; omega)
      have HO := hid hown
      obtain ⟨Y, hY⟩ : ∃ Y, Y = unpackL F (fieldL bs p n) := ⟨_, rfl⟩
      have HY := hid hY
      rw [← hY] at HS
      have hw1 : IntKind.i64.wrap ((p : Int) + (n : Int)) = (p : Int) + (n : Int) := IntWalk.i64_in _ (by omega)
      have htn : ((p : Int) + (n : Int)).toNat = p + n := by omega
      have hps0 : (0 : Int) ≤ (p : Int) + (n : Int) := by omega
      have hps1 : (p : Int) + (n : Int) ≤ (cb : Int) := by omega
      have hps2 : (p : Int) ≤ (p : Int) + (n : Int) := by omega
      have hps3 : ¬ cb = p := by omega
      clear hY hp hown
      obtain ⟨⟨q1, q2, q3⟩, r1, r2, r3⟩ := HBr.blk.all3
      go_upto_region 8 with fail
      have qb := fun x : ExtW wr => (HBr.nx x.h).blk.all3.1
      have HFx := hid (fun x : ExtW wr => (HBr.nx x.h).format)
      clear q1 q2 q3 r1 r2 r3
      refine region_mk 10 (by kernel_rfl) (by kernel_rfl) ?_
      apply Exists.intro
      simp only [List.take_succ_cons, List.take_zero, List.drop_succ_cons, List.drop_zero]
      repeat (first
        | (apply grow_val (by rfl); (focus (intro x; (go_simp; try with_reducible rfl); done)); simp only [Act.put, List.setIfInBounds_toArray, List.set_cons_zero, List.set_cons_succ])
        | (apply grow_skip (by rfl); simp only [Act.put, List.setIfInBounds_toArray, List.set_cons_zero, List.set_cons_succ]))
      apply grow_ints (Y) (by rfl)
      · intro x hF K Q hK
        go_simp
        (go_at_call 56; refine (unpacked_any _ _ F (fieldL bs p n) _ (HFx.out x) (HBS.out _ (HBr.nx x.h).below) HOK.out (by rw [HFL.out, HN.out]) HFB.out).mono ?_; rintro e w' ⟨v', rfl, ho, hb⟩; exact hK _ _ hb (by rw [HY.out]; exact ho))
      intro A8 c8 F8 O8 hF8 hO8
      simp only [Act.put, List.setIfInBounds_toArray, List.set_cons_zero, List.set_cons_succ]
      repeat (first
        | (apply grow_val (by rfl); (focus (intro x; (go_simp; try with_reducible rfl); done)); simp only [Act.put, List.setIfInBounds_toArray, List.set_cons_zero, List.set_cons_succ])
        | (apply grow_skip (by rfl); simp only [Act.put, List.setIfInBounds_toArray, List.set_cons_zero, List.set_cons_succ]))
      apply grow_litR (.tmp 43) A8 Y.length c8 rfl (by rfl) (by rfl) (by rfl)
      intro g9 hg9 F9 O9 hF9 hO9
      simp only [Act.put, List.setIfInBounds_toArray, List.set_cons_zero, List.set_cons_succ]
      refine grow_nil ?_
      rintro ⟨w5, hb5⟩ hF hS
      have h9 := hF8 _ (hF 8 (by omega))
      have h10 := hF9 _ (hF 9 (by omega))
      have hb5 : Below wr.heap.size wr w5 := hb5
      have hO5 := HO.out.ext hb5
      have hbw5 := hbw.trans (hb5.mono hsz)
      have hs1 := Seg.sep HO.out.seg.1 h9.seg (Nat.le_refl _)
      have hs2 : ∀ (j : Nat) (u' : Value), us[j]? = some u' → Sep u' (.slice A8 Y.length c8) := fun j u' hu' => Seg.sep (HO.out.seg.2 u' (List.mem_of_getElem? hu')) h9.seg (Nat.le_refl _)
      have H9 := hid (h9.mono hsz)
      have HS1 := hid hs1
      have HS2 := hid hs2
      have H10 := hid h10.1
      have HO5 := hid hO5
      have hsz5 := hbw5.size
      clear hF hS hF8 hO8 hF9 hO9 qb HFx h9 h10 hs1 hs2 hO5
      go_wp2_with (at_builtin; refine appL _ rfl _ _ rfl w2.heap.size _ us (itemsTo F bs n k) rfl HO5.out ⟨g9, 0, none⟩ 1 A8 Y.length c8 Y rfl H10.out H9.out HS1.out HS2.out HLN.out hsz5 ?_)
      intro v6 w6 ho6 hg6 hat6
      rw [← HS.out] at ho6
      have hq := hbw5.trans (HO5.out.under hg6 hsz5)
      have HO6 := hid ho6
      have HA6 := hid hat6
      clear hat6 hg6 ho6
      go_wp2
      go_roundg (m - (k + 1))
      case rel => exact ⟨k + 1, p + n, _, by omega, rfl, HP1.out, hpn, by go_num, HO6.out, hq⟩
      case measure => omega
    · obtain rfl : m = k := by omega
      have HO := hid hown
      have hb := HBr.below
      have hpe : p = bs.length := by rw [hp, HLM.out]
      subst hpe
      rw [← HM1.out] at HQ
      clear hown hp
      go_wp2
      refine bodyPost_ret (v := .tuple #[u6, .bool true]) (by simp [results, Try.results31, go_sem]) rfl ?_
      rw [HQ.out.1, HQ.out.2]
      exact ⟨_, _, rfl, HO.out.mono (by omega), hb⟩

end Go.Proofs.Ytmiamnaholnnoaa
