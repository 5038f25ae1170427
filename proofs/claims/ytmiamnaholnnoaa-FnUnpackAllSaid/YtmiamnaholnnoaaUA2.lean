/- Contract: UnpackAll. No conditions. (printed by mkua.py) -/
import Derived.Test.YtmiamnaholnnoaaUA1
import Derived.Test.YtmiamnaholnnoaaLA
import Derived.Test.YtmiamnaholnnoaaR2
import Derived.Test.YtmiamnaholnnoaaR3
import Derived.Test.YtmiamnaholnnoaaKM
namespace Go.Proofs.Ytmiamnaholnnoaa
open Go.RowKit

/-- What a function that returns new lists and a bool leaves. -/
def RetListsB (w : World) (xss : List (List Int)) (b : Bool) (e : Ending) (w' : World) : Prop := ∃ v us, e = .returned (.tuple #[v, .bool b]) ∧ OwnL w' w.heap.size v us xss ∧ Below w.heap.size w w'
set_option maxRecDepth 100000 in
set_option maxHeartbeats 6400000 in
theorem UnpackAll_any (v vb : Value) (F : FL) (bs : List Int) (w : World) (hv : FormatV w v F) (hbs : Ints w vb bs) :
    Calls Try.prog 28 #[v, vb] w (RetListsB w (unpackAllL F bs) (okUA F bs)) := by
  obtain ⟨A, c, rfl, hk, hm, h0⟩ := hv.form
  have hbs0 := hbs
  obtain ⟨Ab, cb, rfl, hkb, hmb, hb3⟩ := hbs
  unfold maxLen at hmb
  have HB := FBox.new h0
  cases hok : isFormatL F
  · have HOK := hid hok
    have HQ := hid (show unpackAllL F bs = [] ∧ okUA F bs = false by
      have h : okUA F bs = false := by simp [okUA, hok]
      exact ⟨by simp [unpackAllL, h], h⟩)
    clear hok
    go_enter Try.func28, Try.ntmps28
    go_wp2_with fail
    generalize w.alloc (.cells #[.slice A F.sizes.length c, .bool F.big, .bool F.aligned] 25) = W1 at *
    refine (isFormat_any _ F _ HB.format).mono ?_; rintro e w1 ⟨rfl, hb1⟩
    have HB1 := HB.nx hb1
    rw [HOK.out]
    obtain ⟨⟨q1, q2, q3⟩, r1, r2, r3⟩ := HB1.blk.all3
    have hb := HB1.below
    go_wp2
    refine bodyPost_ret (v := .tuple #[.slice none 0 0, .bool false]) (by simp [results, Try.results28, go_sem]) rfl ?_
    rw [HQ.out.1, HQ.out.2]
    exact ⟨_, _, rfl, OwnL.nil _ _, hb⟩
  have HOK := hid hok
  have hsb := size_bd hok
  obtain ⟨n, hn⟩ : ∃ n : Nat, sizeF F = n := ⟨(sizeF F).toNat, by omega⟩
  have HN := hid hn
  have hn0 : 0 < n ∧ n ≤ 38 := by omega
  have hnz : ¬ n = 0 := by omega
  by_cases hl60 : 60 < bs.length
  · have HQ := hid (show unpackAllL F bs = [] ∧ okUA F bs = false by
      have h : okUA F bs = false := by (have hz : isMemL bs = false := (by simp [isMemL]; omega)); simp [okUA, hz]
      exact ⟨by simp [unpackAllL, h], h⟩)
    clear hok hn
    go_enter Try.func28, Try.ntmps28
    go_wp2_with fail
    generalize w.alloc (.cells #[.slice A F.sizes.length c, .bool F.big, .bool F.aligned] 25) = W1 at *
    refine (isFormat_any _ F _ HB.format).mono ?_; rintro e w1 ⟨rfl, hb1⟩
    have HB1 := HB.nx hb1
    rw [HOK.out]
    obtain ⟨⟨q1, q2, q3⟩, r1, r2, r3⟩ := HB1.blk.all3
    have hb := HB1.below
    go_wp2
    refine bodyPost_ret (v := .tuple #[.slice none 0 0, .bool false]) (by simp [results, Try.results28, go_sem]) rfl ?_
    rw [HQ.out.1, HQ.out.2]
    exact ⟨_, _, rfl, OwnL.nil _ _, hb⟩
  have c60 : decide (60 < (bs.length : Int)) = false := by simp; omega
  cases hme : bs.all isByte
  · have HME := hid hme
    have HQ := hid (show unpackAllL F bs = [] ∧ okUA F bs = false by
      have h : okUA F bs = false := by (have hz : isMemL bs = false := (by unfold isMemL; rw [show (bs.all (inR · 0 255)) = bs.all isByte from rfl, hme]; simp)); simp [okUA, hz]
      exact ⟨by simp [unpackAllL, h], h⟩)
    clear hok hme hn
    go_enter Try.func28, Try.ntmps28
    go_wp2_with fail
    generalize w.alloc (.cells #[.slice A F.sizes.length c, .bool F.big, .bool F.aligned] 25) = W1 at *
    refine (isFormat_any _ F _ HB.format).mono ?_; rintro e w1 ⟨rfl, hb1⟩
    have HB1 := HB.nx hb1
    rw [HOK.out]
    obtain ⟨⟨q1, q2, q3⟩, r1, r2, r3⟩ := HB1.blk.all3
    go_wp2_with fail
    refine (areBytes_any _ bs _ (hbs0.ext HB1.below)).mono ?_; rintro e w' ⟨rfl, rfl⟩
    rw [HME.out]
    have hb := HB1.below
    go_wp2
    refine bodyPost_ret (v := .tuple #[.slice none 0 0, .bool false]) (by simp [results, Try.results28, go_sem]) rfl ?_
    rw [HQ.out.1, HQ.out.2]
    exact ⟨_, _, rfl, OwnL.nil _ _, hb⟩
  have HME := hid hme
  have hmem : isMemL bs = true := by unfold isMemL; rw [show (bs.all (inR · 0 255)) = bs.all isByte from rfl, hme]; simp; omega
  clear hme
  have hmm : ((bs.length : Int) % (n : Int)) = ((bs.length % n : Nat) : Int) := by omega
  by_cases hmod : bs.length % n = 0
  case neg =>
    have HQ := hid (show unpackAllL F bs = [] ∧ okUA F bs = false by
      have h : okUA F bs = false := by rw [show okUA F bs = (isFormatL F && isMemL bs && decide (bs.length % (sizeF F).toNat = 0)) from rfl, hn]; simp [hmod]
      exact ⟨by simp [unpackAllL, h], h⟩)
    have hne : (((bs.length : Int) % (n : Int)) != 0) = true := by rw [hmm]; simp; omega
    clear hmm
    clear hok hmem hn hmod
    go_enter Try.func28, Try.ntmps28
    go_wp2_with fail
    generalize w.alloc (.cells #[.slice A F.sizes.length c, .bool F.big, .bool F.aligned] 25) = W1 at *
    refine (isFormat_any _ F _ HB.format).mono ?_; rintro e w1 ⟨rfl, hb1⟩
    have HB1 := HB.nx hb1
    rw [HOK.out]
    obtain ⟨⟨q1, q2, q3⟩, r1, r2, r3⟩ := HB1.blk.all3
    go_wp2_with fail
    refine (areBytes_any _ bs _ (hbs0.ext HB1.below)).mono ?_; rintro e w' ⟨rfl, rfl⟩
    rw [HME.out]
    go_wp2_with fail
    refine (itemSize_any _ F _ HB1.format HOK.out).mono ?_; rintro e w2 ⟨rfl, hb2⟩
    have HB2 := HB1.nx hb2
    rw [HN.out]
    clear q1 q2 q3 r1 r2 r3
    have hb := HB2.below
    go_wp2
    refine bodyPost_ret (v := .tuple #[.slice none 0 0, .bool false]) (by simp [results, Try.results28, go_sem]) rfl ?_
    rw [HQ.out.1, HQ.out.2]
    exact ⟨_, _, rfl, OwnL.nil _ _, hb⟩
  have hok3 : okUA F bs = true := by rw [show okUA F bs = (isFormatL F && isMemL bs && decide (bs.length % (sizeF F).toNat = 0)) from rfl, hn]; simp [hok, hmem, hmod]
  have HQ := hid (show unpackAllL F bs = itemsTo F bs n (bs.length / n) ∧ okUA F bs = true from ⟨by unfold unpackAllL; rw [hok3, hn]; rfl, hok3⟩)
  have HB255 := hid (show ∀ b ∈ bs, 0 ≤ b ∧ b ≤ 255 from fun b hb => by
    have h : bs.all (inR · 0 255) = true := by unfold isMemL at hmem; simp only [Bool.and_eq_true] at hmem; exact hmem.2
    exact inR_iff.1 (List.all_eq_true.1 h b hb))
  have hne : (((bs.length : Int) % (n : Int)) != 0) = false := by rw [hmm, hmod]; rfl
  clear hmm
  obtain ⟨m, hm1⟩ : ∃ m, m = bs.length / n := ⟨_, rfl⟩
  have hlm : bs.length = m * n := by rw [hm1]; exact (Nat.div_mul_cancel (Nat.dvd_of_mod_eq_zero hmod)).symm
  have HLM := hid hlm
  have HM1 := hid hm1
  have hm60 : m ≤ 60 := by rw [hm1]; exact Nat.le_trans (Nat.div_le_self _ _) (by omega)
  clear hok hmem hmod hok3 hlm hm1 hn
  go_enter Try.func28, Try.ntmps28
  go_wp2_with fail
  generalize w.alloc (.cells #[.slice A F.sizes.length c, .bool F.big, .bool F.aligned] 25) = W1 at *
  refine (isFormat_any _ F _ HB.format).mono ?_; rintro e w1 ⟨rfl, hb1⟩
  have HB1 := HB.nx hb1
  rw [HOK.out]
  obtain ⟨⟨q1, q2, q3⟩, r1, r2, r3⟩ := HB1.blk.all3
  go_wp2_with fail
  refine (areBytes_any _ bs _ (hbs0.ext HB1.below)).mono ?_; rintro e w' ⟨rfl, rfl⟩
  rw [HME.out]
  go_wp2_with fail
  refine (itemSize_any _ F _ HB1.format HOK.out).mono ?_; rintro e w2 ⟨rfl, hb2⟩
  have HB2 := HB1.nx hb2
  rw [HN.out]
  clear q1 q2 q3 r1 r2 r3
  have hz1 := HB1.size
  have hz2 := hb2.size
  go_upto_region 5 with fail
  go_loopg [6, 7] m (fun g out at_ wr => ∃ (k p : Nat) (us : List Value), k ≤ m ∧ g = m - k ∧ p = k * n ∧ p ≤ bs.length ∧ at_ = .int .i64 p ∧ OwnL wr w2.heap.size out us (itemsTo F bs n k) ∧ Below w2.heap.size w2 wr)
  case atStart => exact ⟨0, 0, [], Nat.zero_le _, rfl, by simp, Nat.zero_le _, rfl, OwnL.empty w2, below_alloc w2 _⟩
  case round =>
    obtain ⟨k, p, us, hk1, rfl, hp, hpl, rfl, hown, hbw⟩ := hrel
    have HBr := HB2.nx hbw
    have hsz := hbw.size
    by_cases hlt : k < m
    · have hpn : p + n ≤ bs.length := by rw [hp, HLM.out, ← Nat.succ_mul]; exact Nat.mul_le_mul_right n hlt
      have cpl : p < bs.length := by omega
      have HP1 := hid (show p + n = (k + 1) * n by rw [hp, Nat.succ_mul])
      obtain ⟨bb, bo, rfl, -, -⟩ := hb3 (by omega)
      have HS := hid (itemsTo_succ F bs n k)
      rw [← hp] at HS
      have HFL := hid (fieldL_length (bs := bs) (p := p) (s := n) hpn)
      have HFB := hid (show ∀ b ∈ fieldL bs p n, 0 ≤ b ∧ b ≤ 255 from fun b h => HB255.out b (List.mem_of_mem_drop (List.mem_of_mem_take h)))
      have HBS := hid (fun (W : World) (h : Below w.heap.size w W) => fieldL_ints (hbs0.ext h) hpn)
      have HLN := hid (show (itemsTo F bs n k).length ≤ 1000000000 by rw [itemsTo_length]; omega)
      have HO := hid hown
      obtain ⟨Y, hY⟩ : ∃ Y, Y = unpackL F (fieldL bs p n) := ⟨_, rfl⟩
      have HY := hid hY
      rw [← hY] at HS
      have hw1 : IntKind.i64.wrap ((p : Int) + (n : Int)) = (p : Int) + (n : Int) := IntWalk.i64_in _ (by omega)
      have htn : ((p : Int) + (n : Int)).toNat = p + n := by omega
      have hps0 : (0 : Int) ≤ (p : Int) + (n : Int) := by omega
      have hps1 : (p : Int) + (n : Int) ≤ (cb : Int) := by omega
      have hps2 : (p : Int) ≤ (p : Int) + (n : Int) := by omega
      have hps3 : ¬ cb = p := by omega
      clear hY hp hown
      obtain ⟨⟨q1, q2, q3⟩, r1, r2, r3⟩ := HBr.blk.all3
      go_upto_region 7 with fail
      have qb := fun x : ExtW wr => (HBr.nx x.h).blk.all3.1
      have HFx := hid (fun x : ExtW wr => (HBr.nx x.h).format)
      clear q1 q2 q3 r1 r2 r3
      refine region_mk 11 (by kernel_rfl) (by kernel_rfl) ?_
      apply Exists.intro
      simp only [List.take_succ_cons, List.take_zero, List.drop_succ_cons, List.drop_zero]
      repeat (first
        | (apply grow_val (by rfl); (focus (intro x; (go_simp; try with_reducible rfl); done)); simp only [Act.put, List.setIfInBounds_toArray, List.set_cons_zero, List.set_cons_succ])
        | (apply grow_skip (by rfl); simp only [Act.put, List.setIfInBounds_toArray, List.set_cons_zero, List.set_cons_succ]))
      apply grow_call (by rfl)
      · intro x K Q hK
        go_simp
        (go_at_call 40; refine (itemSize_any _ F _ (HFx.out x) HOK.out).mono ?_; rintro e w' ⟨rfl, hb⟩; rw [HN.out]; exact hK _ hb)
      simp only [Act.put, List.setIfInBounds_toArray, List.set_cons_zero, List.set_cons_succ]
      repeat (first
        | (apply grow_val (by rfl); (focus (intro x; (go_simp; try with_reducible rfl); done)); simp only [Act.put, List.setIfInBounds_toArray, List.set_cons_zero, List.set_cons_succ])
        | (apply grow_skip (by rfl); simp only [Act.put, List.setIfInBounds_toArray, List.set_cons_zero, List.set_cons_succ]))
      apply grow_ints (Y) (by rfl)
      · intro x hF K Q hK
        go_simp
        (go_at_call 51; refine (unpackItem_any _ _ F (fieldL bs p n) _ (HFx.out x) (HBS.out _ (HBr.nx x.h).below) HOK.out (by rw [HFL.out, HN.out]) HFB.out).mono ?_; rintro e w' ⟨v', rfl, ho, hb⟩; exact hK _ _ hb (by rw [HY.out]; exact ho))
      intro A9 c9 F9 O9 hF9 hO9
      simp only [Act.put, List.setIfInBounds_toArray, List.set_cons_zero, List.set_cons_succ]
      repeat (first
        | (apply grow_val (by rfl); (focus (intro x; (go_simp; try with_reducible rfl); done)); simp only [Act.put, List.setIfInBounds_toArray, List.set_cons_zero, List.set_cons_succ])
        | (apply grow_skip (by rfl); simp only [Act.put, List.setIfInBounds_toArray, List.set_cons_zero, List.set_cons_succ]))
      apply grow_litR (.tmp 47) A9 Y.length c9 rfl (by rfl) (by rfl) (by rfl)
      intro g10 hg10 F10 O10 hF10 hO10
      simp only [Act.put, List.setIfInBounds_toArray, List.set_cons_zero, List.set_cons_succ]
      refine grow_nil ?_
      rintro ⟨w5, hb5⟩ hF hS
      have h9 := hF9 _ (hF 9 (by omega))
      have h10 := hF10 _ (hF 10 (by omega))
      have hb5 : Below wr.heap.size wr w5 := hb5
      have hO5 := HO.out.ext hb5
      have hbw5 := hbw.trans (hb5.mono hsz)
      have hs1 := Seg.sep HO.out.seg.1 h9.seg (Nat.le_refl _)
      have hs2 : ∀ (j : Nat) (u' : Value), us[j]? = some u' → Sep u' (.slice A9 Y.length c9) := fun j u' hu' => Seg.sep (HO.out.seg.2 u' (List.mem_of_getElem? hu')) h9.seg (Nat.le_refl _)
      have H9 := hid (h9.mono hsz)
      have HS1 := hid hs1
      have HS2 := hid hs2
      have H10 := hid h10.1
      have HO5 := hid hO5
      have hsz5 := hbw5.size
      clear hF hS hF9 hO9 hF10 hO10 qb HFx h9 h10 hs1 hs2 hO5
      go_wp2_with (at_builtin; refine appL _ rfl _ _ rfl w2.heap.size _ us (itemsTo F bs n k) rfl HO5.out ⟨g10, 0, none⟩ 1 A9 Y.length c9 Y rfl H10.out H9.out HS1.out HS2.out HLN.out hsz5 ?_)
      intro v6 w6 ho6 hg6 hat6
      rw [← HS.out] at ho6
      have hq := hbw5.trans (HO5.out.under hg6 hsz5)
      have HO6 := hid ho6
      have HA6 := hid hat6
      clear hat6 hg6 ho6
      have HB6 := HB2.nx hq
      obtain ⟨⟨q1, q2, q3⟩, r1, r2, r3⟩ := HB6.blk.all3
      go_wp2_with fail
      refine (itemSize_any _ F _ HB6.format HOK.out).mono ?_; rintro e w7 ⟨rfl, hb7⟩
      rw [HN.out]
      have hq := hq.trans (hb7.mono hq.size)
      have HO6 := hid (HO6.out.ext hb7)
      clear q1 q2 q3 r1 r2 r3
      go_wp2
      go_roundg (m - (k + 1))
      case rel => exact ⟨k + 1, p + n, _, by omega, rfl, HP1.out, hpn, by go_num, HO6.out, hq⟩
      case measure => omega
    · obtain rfl : m = k := by omega
      have HO := hid hown
      have hb := HBr.below
      have hpe : p = bs.length := by rw [hp, HLM.out]
      subst hpe
      rw [← HM1.out] at HQ
      clear hown hp
      go_wp2
      refine bodyPost_ret (v := .tuple #[u6, .bool true]) (by simp [results, Try.results28, go_sem]) rfl ?_
      rw [HQ.out.1, HQ.out.2]
      exact ⟨_, _, rfl, HO.out.mono (by omega), hb⟩

end Go.Proofs.Ytmiamnaholnnoaa
