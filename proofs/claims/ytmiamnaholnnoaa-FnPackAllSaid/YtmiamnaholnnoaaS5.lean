/- Contract: packItem, the program's. No conditions. -/
import Derived.Test.YtmiamnaholnnoaaS3
import Derived.Test.YtmiamnaholnnoaaR1
import Derived.Test.YtmiamnaholnnoaaGr
import Derived.Test.YtmiamnaholnnoaaHp
import Derived.Laws.BitsLemmas
namespace Go.Proofs.Ytmiamnaholnnoaa
open Go.RowKit

theorem i64_and255 (n : Int) : bits .and .i64 n 255 = n % 256 := by
  have h255 : (BitVec.ofInt 64 255).toNat = 2 ^ 8 - 1 := by decide
  have key : (BitVec.ofInt 64 n &&& BitVec.ofInt 64 255).toNat = (n % ((2 ^ 64 : Nat) : Int)).toNat % 2 ^ 8 := by
    rw [BitVec.toNat_and, BitVec.toNat_ofInt, h255, Nat.and_two_pow_sub_one_eq_mod]
  show IntKind.i64.wrap ((BitVec.ofInt 64 n &&& BitVec.ofInt 64 255).toNat : Nat) = n % 256
  rw [key, IntKind.wrap_i64]
  omega
theorem byte_eq (x : Int) (j : Nat) : bits .and .i64 (x / 2 ^ (8 * (j : Int)).toNat) 255 = byteL x j := by
  have e : (8 * (j : Int)).toNat = 8 * j := by omega
  have e2 : (2 : Int) ^ (8 * j) = 256 ^ j := by rw [Int.pow_mul]; rfl
  rw [i64_and255, e, e2]
  rfl
theorem okItem_atP {F : FL} {vs : List Int} (h : okItem F vs = true) : vs.length = F.sizes.length ∧ ∀ k, k < F.sizes.length → okVal F vs k = true := by
  rw [okItem_eq, Bool.and_eq_true, decide_eq_true_eq, List.all_eq_true] at h
  exact ⟨h.1, fun k hk => h.2 k (List.mem_range.2 hk)⟩
theorem packTo_succP (P xs vs : List Int) (big : Bool) (n k : Nat) : packTo P xs vs big n (k + 1) = putAt (packTo P xs vs big n k) (P.getD k 0).toNat (bytesF big (vs.getD k 0) (xs.getD k 0).toNat) := rfl
/-- A field's bytes, written so far. -/
def partF (big : Bool) (O : List Int) (p s : Nat) (x : Int) (j : Nat) : List Int :=
  if big then putAt O (p + (s - j)) ((bytesF big x s).drop (s - j)) else putAt O p ((bytesF big x s).take j)
theorem partF_zero (big : Bool) (O : List Int) (p s : Nat) (x : Int) : partF big O p s x 0 = O := by
  unfold partF
  split
  · rw [List.drop_of_length_le (by rw [bytesF_length]; omega), putAt_nil]
  · rw [List.take_zero, putAt_nil]
theorem partF_all (big : Bool) (O : List Int) (p s : Nat) (x : Int) : partF big O p s x s = putAt O p (bytesF big x s) := by
  unfold partF
  split
  · rw [Nat.sub_self, List.drop_zero, Nat.add_zero]
  · rw [List.take_of_length_le (by rw [bytesF_length]; exact Nat.le_refl _)]
theorem partF_length {big : Bool} {O : List Int} {p s : Nat} {x : Int} {j : Nat} (h : p + s ≤ O.length) (hj : j ≤ s) : (partF big O p s x j).length = O.length := by
  unfold partF
  split
  · exact putAt_length (by rw [List.length_drop, bytesF_length]; omega)
  · exact putAt_length (by rw [List.length_take, bytesF_length]; omega)
theorem partF_step {F : FL} {O : List Int} {k p s : Nat} {x : Int} {j : Nat} (hs : F.sizes.getD k 0 = s) (h : p + s ≤ O.length) (hj : j < s) :
    ∃ q : Nat, byteIx F k p j = q ∧ q < O.length ∧ (partF F.big O p s x j).set q (byteL x j) = partF F.big O p s x (j + 1) := by
  unfold byteIx
  rw [hs]
  have hl := bytesF_length F.big x s
  cases hb : F.big
  · rw [hb] at hl
    refine ⟨p + j, by simp, by omega, ?_⟩
    simp only [partF, Bool.false_eq_true, if_false]
    exact putAt_up (by rw [hl]; exact h) (bytesLE_at x s j hj)
  · rw [hb] at hl
    refine ⟨p + s - 1 - j, by simp; omega, by omega, ?_⟩
    simp only [partF, if_true]
    have := putAt_down (out := O) (p := p) (bs := bytesF true x s) (j := j) (b := byteL x j) (by rw [hl]; exact h) (by rw [hl]; exact hj) (by rw [hl]; exact bytesBE_at x s j hj)
    rw [hl] at this
    exact this

set_option maxRecDepth 100000 in
set_option maxHeartbeats 6400000 in
theorem packItem_any (v vb : Value) (F : FL) (vs : List Int) (w : World) (hv : FormatV w v F) (hbs : Ints w vb vs) (hok : isFormatL F = true) (hit : okItem F vs = true) :
    Calls Try.prog 47 #[v, vb] w (RetOwn w (packL F vs)) := by
  obtain ⟨A, c, rfl, hk, hm, h0⟩ := hv.form
  have hbs0 := hbs
  obtain ⟨Ab, cb, rfl, hkb, hmb, -⟩ := hbs
  unfold maxLen at hmb
  have HB := FBox.new h0
  have hsb := size_bd hok
  have HPL := hid (psF_length hok)
  have hin := hid (psF_in hok)
  have hl5 := (isFormat_iff.1 hok).2.1
  have HOK := hid hok
  have HIT := hid (okItem_atP hit)
  have HPT := hid (fun k hk => packTo_length hok vs k hk)
  obtain ⟨n, hn⟩ : ∃ n : Nat, sizeF F = n := ⟨(sizeF F).toNat, by omega⟩
  have HN := hid hn
  have hn38 : n ≤ 38 := by omega
  go_enter Try.func47, Try.ntmps47
  go_wp2_with fail
  generalize w.alloc (.cells #[.slice A F.sizes.length c, .bool F.big, .bool F.aligned] 25) = W1 at *
  refine (itemSize_any _ F _ HB.format HOK.out).mono ?_; rintro e w2 ⟨rfl, hb2⟩
  have H2 := (Hp.start W1).nx hb2
  have hz1 := HB.size
  rw [hn]
  have HB2 := HB.nx hb2
  obtain ⟨⟨q1, q2, q3⟩, r1, r2, r3⟩ := HB2.blk.all3
  clear hv hok hb2 h0 hit hn
  go_wp2_with (at_make; refine mk0 _ rfl _ _ rfl n rfl rfl (by omega) ?_)
  intro w3 hR3 hb3
  have H3 := H2.row hR3 hb3
  simp only [List.nil_append] at H3
  have HB3 := HB2.nx hb3
  generalize w2.heap.size = G at *
  clear hR3 hb3 H2 q1 q2 q3 r1 r2 r3
  obtain ⟨⟨q1, q2, q3⟩, r1, r2, r3⟩ := HB3.blk.all3
  go_wp2_with fail
  refine (placesOf_any _ F _ HB3.format HOK.out).mono ?_; rintro e w4 ⟨v1, rfl, hP, hb4⟩
  have H4 := H3.row hP hb4
  simp only [List.cons_append, List.nil_append] at H4
  obtain ⟨A1, c1, e1⟩ := hP.form
  subst e1
  clear H3 hP hb4 q1 q2 q3 r1 r2 r3 HB3 HB2
  go_upto_region 3 with fail
  go_loopg [15] F.sizes.length (fun g i wr => ∃ k : Nat, k ≤ F.sizes.length ∧ g = F.sizes.length - k ∧ i = .int .i64 k ∧ Hp W1.heap.size W1 wr [.ints (.slice (some ⟨G, 0, none⟩) n n) (packTo (psF F) F.sizes vs F.big n k), .ints (.slice A1 (psF F).length c1) (psF F)])
  case atStart => exact ⟨0, Nat.zero_le _, rfl, rfl, H4⟩
  case round =>
    obtain ⟨k, hk1, rfl, rfl, hH⟩ := hrel
    clear H4
    have HBr := HB.nx hH.below
    by_cases hlt2 : k < F.sizes.length
    · have hlt : k < vs.length := by rw [HIT.out.1]; exact hlt2
      have hlp : k < (psF F).length := by rw [HPL.out]; exact hlt2
      have hel := HBr.elem k hlt2
      have hpe := Ints.elem (hH.ints 1 rfl).ints k hlp
      have hbd := hin.out k hlt2
      have e1 : (psF F).getD k 0 = (psF F)[k] := by simp [hlp]
      have e2 : F.sizes.getD k 0 = F.sizes[k] := by simp [hlt2]
      have e3 : vs.getD k 0 = vs[k] := by simp [hlt]
      have HS := hid (packTo_succP (psF F) F.sizes vs F.big n k)
      have hpt := HPT.out k (by omega)
      rw [HN.out, Int.toNat_natCast] at hpt
      have HSZ := hid (show 0 ≤ F.sizes[k] ∧ F.sizes[k] ≤ 4 by omega)
      obtain ⟨s, hs⟩ : ∃ s : Nat, F.sizes[k] = s := ⟨F.sizes[k].toNat, by omega⟩
      obtain ⟨p, hp⟩ : ∃ p : Nat, (psF F)[k] = p := ⟨((psF F)[k]).toNat, by omega⟩
      have hval := (okVal_at (F := F) (vs := vs) (k := k) (s := s) (x := vs[k]) (by simp [hlt]) (by simp [hlt2, hs])).symm.trans (HIT.out.2 k hlt2)
      rw [e1] at hbd
      rw [e1, e2, e3, hs, hp] at HS
      rw [hs] at hel hbd
      rw [hp] at hbd hpe
      simp only [Int.toNat_natCast] at HS
      have hs4 : s ≤ 4 := by omega
      have hpb := pow_bd hs4
      have hx0 := inR_iff.1 hval
      have hpn : p + s ≤ n := by have := HN.out; omega
      generalize packTo (psF F) F.sizes vs F.big n k = O at *
      have HST := hid (fun j (hj : j < s) => partF_step (F := F) (O := O) (k := k) (p := p) (s := s) (x := vs[k]) (j := j) (by rw [e2, hs]) (by rw [hpt]; exact hpn) hj)
      have hpe1 := hbs0
      clear hs hp e1 e2 e3 hval
      obtain ⟨vx, hvx⟩ : ∃ vx, vx = vs[k] := ⟨_, rfl⟩
      rw [← hvx] at HS HST hx0
      have HVX := hid (show vs[k]? = some vx by rw [hvx]; simp [hlt])
      clear hvx
      obtain ⟨b, off, rfl, hx⟩ := hel
      obtain ⟨b1, off1, rfl, hy⟩ := hpe
      obtain ⟨⟨q1, q2, q3⟩, r1, r2, r3⟩ := HBr.blk.all3
      go_upto_region 6 with fail
      clear q1 q2 q3 r1 r2 r3 hx hy
      go_loopg [25] s (fun g i wr => ∃ j : Nat, j ≤ s ∧ g = s - j ∧ i = .int .i64 j ∧ Hp W1.heap.size W1 wr [.ints (.slice (some ⟨G, 0, none⟩) n n) (partF F.big O p s vx j), .ints (.slice (some ⟨b1, off1, none⟩) (psF F).length c1) (psF F)])
      case atStart => exact ⟨0, Nat.zero_le _, rfl, rfl, by rw [partF_zero]; exact hH⟩
      case round =>
        obtain ⟨j, hj1, rfl, rfl, hH2⟩ := hrel
        have HBi := HB.nx hH2.below
        by_cases hlt3 : j < s
        · obtain ⟨q, hq, hql, hqs⟩ := HST.out j hlt3
          have HQ := hid hq
          have HQS := hid hqs
          have hpl := partF_length (big := F.big) (x := vx) (j := j) (by rw [hpt]; exact hpn) hj1
          rw [hpt] at hpl hql
          obtain ⟨bv, ov, rfl, hxv⟩ := Ints.elem (hbs0.ext HBi.below) k hlt
          rw [Option.some.inj ((List.getElem?_eq_getElem hlt).symm.trans HVX.out)] at hxv
          obtain ⟨⟨q1, q2, q3⟩, r1, r2, r3⟩ := HBi.blk.all3
          have hkv : (k : Int) < (vs.length : Int) := by omega
          have hqn : (q : Int) < (n : Int) := by omega
          have hj80 : ¬ 8 * (j : Int) < 0 := by omega
          have hw8 : IntKind.i64.wrap (8 * (j : Int)) = 8 * (j : Int) := IntWalk.i64_in _ (by omega)
          have hbv := byte_eq vx j
          have hp0 : 0 ≤ (p : Int) ∧ (p : Int) ≤ 100000 := by omega
          have hj0 : 0 ≤ (j : Int) ∧ (j : Int) ≤ 100 := by omega
          clear hq hqs hH
          go_upto_region 8 with fail
          have qb := fun x : ExtW wr => (HBi.nx x.h).blk.all3.1
          have qx := fun x : ExtW wr => (x.h.cell (p := ⟨bv, ov + k, none⟩) (World.block_lt_of_cell? wr _ hxv)).trans hxv
          clear q1 q2 q3 r1 r2 r3
          refine region_mk 15 (by kernel_rfl) (by kernel_rfl) ?_
          apply Exists.intro
          simp only [List.take_succ_cons, List.take_zero, List.drop_succ_cons, List.drop_zero]
          repeat (first
            | (apply grow_val (by rfl); (focus (intro x; (go_simp; try with_reducible rfl); done)); simp only [Act.put, List.setIfInBounds_toArray, List.set_cons_zero, List.set_cons_succ])
            | (apply grow_skip (by rfl); simp only [Act.put, List.setIfInBounds_toArray, List.set_cons_zero, List.set_cons_succ]))
          apply grow_call (by rfl)
          · intro x K Q hK
            go_simp
            (go_at_call 68; refine (byteAt_any _ F k p j _ (HBi.nx x.h).format hlt2 HSZ.out hp0 hj0).mono ?_; rintro e w' ⟨rfl, hb⟩; rw [HQ.out]; exact hK _ hb)
          simp only [Act.put, List.setIfInBounds_toArray, List.set_cons_zero, List.set_cons_succ]
          repeat (first
            | (apply grow_val (by rfl); (focus (intro x; (go_simp; try with_reducible rfl); done)); simp only [Act.put, List.setIfInBounds_toArray, List.set_cons_zero, List.set_cons_succ])
            | (apply grow_skip (by rfl); simp only [Act.put, List.setIfInBounds_toArray, List.set_cons_zero, List.set_cons_succ]))
          refine grow_nil ?_
          rintro ⟨w5, hb5⟩ hF hS
          have hb5 : Below wr.heap.size wr w5 := hb5
          have H5 := hH2.nx hb5
          clear hF hS qb qx hbv hH2
          obtain ⟨u0, hx⟩ : ∃ u0, w5.cell? ⟨G, q, none⟩ = some u0 := ⟨_, (H5.ints 0 rfl).cell q (by rw [hpl]; exact hql)⟩
          have hf := (H5.ints 0 rfl).free q
          have H6 := H5.put 0 rfl q (byteL vx j)
          simp only [List.set_cons_zero] at H6
          rw [HQS.out] at H6
          have H7 := hid H6
          clear H6 H5 hpl
          go_wp2
          go_roundg (s - (j + 1))
          case rel => exact ⟨j + 1, by omega, rfl, by go_num, H7.out⟩
          case measure => omega
        · obtain rfl : s = j := by omega
          rw [partF_all, ← HS.out] at hH2
          have H6 := hid hH2
          clear hH hH2
          go_wp2
          go_roundg (F.sizes.length - (k + 1))
          case rel => exact ⟨k + 1, by omega, rfl, by go_num, H6.out⟩
          case measure => omega
    · obtain rfl : F.sizes.length = k := by omega
      have HX := hid hH
      have hb := HBr.below
      have HR := hid (show packTo (psF F) F.sizes vs F.big n F.sizes.length = packL F vs by unfold packL; rw [HN.out]; rfl)
      have hnl : ¬ F.sizes.length < (psF F).length := by rw [HPL.out]; exact Nat.lt_irrefl _
      clear hH
      go_wp2
      go_ret
      exact ⟨_, rfl, by rw [← HR.out]; exact (HX.out.ints 0 rfl).mono (by omega), hb⟩

end Go.Proofs.Ytmiamnaholnnoaa
