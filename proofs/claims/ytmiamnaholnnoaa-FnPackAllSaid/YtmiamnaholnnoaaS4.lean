/- Contracts: bytes of numbers; packed, the reference's. No conditions. -/
import Derived.Test.YtmiamnaholnnoaaS3
import Derived.Test.YtmiamnaholnnoaaQ4
import Derived.Test.YtmiamnaholnnoaaKR
import Derived.Test.YtmiamnaholnnoaaGr
import Derived.Test.YtmiamnaholnnoaaHp
import Derived.StillTailTactics
namespace Go.Proofs.Ytmiamnaholnnoaa
open Go.RowKit

theorem div_pow (n : Int) (k : Nat) : n / 256 ^ (k + 1) = n / 256 ^ k / 256 := by
  rw [Int.pow_succ, Int.ediv_ediv_of_nonneg (Int.le_of_lt (Int.pow_pos (by decide)))]
theorem div_bd {n : Int} (h0 : 0 ≤ n) (h1 : n ≤ 4294967295) (k : Nat) : 0 ≤ n / 256 ^ k ∧ n / 256 ^ k ≤ 4294967295 :=
  ⟨Int.ediv_nonneg h0 (Int.le_of_lt (Int.pow_pos (by decide))), Int.le_trans (Int.ediv_le_self _ h0) h1⟩

set_option maxRecDepth 100000 in
set_option maxHeartbeats 6400000 in
theorem bytesOf_any (n : Int) (s : Nat) (big : Bool) (w : World) (hn : 0 ≤ n ∧ n ≤ 4294967295) (hs : s ≤ 4) :
    Calls Try.prog 70 #[.int .i64 n, .int .i64 s, .bool big] w (RetOwn w (bytesF big n s)) := by
  go_enter Try.func70, Try.ntmps70
  go_wp2_with fail
  go_loopg [0, 7, 8] s (fun g m out i wr => ∃ k : Nat, k ≤ s ∧ g = s - k ∧ i = .int .i64 k ∧ m = .int .i64 (n / 256 ^ k) ∧ Own wr w.heap.size out (bytesLE n k) ∧ Below w.heap.size w wr)
  case atStart => exact ⟨0, Nat.zero_le _, rfl, rfl, by simp, Own.empty w rfl (Nat.le_refl _), below_alloc w _⟩
  case round =>
    obtain ⟨k, hk1, rfl, rfl, rfl, hown, hbw⟩ := hrel
    have hbd := div_bd hn.1 hn.2 k
    by_cases hlt : k < s
    · have HS := hid (bytesLE_succ n k)
      have HB := hid (show byteL n k = n / 256 ^ k % 256 from rfl)
      have HD := hid (div_pow n k)
      have HLN := hid (show (bytesLE n k).length ≤ 1000000000000 by rw [bytesLE_length]; omega)
      have HX := hid hown
      have hsz := hbw.size
      generalize n / 256 ^ k = N at *
      clear hown
      go_wp2_with (at_builtin; refine app1 _ rfl _ _ rfl w.heap.size _ (bytesLE n k) rfl (HX.out.alloc _) ⟨wr.heap.size, 0, none⟩ 1 (N % 256) rfl (cell_new1 _ _ _) HLN.out (le_alloc hsz _) ?_)
      intro v1 w4 ho1 hg1 hat1
      have hq := hbw.trans (((below_alloc wr (.cells #[.int .i64 (N % 256)] 3)).mono hsz).trans ((HX.out.alloc _).under hg1 (le_alloc hsz _)))
      have HA := hid hat1
      clear hat1 hg1
      go_wp2
      go_roundg (s - (k + 1))
      case rel => exact ⟨k + 1, by omega, rfl, by go_num, by rw [HD.out], by rw [HS.out, HB.out]; exact ho1, hq⟩
      case measure => omega
    · obtain rfl : s = k := by omega
      have HX := hid hown
      clear hown
      cases big
      · go_wp2
        go_ret
        exact ⟨_, rfl, HX.out, hbw⟩
      · have hl : (bytesLE n s).length ≤ 1000000 := by rw [bytesLE_length]; omega
        have hin := HX.out.ints
        go_wp2_with fail
        refine (reversed_any _ (bytesLE n s) _ hin hl).mono ?_; rintro e w4 ⟨v1, rfl, ho, hb4⟩
        have hsz := hbw.size
        go_wp2
        go_ret
        exact ⟨_, rfl, ho.mono hsz, hbw.trans (hb4.mono hsz)⟩

theorem Hp.front {N : Nat} {w0 w : World} {A B : List Item} (h : Hp N w0 w (A ++ B)) : Hp N w0 w A :=
  ⟨h.below, h.size, fun i hi => h.ok i (List.mem_append_left _ hi), (List.pairwise_append.1 h.sep).1⟩
theorem okItem_at {F : FL} {vs : List Int} (h : okItem F vs = true) : vs.length = F.sizes.length ∧ ∀ k, k < F.sizes.length → okVal F vs k = true := by
  rw [okItem_eq, Bool.and_eq_true, decide_eq_true_eq, List.all_eq_true] at h
  exact ⟨h.1, fun k hk => h.2 k (List.mem_range.2 hk)⟩
theorem packTo_succ (P xs vs : List Int) (big : Bool) (n k : Nat) : packTo P xs vs big n (k + 1) = putAt (packTo P xs vs big n k) (P.getD k 0).toNat (bytesF big (vs.getD k 0) (xs.getD k 0).toNat) := rfl

set_option maxRecDepth 100000 in
set_option maxHeartbeats 6400000 in
theorem packed_any (v vb : Value) (F : FL) (vs : List Int) (w : World) (hv : FormatV w v F) (hbs : Ints w vb vs) (hok : isFormatL F = true) (hit : okItem F vs = true) :
    Calls Try.prog 49 #[v, vb] w (RetOwn w (packL F vs)) := by
  obtain ⟨A, c, rfl, hk, hm, h0⟩ := hv.form
  have hbs0 := hbs
  obtain ⟨Ab, cb, rfl, hkb, hmb, -⟩ := hbs
  unfold maxLen at hmb
  have HB := FBox.new h0
  have hsb := size_bd hok
  have HPL := hid (psF_length hok)
  have hin := hid (psF_in hok)
  have hl5 := (isFormat_iff.1 hok).2.1
  have HOK := hid hok
  have HIT := hid (okItem_at hit)
  have HPT := hid (fun k hk => packTo_length hok vs k hk)
  obtain ⟨n, hn⟩ : ∃ n : Nat, sizeF F = n := ⟨(sizeF F).toNat, by omega⟩
  have HN := hid hn
  have hn38 : n ≤ 38 := by omega
  go_enter Try.func49, Try.ntmps49
  go_wp2_with fail
  generalize w.alloc (.cells #[.slice A F.sizes.length c, .bool F.big, .bool F.aligned] 25) = W1 at *
  refine (places_any _ F _ HB.format HOK.out).mono ?_; rintro e w2 ⟨v1, rfl, hP, hb2⟩
  have H2 := (Hp.start W1).row hP hb2
  have hz1 := HB.size
  rw [List.nil_append] at H2
  obtain ⟨A1, c1, e1⟩ := hP.form
  subst e1
  rw [hn]
  clear hv hok hP hb2 h0 hit hn
  go_wp2_with (at_make; refine mk0 _ rfl _ _ rfl n rfl rfl (by omega) ?_)
  intro w3 hR3 hb3
  have H3 := H2.row hR3 hb3
  simp only [List.cons_append, List.nil_append] at H3
  have hg3 := (hR3.lt _ rfl)
  generalize w2.heap.size = G at *
  clear hR3 hb3 H2
  go_upto_region 4 with fail
  go_loopg [8] vs.length (fun g i wr => ∃ k : Nat, k ≤ vs.length ∧ g = vs.length - k ∧ i = .int .i64 k ∧ Hp W1.heap.size W1 wr [.ints (.slice A1 (psF F).length c1) (psF F), .ints (.slice (some ⟨G, 0, none⟩) n n) (packTo (psF F) F.sizes vs F.big n k)])
  case atStart => exact ⟨0, Nat.zero_le _, rfl, rfl, H3⟩
  case round =>
    obtain ⟨k, hk1, rfl, rfl, hH⟩ := hrel
    clear H3
    have HBr := HB.nx hH.below
    by_cases hlt : k < vs.length
    · have hlt2 : k < F.sizes.length := by rw [← HIT.out.1]; exact hlt
      have hlp : k < (psF F).length := by rw [HPL.out]; exact hlt2
      obtain ⟨b, off, rfl, hx⟩ := HBr.elem k hlt2
      obtain ⟨b1, off1, rfl, hy⟩ := Ints.elem (hbs0.ext HBr.below) k hlt
      have hbd := hin.out k hlt2
      have e1 : (psF F).getD k 0 = (psF F)[k] := by simp [hlp]
      have e2 : F.sizes.getD k 0 = F.sizes[k] := by simp [hlt2]
      have e3 : vs.getD k 0 = vs[k] := by simp [hlt]
      have HS := hid (packTo_succ (psF F) F.sizes vs F.big n k)
      have hpt := HPT.out k (by omega)
      rw [HN.out, Int.toNat_natCast] at hpt
      obtain ⟨s, hs⟩ : ∃ s : Nat, F.sizes[k] = s := ⟨F.sizes[k].toNat, by omega⟩
      obtain ⟨p, hp⟩ : ∃ p : Nat, (psF F)[k] = p := ⟨((psF F)[k]).toNat, by omega⟩
      have hval := (okVal_at (F := F) (vs := vs) (k := k) (s := s) (x := vs[k]) (by simp [hlt]) (by simp [hlt2, hs])).symm.trans (HIT.out.2 k hlt2)
      rw [e1] at hbd
      rw [e1, e2, e3, hs, hp] at HS
      rw [hs] at hx hbd
      rw [hp] at hbd
      simp only [Int.toNat_natCast] at HS
      have hs4 : s ≤ 4 := by omega
      have hpb := pow_bd hs4
      have hx0 := inR_iff.1 hval
      have hpn : p + s ≤ n := by have := HN.out; omega
      have HBL := hid (bytesF_length F.big vs[k] s)
      have hpp : (psF F)[k]? = some (p : Int) := by simp [hlp, hp]
      have HPP := hid hpp
      clear hs hp e1 e2 e3 hval hpp
      generalize vs[k] = vx at *
      have hXB : 0 ≤ vx ∧ vx ≤ 4294967295 := by omega
      generalize packTo (psF F) F.sizes vs F.big n k = O at *
      obtain ⟨Y, hY⟩ : ∃ Y, Y = bytesF F.big vx s := ⟨_, rfl⟩
      have HY := hid hY
      rw [← hY] at HS HBL
      clear hY
      have hki : (k : Int) < (F.sizes.length : Int) := by omega
      have hkv : (k : Int) < (vs.length : Int) := by omega
      obtain ⟨⟨q1, q2, q3⟩, r1, r2, r3⟩ := HBr.blk.all3
      go_upto_region 6 with fail
      have qb := fun x : ExtW wr => (HBr.nx x.h).blk.all3.1
      have qx := fun x : ExtW wr => (x.h.cell (p := ⟨b, off + k, none⟩) (World.block_lt_of_cell? wr _ hx)).trans hx
      have qy := fun x : ExtW wr => (x.h.cell (p := ⟨b1, off1 + k, none⟩) (World.block_lt_of_cell? wr _ hy)).trans hy
      clear q1 q2 q3 r1 r2 r3 hx hy
      refine region_mk 12 (by kernel_rfl) (by kernel_rfl) ?_
      apply Exists.intro
      simp only [List.take_succ_cons, List.take_zero, List.drop_succ_cons, List.drop_zero]
      repeat (first
        | (apply grow_val (by rfl); (focus (intro x; (go_simp; try with_reducible rfl); done)); simp only [Act.put, List.setIfInBounds_toArray, List.set_cons_zero, List.set_cons_succ])
        | (apply grow_skip (by rfl); simp only [Act.put, List.setIfInBounds_toArray, List.set_cons_zero, List.set_cons_succ]))
      apply grow_ints (Y) (by rfl)
      · intro x hF K Q hK
        go_simp
        (go_at_call 70; refine (bytesOf_any vx s F.big _ hXB hs4).mono ?_; rintro e w' ⟨v', rfl, ho, hb⟩; exact hK _ _ hb (by rw [HY.out]; exact ho))
      intro A11 c11 F11 O11 hF11 hO11
      simp only [Act.put, List.setIfInBounds_toArray, List.set_cons_zero, List.set_cons_succ]
      repeat (first
        | (apply grow_val (by rfl); (focus (intro x; (go_simp; try with_reducible rfl); done)); simp only [Act.put, List.setIfInBounds_toArray, List.set_cons_zero, List.set_cons_succ])
        | (apply grow_skip (by rfl); simp only [Act.put, List.setIfInBounds_toArray, List.set_cons_zero, List.set_cons_succ]))
      refine grow_nil ?_
      rintro ⟨w5, hb5⟩ hF hS
      have h11 := hF11 _ (hF 11 (by omega))
      have hb5 : Below wr.heap.size wr w5 := hb5
      have H5 := hH.row h11 hb5
      simp only [List.cons_append, List.nil_append] at H5
      clear hF hS hF11 hO11 qb qx qy hH h11 hb5
      go_upto_region 8 with fail
      have HLY := HBL
      go_loopg [10] s (fun g i wr => ∃ j : Nat, j ≤ s ∧ g = s - j ∧ i = .int .i64 j ∧ Hp W1.heap.size W1 wr [.ints (.slice A1 (psF F).length c1) (psF F), .ints (.slice (some ⟨G, 0, none⟩) n n) (putAt O p (Y.take j)), .ints (.slice A11 Y.length c11) Y])
      case atStart => exact ⟨0, Nat.zero_le _, rfl, rfl, by rw [List.take_zero, putAt_nil]; exact H5⟩
      case round =>
        obtain ⟨j, hj1, rfl, rfl, hH⟩ := hrel
        clear H5
        by_cases hlt3 : j < s
        · have hjY : j < Y.length := by rw [HLY.out]; exact hlt3
          have hin0 := (hH.ints 0 rfl).ints
          obtain ⟨b2, off2, rfl, hy2⟩ := Ints.elem hin0 k hlp
          have hin2 := (hH.ints 2 rfl).ints
          obtain ⟨b3, off3, rfl, hy3⟩ := Ints.elem hin2 j hjY
          have hpv : (psF F)[k] = (p : Int) := by have := HPP.out; simpa [hlp] using this
          rw [hpv] at hy2
          have hlo : (putAt O p (Y.take j)).length = n := by rw [putAt_length (by rw [List.length_take, hpt]; omega), hpt]
          obtain ⟨u0, hx⟩ : ∃ u0, wr.cell? ⟨G, p + j, none⟩ = some u0 := ⟨_, (hH.ints 1 rfl).cell (p + j) (by rw [hlo]; omega)⟩
          have hf := (hH.ints 1 rfl).free (p + j)
          have HUP := hid (putAt_up (out := O) (p := p) (bs := Y) (j := j) (b := Y[j]) (by rw [hpt, HLY.out]; exact hpn) (by simp [hjY]))
          have hHs := hid hH
          have hw1 : IntKind.i64.wrap ((p : Int) + (j : Int)) = (p : Int) + (j : Int) := IntWalk.i64_in _ (by omega)
          have htn : ((p : Int) + (j : Int)).toNat = p + j := by omega
          have h0i : (0 : Int) ≤ (p : Int) + (j : Int) := by omega
          have hni : (p : Int) + (j : Int) < (n : Int) := by omega
          have hkp : (k : Int) < ((psF F).length : Int) := by omega
          have hjy : (j : Int) < (Y.length : Int) := by omega
          clear hH hpv hlo hin0 hin2
          go_upto_region 10 with fail
          go_still_tail 12, (by kernel_rfl)
          have H6 := (hHs.out.put 1 rfl (p + j) Y[j]).drew
          simp only [List.set_cons_zero, List.set_cons_succ] at H6
          rw [HUP.out] at H6
          have H7 := hid H6
          clear H6
          go_wp2
          go_roundg (s - (j + 1))
          case rel => exact ⟨j + 1, by omega, rfl, by go_num, H7.out⟩
          case measure => omega
        · obtain rfl : s = j := by omega
          rw [List.take_of_length_le (by rw [HLY.out]; exact Nat.le_refl _), ← HS.out] at hH
          have H6 := hid (Hp.front (A := [.ints (.slice A1 (psF F).length c1) (psF F), .ints (.slice (some ⟨G, 0, none⟩) n n) (packTo (psF F) F.sizes vs F.big n (k + 1))]) (B := [.ints (.slice A11 Y.length c11) Y]) hH)
          have hnl : ¬ s < Y.length := by rw [HLY.out]; exact Nat.lt_irrefl _
          clear hH
          go_wp2
          go_roundg (vs.length - (k + 1))
          case rel => exact ⟨k + 1, by omega, rfl, by go_num, H6.out⟩
          case measure => omega
    · obtain rfl : vs.length = k := by omega
      have HX := hid hH
      have hb := HBr.below
      have HR := hid (show packTo (psF F) F.sizes vs F.big n vs.length = packL F vs by unfold packL; rw [HN.out, HIT.out.1]; rfl)
      clear hH
      go_wp2
      go_ret
      exact ⟨_, rfl, by rw [← HR.out]; exact (HX.out.ints 1 rfl).mono (by omega), hb⟩

end Go.Proofs.Ytmiamnaholnnoaa
