/- Contract: unpackItem, the program's. No conditions. -/
import Derived.Test.YtmiamnaholnnoaaR1
import Derived.Test.YtmiamnaholnnoaaHp
namespace Go.Proofs.Ytmiamnaholnnoaa
open Go.RowKit

/-- A field's bytes, lowest first. -/
def loF (F : FL) (bs : List Int) (p s : Nat) : List Int := if F.big then (fieldL bs p s).reverse else fieldL bs p s
theorem numF_lo (F : FL) (bs : List Int) (p s : Nat) : numF F.big (fieldL bs p s) = numLE (loF F bs p s) := by
  unfold numF loF; cases F.big <;> simp
theorem loF_length {F : FL} {bs : List Int} {p s : Nat} (h : p + s ≤ bs.length) : (loF F bs p s).length = s := by
  unfold loF; split <;> simp [fieldL_length h]
theorem loF_byte {F : FL} {bs : List Int} {p s : Nat} (hb : ∀ b ∈ bs, 0 ≤ b ∧ b ≤ 255) : ∀ b ∈ loF F bs p s, 0 ≤ b ∧ b ≤ 255 := fun b h => hb b (by
  have : b ∈ fieldL bs p s := by unfold loF at h; split at h; exact List.mem_reverse.1 h; exact h
  exact List.mem_of_mem_drop (List.mem_of_mem_take this))
theorem loF_at {F : FL} {bs : List Int} {k p s j : Nat} (hs : F.sizes.getD k 0 = s) (h : p + s ≤ bs.length) (hj : j < s) :
    ∃ q : Nat, byteIx F k p j = q ∧ q < bs.length ∧ bs[q]? = (loF F bs p s)[j]? := by
  unfold byteIx loF
  rw [hs]
  cases F.big
  · refine ⟨p + j, by simp, by omega, ?_⟩
    simp [fieldL, hj, List.getElem?_drop]
  · refine ⟨p + (s - 1 - j), by simp; omega, by omega, ?_⟩
    simp only [if_true]
    rw [List.getElem?_reverse (by rw [fieldL_length h]; exact hj), fieldL_length h]
    simp only [fieldL, List.getElem?_take, List.getElem?_drop]
    rw [if_pos (by omega)]
theorem numLE_step {F : FL} {bs : List Int} {p s j : Nat} (hb : ∀ b ∈ bs, 0 ≤ b ∧ b ≤ 255) (hj : j < s) (hs : s ≤ 4) {b : Int} (hbj : (loF F bs p s)[j]? = some b) :
    numLE ((loF F bs p s).take (j + 1)) = numLE ((loF F bs p s).take j) + b * 256 ^ j ∧ 0 ≤ numLE ((loF F bs p s).take j) ∧ numLE ((loF F bs p s).take j) ≤ 16777216 ∧ 0 ≤ b ∧ b ≤ 255 := by
  obtain ⟨hj', rfl⟩ := List.getElem?_eq_some_iff.1 hbj
  have h0 := loF_byte (F := F) (p := p) (s := s) hb
  have h1 := numLE_bd ((loF F bs p s).take j) (fun b hb => h0 b (List.mem_of_mem_take hb))
  have h2 := h0 _ (List.getElem_mem hj')
  have hlj : ((loF F bs p s).take j).length = j := by rw [List.length_take]; omega
  rw [hlj] at h1
  have h3 : (256 : Int) ^ j ≤ 256 ^ 3 := by
    have : j = 0 ∨ j = 1 ∨ j = 2 ∨ j = 3 := by omega
    rcases this with rfl | rfl | rfl | rfl <;> decide
  have e : (256 : Int) ^ 3 = 16777216 := by decide
  refine ⟨by rw [take_snocI _ j hj', numLE_snoc, hlj], h1.1, by omega, h2.1, h2.2⟩

theorem shl_sum {N B : Int} {j : Nat} (h1 : 0 ≤ N ∧ N ≤ 16777216) (h2 : 0 ≤ B ∧ B ≤ 255) (hj : j < 4) : wrap64 (N + wrap64 (B * 2 ^ (8 * j))) = N + B * 256 ^ j := by
  have : j = 0 ∨ j = 1 ∨ j = 2 ∨ j = 3 := by omega
  rcases this with rfl | rfl | rfl | rfl
  all_goals
    simp only [wrap64, Nat.mul_zero, Nat.mul_one, Int.pow_zero, Int.reducePow, Nat.reduceMul]
    omega
set_option maxRecDepth 100000 in
set_option maxHeartbeats 6400000 in
theorem unpackItem_any (v vb : Value) (F : FL) (bs : List Int) (w : World) (hv : FormatV w v F) (hbs : Ints w vb bs) (hok : isFormatL F = true) (hlen : (bs.length : Int) = sizeF F) (hby : ∀ b ∈ bs, 0 ≤ b ∧ b ≤ 255) :
    Calls Try.prog 51 #[v, vb] w (RetOwn w (unpackL F bs)) := by
  obtain ⟨A, c, rfl, hk, hm, h0⟩ := hv.form
  obtain ⟨Ab, cb, rfl, hkb, hmb, -⟩ := id hbs
  unfold maxLen at hmb
  have HB := FBox.new h0
  have hsb := size_bd hok
  have hpl := psF_length hok
  have hin := hid (psF_in hok)
  have hl5 := (isFormat_iff.1 hok).2.1
  have HBY := hid hby
  have HOK := hid hok
  have HLEN := hid hlen
  have hb38 : bs.length ≤ 38 := by omega
  have HPL := hid hpl
  clear hpl
  go_enter Try.func51, Try.ntmps51
  go_wp2_with fail
  generalize hW1 : w.alloc (.cells #[.slice A F.sizes.length c, .bool F.big, .bool F.aligned] 25) = W1 at *
  have HZ := hid (show W1.heap.size = w.heap.size + 1 by rw [← hW1]; simp)
  clear hW1 hv hok hby hlen
  have H1 := (Hp.start W1).row (Own.empty W1 rfl (Nat.le_refl _)) (below_alloc W1 _)
  rw [List.nil_append] at H1
  rw [← HZ.out]
  generalize hG1' : W1.heap.size = g1 at *
  have hG1 := hG1'
  clear hG1'
  have hG1 := hid hG1
  have HB1 := HB.low H1.below (by have := HZ.out; omega)
  refine (placesOf_any _ F _ HB1.format HOK.out).mono ?_; rintro e w2 ⟨v1, rfl, hP, hb2⟩
  have H2 := H1.row hP hb2
  obtain ⟨A1, c1, e1⟩ := hP.form
  subst e1
  simp only [List.cons_append, List.nil_append] at H2
  clear H1 HB1 hP hb2 h0
  go_upto_region 3 with fail
  go_loopg [5, 14] F.sizes.length (fun g out i wr => ∃ k : Nat, k ≤ F.sizes.length ∧ g = F.sizes.length - k ∧ i = .int .i64 k ∧ Hp g1 W1 wr [.ints out (unpackTo (psF F) F.sizes bs F.big k), .ints (.slice A1 (psF F).length c1) (psF F)])
  case atStart => exact ⟨0, Nat.zero_le _, rfl, rfl, H2⟩
  case round =>
    obtain ⟨k, hk1, rfl, rfl, hH⟩ := hrel
    clear H2
    have HBr := HB.low hH.below (by have := HZ.out; omega)
    by_cases hlt : k < F.sizes.length
    · have hlp : k < (psF F).length := by rw [HPL.out]; exact hlt
      have hsx := HBr.elem k hlt
      have hpx := (hH.ints 1 rfl).ints
      have hpx := Ints.elem hpx k hlp
      have hbd := hin.out k hlt
      have e1 : (psF F).getD k 0 = (psF F)[k] := by simp [hlp]
      have e2 : F.sizes.getD k 0 = F.sizes[k] := by simp [hlt]
      have HS := hid (unpackTo_succ (psF F) F.sizes bs F.big k)
      rw [e1, e2] at HS
      rw [e1] at hbd
      have HSZ := hid (show 0 ≤ F.sizes[k] ∧ F.sizes[k] ≤ 4 by omega)
      obtain ⟨s, hs⟩ : ∃ s : Nat, F.sizes[k] = s := ⟨F.sizes[k].toNat, by omega⟩
      obtain ⟨p, hp⟩ : ∃ p : Nat, (psF F)[k] = p := ⟨((psF F)[k]).toNat, by omega⟩
      rw [hs] at hsx hbd HS
      rw [hp] at hpx hbd HS
      have hpn : p + s ≤ bs.length := by have := HLEN.out; omega
      have hs4 : s ≤ 4 := by omega
      have HAT := hid (fun j (hj : j < s) => loF_at (F := F) (bs := bs) (k := k) (p := p) (s := s) (j := j) (by rw [e2, hs]) hpn hj)
      have hlol := loF_length (F := F) hpn
      rw [numF_lo] at HS
      simp only [Int.toNat_natCast] at HS
      clear hs hp e1 e2
      have HSX := hid hsx
      obtain ⟨b, off, rfl, hx⟩ := hsx
      obtain ⟨b1, off1, rfl, hy⟩ := hpx
      obtain ⟨⟨q1, q2, q3⟩, r1, r2, r3⟩ := HBr.blk.all3
      go_upto_region 7 with fail
      obtain ⟨wo, rfl⟩ : ∃ wo : World, wo = wr := ⟨_, rfl⟩
      clear q1 q2 q3 r1 r2 r3 hx hy
      go_loopg [8, 24] s (fun g x i wr => ∃ j : Nat, j ≤ s ∧ g = s - j ∧ i = .int .i64 j ∧ x = .int .i64 (numLE ((loF F bs p s).take j)) ∧ Below wo.heap.size wo wr)
      case atStart => exact ⟨0, Nat.zero_le _, rfl, rfl, rfl, Below.refl _ _⟩
      case round =>
        obtain ⟨j, hj1, rfl, rfl, rfl, hbi⟩ := hrel
        have HBi := HBr.nx hbi
        obtain ⟨⟨q1, q2, q3⟩, r1, r2, r3⟩ := HBi.blk.all3
        by_cases hlt2 : j < s
        · obtain ⟨q, hq, hql, hqe⟩ := HAT.out j hlt2
          have hbq : bs[q]? = some bs[q] := by simp [hql]
          rw [hbq] at hqe
          obtain ⟨HST, n1, n2, n3, n4⟩ := numLE_step HBY.out hlt2 hs4 hqe.symm
          have HST := hid HST
          have HQ := hid hq
          generalize numLE ((loF F bs p s).take j) = N at *
          clear hqe hbq hq
          have hk1s : 0 ≤ p ∧ p ≤ 100000 := by omega
          go_wp2_with fail
          refine (byteAt_any _ F k p j _ HBi.format hlt HSZ.out (by omega) (by omega)).mono ?_; rintro e w3 ⟨rfl, hb3⟩
          have HB3 := HBi.nx hb3
          rw [HQ.out]
          clear q1 q2 q3 r1 r2 r3
          obtain ⟨b2, off2, rfl, hx⟩ := Ints.elem (hbs.ext HB3.below) q hql
          generalize bs[q] = B at *
          have hji : (q : Int) < (bs.length : Int) := by omega
          have HSH := hid (shl_sum (N := N) (B := B) (j := j) ⟨n1, n2⟩ ⟨n3, n4⟩ (by omega))
          have hj0 : ¬ 8 * (j : Int) < 0 := by omega
          go_wp2
          rw [HSH.out, ← HST.out]
          go_roundg (s - (j + 1))
          case rel => exact ⟨j + 1, by omega, rfl, by go_num, rfl, hbi.trans (hb3.mono hbi.size)⟩
          case measure => omega
        · obtain rfl : s = j := by omega
          rw [List.take_of_length_le (by omega)]
          have H3 := hH.nx hbi
          have HLN := hid (show (unpackTo (psF F) F.sizes bs F.big k).length ≤ 1000000000000 by simp [unpackTo]; omega)
          generalize numLE (loF F bs p s) = N at *
          have HX := hid H3
          clear q1 q2 q3 r1 r2 r3 hH
          go_wp2_with (at_builtin; refine app1 _ rfl _ _ rfl g1 _ (unpackTo (psF F) F.sizes bs F.big k) rfl ((HX.out.ints 0 rfl).alloc _) ⟨wr.heap.size, 0, none⟩ 1 N rfl (cell_new1 _ _ _) HLN.out (le_alloc HX.out.size _) ?_)
          intro v1 w4 ho1 hg1 hat1
          rw [← HS.out] at ho1
          have H4 := hid ((HX.out.nx (below_alloc wr (.cells #[.int .i64 N] 3))).grown 0 rfl ho1 hg1 (by simpa using hat1))
          clear hat1 hg1 ho1
          go_wp2
          go_roundg (F.sizes.length - (k + 1))
          case rel => exact ⟨k + 1, by omega, rfl, by go_num, H4.out⟩
          case measure => omega
    · obtain rfl : F.sizes.length = k := by omega
      have H3 := hid hH
      have hb := HBr.below
      have hnl : ¬ F.sizes.length < (psF F).length := by rw [HPL.out]; exact Nat.lt_irrefl _
      clear hH
      go_wp2
      go_ret
      exact ⟨_, rfl, (H3.out.ints 0 rfl).mono (by have := HZ.out; omega), hb⟩

end Go.Proofs.Ytmiamnaholnnoaa
