/- Contracts: formats: places of fields and sizes, the program's. No conditions. -/
import Derived.Test.YtmiamnaholnnoaaQ3
import Derived.Deep.RegionHeld3
import Derived.Deep.Cut
import Derived.Test.YtmiamnaholnnoaaGr
namespace Go.Proofs.Ytmiamnaholnnoaa
open Go.RowKit

/-- Between the rounds. -/
def PoRel (w : World) (A : Option Addr) (c : Nat) (F : FL) (out at_ i : Value) (wr : World) : Prop :=
  ∃ k : Nat, k ≤ F.sizes.length ∧ i = .int .i64 k ∧ at_ = .int .i64 (placesF F.aligned (F.sizes.take k)).2 ∧
    Own wr (w.heap.size + 1) out (placesF F.aligned (F.sizes.take k)).1 ∧ FBox w wr A c F

set_option maxRecDepth 100000 in
set_option maxHeartbeats 6400000 in
theorem placesOf_any (v : Value) (F : FL) (w : World) (hv : FormatV w v F) (hok : isFormatL F = true) :
    Calls Try.prog 41 #[v] w (RetOwn w (psF F)) := by
  obtain ⟨A, c, rfl, hk, hm, h0⟩ := hv.form
  obtain ⟨hl1, hl5, hsz⟩ := isFormat_iff.1 hok
  have hb8 := placesF_bd (al := F.aligned) hsz
  have HB := FBox.new h0
  go_enter Try.func41, Try.ntmps41
  go_wp2_with fail
  generalize hW1 : w.alloc (.cells #[.slice A F.sizes.length c, .bool F.big, .bool F.aligned] 25) = W1 at *
  have HZ := hid (show W1.heap.size = w.heap.size + 1 by rw [← hW1]; simp)
  clear hW1
  go_loopw [3, 4, 11] (fun out at_ i wr => PoRel w A c F out at_ i wr) (fun _ _ i _ => F.sizes.length - (intOf i).toNat)
  case atStart =>
    exact ⟨0, Nat.zero_le _, rfl, rfl, Own.empty W1 HZ.out.symm (Nat.le_refl _), HB.nx (below_alloc W1 _)⟩
  case round =>
    obtain ⟨k, hk1, rfl, rfl, hown, HBr⟩ := hrel
    obtain ⟨⟨q1, q2, q3⟩, r1, r2, r3⟩ := HBr.blk.all3
    have hbk := hb8 k hk1
    have hsz1 : w.heap.size + 1 ≤ wr.heap.size := by have := HBr.size; omega
    by_cases hlt : k < F.sizes.length
    · have HS := hid (placesF_snoc F.aligned F.sizes k hlt)
      obtain ⟨b, off, rfl, hx⟩ := HBr.elem k hlt
      have hxs := hsz F.sizes[k] (List.getElem_mem hlt)
      generalize placesF F.aligned (F.sizes.take k) = p at *
      obtain ⟨P, E⟩ := p
      simp only at hown hbk ⊢
      have HL1 := hid (show P.length ≤ 1000000000000 by omega)
      have HP := hid hown
      clear hb8 hsz hown HB h0 hv
      have hE1 : 0 ≤ E ∧ E ≤ 1000 := by omega
      rcases hal : F.aligned with _ | _
      · have HAL := hid hal
        rw [hal] at q3
        clear hal hbk
        go_wp2_with (at_builtin; refine app1 _ rfl _ _ rfl (w.heap.size + 1) _ P rfl (HP.out.alloc _) ⟨wr.heap.size, 0, none⟩ 1 E rfl (cell_new1 _ _ _) HL1.out (le_alloc hsz1 _) ?_)
        intro v1 w1 ho1 hg1 hat1
        have hq := (((below_alloc wr (.cells #[.int .i64 E] 3)).mono hsz1).trans ((HP.out.alloc _).under hg1 (le_alloc hsz1 _)))
        have HB1 := HBr.low hq (Nat.lt_succ_self _)
        clear q1 q2 q3 r1 r2 r3 hx
        have HAT := hid hat1
        clear hat1 hg1
        go_wp2
        go_roundw
        case rel => exact ⟨k + 1, by omega, by go_num, by rw [HS.out]; simp [placeStep, HAL.out], by rw [HS.out]; simpa [placeStep, HAL.out] using ho1, HB1⟩
        case measure => simp [intOf]; omega
      · have HAL := hid hal
        rw [hal] at q3
        clear hal hbk
        have hu := up_range E hxs
        go_wp2_with fail
        refine (iRoundUp_any _ _ _ hE1 hxs).mono ?_; rintro e w' ⟨rfl, rfl⟩
        generalize hU : up E F.sizes[k] = U at *
        have HU := hid hU
        clear hU
        go_wp2_with (at_builtin; refine app1 _ rfl _ _ rfl (w.heap.size + 1) _ P rfl (HP.out.alloc _) ⟨wr.heap.size, 0, none⟩ 1 U rfl (cell_new1 _ _ _) HL1.out (le_alloc hsz1 _) ?_)
        intro v1 w1 ho1 hg1 hat1
        have hq := (((below_alloc wr (.cells #[.int .i64 U] 3)).mono hsz1).trans ((HP.out.alloc _).under hg1 (le_alloc hsz1 _)))
        have HB1 := HBr.low hq (Nat.lt_succ_self _)
        clear q1 q2 q3 r1 r2 r3 hx
        have HAT := hid hat1
        clear hat1 hg1
        go_wp2
        go_roundw
        case rel => exact ⟨k + 1, by omega, by go_num, by rw [HS.out]; simp [placeStep, HAL.out, HU.out], by rw [HS.out]; simpa [placeStep, HAL.out, HU.out] using ho1, HB1⟩
        case measure => simp [intOf]; omega
    · obtain rfl : k = F.sizes.length := by omega
      rw [List.take_length] at hown
      have hb := HBr.below
      have HP := hid hown
      clear hown
      go_wp2
      go_ret
      exact ⟨_, rfl, HP.out.mono (by omega), hb⟩

set_option maxRecDepth 100000 in
set_option maxHeartbeats 6400000 in
theorem Max_any (v : Value) (xs : List Int) (w : World) (h : Ints w v xs) (hl : 1 ≤ xs.length) (hsz : ∀ s ∈ xs, s = 1 ∨ s = 2 ∨ s = 4) :
    Calls Try.prog 66 #[v] w fun e w' => e = .returned (.int .i64 (mostF xs)) ∧ w = w' := by
  obtain ⟨A, c, rfl, h1, h2, h3⟩ := h
  unfold maxLen at h2
  obtain ⟨b, off, rfl, hb, hc⟩ := h3 (by omega)
  have hx0 := hc 0 xs[0] (by simp [show 0 < xs.length by omega])
  rw [Nat.add_zero] at hx0
  have hs0 := hsz xs[0] (List.getElem_mem (by omega))
  have e1 : mostF (xs.take 1) = xs[0] := by
    rw [mostF_snoc xs 0 (by omega)]
    have : mostF (xs.take 0) = 1 := rfl
    rw [this]; omega
  have HE := hid e1
  clear e1 h3
  go_enter Try.func66, Try.ntmps66
  go_wp2
  go_loop [3, 4] (fun m i => ∃ k : Nat, 1 ≤ k ∧ k ≤ xs.length ∧ i = .int .i64 k ∧ m = .int .i64 (mostF (xs.take k))) (fun _ i => xs.length - (intOf i).toNat)
  case atStart => exact ⟨1, Nat.le_refl _, hl, rfl, by rw [HE.out]⟩
  case round =>
    obtain ⟨k, hk0, hk1, rfl, rfl⟩ := hrel
    by_cases hlt : k < xs.length
    · have hx := hc k xs[k] (by simp [hlt])
      have HM := hid (mostF_snoc xs k hlt)
      have hmk := mostF_bd hsz k hk1
      have hxs := hsz xs[k] (List.getElem_mem hlt)
      generalize mostF (xs.take k) = M at *
      clear hc hsz hx0 hs0
      rcases Int.lt_or_le M xs[k] with hmx | hmx
      · go_wp2
        go_round
        case rel => exact ⟨k + 1, by omega, by omega, by go_num, by rw [HM.out, Int.max_eq_right (by omega)]⟩
        case measure => simp [intOf]; omega
      · go_wp2
        go_round
        case rel => exact ⟨k + 1, by omega, by omega, by go_num, by rw [HM.out, Int.max_eq_left (by omega)]⟩
        case measure => simp [intOf]; omega
    · obtain rfl : k = xs.length := by omega
      rw [List.take_length]
      clear hc hsz hx0 hs0
      go_wp2
      go_ret
      exact ⟨rfl, rfl⟩

set_option maxRecDepth 100000 in
set_option maxHeartbeats 6400000 in
theorem itemSize_any (v : Value) (F : FL) (w : World) (hv : FormatV w v F) (hok : isFormatL F = true) :
    Calls Try.prog 40 #[v] w fun e w' => e = .returned (.int .i64 (sizeF F)) ∧ Below w.heap.size w w' := by
  obtain ⟨A, c, rfl, hk, hm, h0⟩ := hv.form
  obtain ⟨hl1, hl5, hsz⟩ := isFormat_iff.1 hok
  have HB := FBox.new h0
  have hpl := psF_length hok
  have hsb := size_bd hok
  have hge := sizeF_ge F hsz
  have hmb := mostF_bd hsz F.sizes.length (Nat.le_refl _)
  rw [List.take_length] at hmb
  have HSZ := hid (show sizeF F = if F.aligned then up (placesF F.aligned F.sizes).2 (mostF F.sizes) else (placesF F.aligned F.sizes).2 from rfl)
  obtain ⟨L, hL1⟩ : ∃ L, F.sizes.length = L + 1 := ⟨F.sizes.length - 1, by omega⟩
  have hpp : (psF F)[L]? = some ((psF F).getD L 0) := by simp [show L < (psF F).length by omega]
  have hlast := hid (last_end hok L hL1.symm)
  have hin := psF_in hok L (by omega)
  have hel := fun {W : World} (h : FBox w W A c F) => h.elem L (by omega)
  generalize (placesF F.aligned F.sizes).2 = E at *
  generalize (psF F).getD L 0 = p at *
  generalize F.sizes[L]'(by omega) = s at *
  have HOK := hid hok
  have hLl : L < F.sizes.length := by omega
  have hLp : L < (psF F).length := by omega
  have HPL := hid hpl
  have HPP := hpp
  have HSS := hid hsz
  have hE1 : 0 ≤ E ∧ E ≤ 1000 := by have := hlast.out; omega
  have hwp : IntKind.i64.wrap (p + s) = E := by rw [IntWalk.i64_in _ (by omega)]; exact hlast.out
  have HLI := hid (show ((F.sizes.length : Int) - 1) = (L : Int) by omega)
  clear hsz hok hv h0 hpl hL1
  go_enter Try.func40, Try.ntmps40
  go_upto_region 2 with fail
  rw [HLI.out]
  generalize w.alloc (.cells #[.slice A F.sizes.length c, .bool F.big, .bool F.aligned] 25) = W1 at *
  obtain ⟨b, off, rfl, hx⟩ := hel HB
  clear hel
  have HBd := HB.nx (below_drew W1)
  obtain ⟨⟨q1, q2, q3⟩, r1, r2, r3⟩ := HBd.blk.all3
  obtain ⟨p1, p2, p3⟩ := HB.blk.all3.1
  have qb := fun x : ExtW W1 => (HB.nx x.h).blk.all3.1
  have qx := fun x : ExtW W1 => (x.h.cell (p := ⟨b, off + L, none⟩) (World.block_lt_of_cell? W1 _ hx)).trans hx
  refine region_mk 12 (by kernel_rfl) (by kernel_rfl) ?_
  apply Exists.intro
  simp only [List.take_succ_cons, List.take_zero, List.drop_succ_cons, List.drop_zero]
  (apply grow_val (by rfl); (focus (intro x; (go_simp; try with_reducible rfl); done)); simp only [Act.put, List.setIfInBounds_toArray, List.set_cons_zero, List.set_cons_succ])
  apply grow_rowF (fun v => v) idf_inj (psF F) (by rw [HPL.out];omega) (by rfl)
  · intro x hF K Q hK
    go_simp
    (go_at_call 41; refine (placesOf_any _ F _ (HB.nx x.h).format HOK.out).mono ?_; rintro e w' ⟨v', rfl, ho, hb⟩; exact hK _ _ hb ho)
  intro g1 c1 hg1 F1 O1 hF1 hO1
  simp only [Act.put, List.setIfInBounds_toArray, List.set_cons_zero, List.set_cons_succ]
  (apply grow_val (by rfl); (focus (intro x; (go_simp; try with_reducible rfl); done)); simp only [Act.put, List.setIfInBounds_toArray, List.set_cons_zero, List.set_cons_succ])
  apply grow_idx g1 (L) (.int .i64 (p)) (by rfl)
  · intro x hF
    refine ⟨by (go_simp; try with_reducible rfl), HasCell.of_own (hF1 _ (hF 1 (by kernel_rfl))) (by assumption)⟩
  intro g3 F3 hF3
  simp only [Act.put, List.setIfInBounds_toArray, List.set_cons_zero, List.set_cons_succ]
  apply grow_read (.int .i64 p) (by rfl)
  · intro x hF
    have hy := hF3 _ (hF 3 (by kernel_rfl))
    have hy1 := hy.1
    clear hF hy
    go_simp
  simp only [Act.put, List.setIfInBounds_toArray, List.set_cons_zero, List.set_cons_succ]
  repeat (first
    | (apply grow_val (by rfl); (focus (intro x; (go_simp; try with_reducible rfl); done)); simp only [Act.put, List.setIfInBounds_toArray, List.set_cons_zero, List.set_cons_succ])
    | (apply grow_skip (by rfl); simp only [Act.put, List.setIfInBounds_toArray, List.set_cons_zero, List.set_cons_succ]))
  refine grow_nil ?_
  rintro ⟨W2, hb2⟩ hF hS
  have hb2 : Below W1.heap.size W1 W2 := hb2
  clear hF hS hF1 hF3 hO1 qb qx q1 q2 q3 r1 r2 r3 p1 p2 p3 hx HBd
  have HB2 := HB.nx hb2
  have hb := HB2.below
  have hin2 := HB2.ints
  obtain ⟨⟨q1, q2, q3⟩, r1, r2, r3⟩ := HB2.blk.all3
  rcases hal : F.aligned with _ | _
  · have HR := hid (show E = sizeF F by rw [HSZ.out, hal]; rfl)
    rw [hal] at q3
    clear hal
    go_wp2
    go_ret
    exact ⟨ret_int HR.out, hb⟩
  · have HR := hid (show up E (mostF F.sizes) = sizeF F by rw [HSZ.out, hal]; rfl)
    rw [hal] at q3
    clear hal
    go_wp2_with fail
    refine (Max_any _ F.sizes _ hin2 hl1 HSS.out).mono ?_; rintro e w' ⟨rfl, rfl⟩
    generalize mostF F.sizes = M at *
    go_wp2_with fail
    refine (iRoundUp_any _ _ _ hE1 hmb).mono ?_; rintro e w' ⟨rfl, rfl⟩
    go_wp2
    go_ret
    exact ⟨ret_int HR.out, hb⟩

end Go.Proofs.Ytmiamnaholnnoaa
