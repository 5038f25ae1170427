/- Contracts: formats: places of fields. No conditions. -/
import Derived.Test.YtmiamnaholnnoaaQ3
namespace Go.Proofs.Ytmiamnaholnnoaa
open Go.RowKit

/-- What places leaves: a new list of places, and the size. -/
def RetPlaces (w : World) (F : FL) (e : Ending) (w' : World) : Prop := ∃ v, e = .returned (.tuple #[v, .int .i64 (sizeF F)]) ∧ Own w' w.heap.size v (psF F) ∧ Below w.heap.size w w'
/-- Between the rounds. -/
def PlRel (w : World) (A : Option Addr) (c : Nat) (F : FL) (out at_ most i : Value) (wr : World) : Prop :=
  ∃ k : Nat, k ≤ F.sizes.length ∧ i = .int .i64 k ∧ at_ = .int .i64 (placesF F.aligned (F.sizes.take k)).2 ∧ most = .int .i64 (if F.aligned then mostF (F.sizes.take k) else 1) ∧
    Own wr (w.heap.size + 1) out (placesF F.aligned (F.sizes.take k)).1 ∧ FBox w wr A c F
theorem RetPlaces.of {w : World} {F : FL} {out at_ : Value} {w' : World} (hat : at_ = .int .i64 (sizeF F)) (h1 : Own w' (w.heap.size + 1) out (psF F)) (hb : Below w.heap.size w w') : RetPlaces w F (.returned (.tuple #[out, at_])) w' :=
  ⟨out, by rw [hat], h1.mono (by omega), hb⟩

set_option maxRecDepth 100000 in
set_option maxHeartbeats 6400000 in
theorem places_any (v : Value) (F : FL) (w : World) (hv : FormatV w v F) (hok : isFormatL F = true) :
    Calls Try.prog 43 #[v] w (RetPlaces w F) := by
  obtain ⟨A, c, rfl, hk, hm, h0⟩ := hv.form
  obtain ⟨hl1, hl5, hsz⟩ := isFormat_iff.1 hok
  have hb8 := placesF_bd (al := F.aligned) hsz
  have hm8 := mostF_bd hsz
  have HB := FBox.new h0
  have hE := below_alloc w (.cells #[.slice A F.sizes.length c, .bool F.big, .bool F.aligned] 25)
  go_enter Try.func43, Try.ntmps43
  go_wp2_with fail
  generalize hW1 : w.alloc (.cells #[.slice A F.sizes.length c, .bool F.big, .bool F.aligned] 25) = W1 at *
  have HZ := hid (show W1.heap.size = w.heap.size + 1 by rw [← hW1]; simp)
  clear hW1 hE
  go_loopw [4, 5, 6, 7] (fun out at_ most i wr => PlRel w A c F out at_ most i wr) (fun _ _ _ i _ => F.sizes.length - (intOf i).toNat)
  case atStart =>
    refine ⟨0, Nat.zero_le _, rfl, rfl, ?_, Own.empty W1 HZ.out.symm (Nat.le_refl _), HB.nx (below_alloc W1 _)⟩
    simp [mostF]
  case round =>
    obtain ⟨k, hk1, rfl, rfl, rfl, hown, HBr⟩ := hrel
    obtain ⟨⟨q1, q2, q3⟩, r1, r2, r3⟩ := HBr.blk.all3
    have hbk := hb8 k hk1
    have hsz1 : w.heap.size + 1 ≤ wr.heap.size := by have := HBr.size; omega
    by_cases hlt : k < F.sizes.length
    · have HS := hid (placesF_snoc F.aligned F.sizes k hlt)
      have HM := hid (mostF_snoc F.sizes k hlt)
      have hmk := hm8 k hk1
      obtain ⟨b, off, rfl, hx⟩ := HBr.elem k hlt
      have hxs := hsz F.sizes[k] (List.getElem_mem hlt)
      generalize mostF (F.sizes.take k) = M at *
      generalize placesF F.aligned (F.sizes.take k) = p at *
      obtain ⟨P, E⟩ := p
      simp only at hown hbk ⊢
      have HL1 := hid (show P.length ≤ 1000000000000 by omega)
      have HP := hid hown
      clear hb8 hm8 hsz hown HB h0 hv
      have hE1 : 0 ≤ E ∧ E ≤ 1000 := by omega
      rcases hal : F.aligned with _ | _
      · have HAL := hid hal
        rw [hal] at q3
        clear hal hbk
        simp only [Bool.false_eq_true, if_false]
        go_wp2_with (at_builtin; refine app1 _ rfl _ _ rfl (w.heap.size + 1) _ P rfl (HP.out.alloc _) ⟨wr.heap.size, 0, none⟩ 1 E rfl (cell_new1 _ _ _) HL1.out (le_alloc hsz1 _) ?_)
        intro v1 w1 ho1 hg1 hat1
        have hq := (((below_alloc wr (.cells #[.int .i64 E] 3)).mono hsz1).trans ((HP.out.alloc _).under hg1 (le_alloc hsz1 _)))
        have HB1 := HBr.low hq (Nat.lt_succ_self _)
        clear q1 q2 q3 r1 r2 r3 hx
        obtain ⟨⟨q1, q2, q3⟩, r1, r2, r3⟩ := HB1.blk.all3
        obtain ⟨b', off', e', hx⟩ := HB1.elem k hlt
        simp only [Option.some.injEq, Addr.mk.injEq, and_true] at e'
        obtain ⟨rfl, rfl⟩ := e'
        have HAT := hid hat1
        clear hat1 hg1
        go_wp2
        go_roundw
        case rel => exact ⟨k + 1, by omega, by go_num, by rw [HS.out]; simp [placeStep, HAL.out], by simp [HAL.out], by rw [HS.out]; simpa [placeStep, HAL.out] using ho1, HB1⟩
        case measure => simp [intOf]; omega
      · have HAL := hid hal
        rw [hal] at q3
        clear hal hbk
        simp only [if_true]
        have hu := up_range E hxs
        go_wp2_with fail
        refine (sRoundUp_any _ _ _ hE1 hxs).mono ?_; rintro e w' ⟨rfl, rfl⟩
        generalize hU : up E F.sizes[k] = U at *
        have HU := hid hU
        clear hU
        rcases Int.lt_or_le M F.sizes[k] with hmx | hmx
        · go_wp2_with (at_builtin; refine app1 _ rfl _ _ rfl (w.heap.size + 1) _ P rfl (HP.out.alloc _) ⟨wr.heap.size, 0, none⟩ 1 U rfl (cell_new1 _ _ _) HL1.out (le_alloc hsz1 _) ?_)
          intro v1 w1 ho1 hg1 hat1
          have hq := (((below_alloc wr (.cells #[.int .i64 U] 3)).mono hsz1).trans ((HP.out.alloc _).under hg1 (le_alloc hsz1 _)))
          have HB1 := HBr.low hq (Nat.lt_succ_self _)
          clear q1 q2 q3 r1 r2 r3 hx
          obtain ⟨⟨q1, q2, q3⟩, r1, r2, r3⟩ := HB1.blk.all3
          obtain ⟨b', off', e', hx⟩ := HB1.elem k hlt
          simp only [Option.some.injEq, Addr.mk.injEq, and_true] at e'
          obtain ⟨rfl, rfl⟩ := e'
          have HAT := hid hat1
          clear hat1 hg1
          go_wp2
          go_roundw
          case rel => exact ⟨k + 1, by omega, by go_num, by rw [HS.out]; simp [placeStep, HAL.out, HU.out], by rw [HAL.out, if_pos rfl, HM.out, Int.max_eq_right (by omega)], by rw [HS.out]; simpa [placeStep, HAL.out, HU.out] using ho1, HB1⟩
          case measure => simp [intOf]; omega
        · go_wp2_with (at_builtin; refine app1 _ rfl _ _ rfl (w.heap.size + 1) _ P rfl (HP.out.alloc _) ⟨wr.heap.size, 0, none⟩ 1 U rfl (cell_new1 _ _ _) HL1.out (le_alloc hsz1 _) ?_)
          intro v1 w1 ho1 hg1 hat1
          have hq := (((below_alloc wr (.cells #[.int .i64 U] 3)).mono hsz1).trans ((HP.out.alloc _).under hg1 (le_alloc hsz1 _)))
          have HB1 := HBr.low hq (Nat.lt_succ_self _)
          clear q1 q2 q3 r1 r2 r3 hx
          obtain ⟨⟨q1, q2, q3⟩, r1, r2, r3⟩ := HB1.blk.all3
          obtain ⟨b', off', e', hx⟩ := HB1.elem k hlt
          simp only [Option.some.injEq, Addr.mk.injEq, and_true] at e'
          obtain ⟨rfl, rfl⟩ := e'
          have HAT := hid hat1
          clear hat1 hg1
          go_wp2
          go_roundw
          case rel => exact ⟨k + 1, by omega, by go_num, by rw [HS.out]; simp [placeStep, HAL.out, HU.out], by rw [HAL.out, if_pos rfl, HM.out, Int.max_eq_left (by omega)], by rw [HS.out]; simpa [placeStep, HAL.out, HU.out] using ho1, HB1⟩
          case measure => simp [intOf]; omega
    · obtain rfl : k = F.sizes.length := by omega
      have HS := hid (show sizeF F = if F.aligned then up (placesF F.aligned F.sizes).2 (mostF F.sizes) else (placesF F.aligned F.sizes).2 from rfl)
      have HP := hid (show psF F = (placesF F.aligned F.sizes).1 from rfl)
      have hmk := hm8 F.sizes.length (Nat.le_refl _)
      rw [List.take_length] at hown hbk hmk ⊢
      clear hb8 hm8 hsz
      generalize mostF F.sizes = M at *
      generalize placesF F.aligned F.sizes = p at *
      obtain ⟨P, E⟩ := p
      simp only at hown hbk ⊢
      have hE1 : 0 ≤ E ∧ E ≤ 1000 := by omega
      have hb := HBr.below
      have HB2 := hid (show (if F.aligned = true then M else 1) = 1 ∨ (if F.aligned = true then M else 1) = 2 ∨ (if F.aligned = true then M else 1) = 4 by split <;> omega)
      generalize hMM : (if F.aligned = true then M else 1) = MM at *
      have HMM := hid hMM
      clear hMM
      go_wp2_with fail
      refine (sRoundUp_any _ _ _ hE1 HB2.out).mono ?_; rintro e w' ⟨rfl, rfl⟩
      go_wp2
      refine bodyPost_ret (v := .tuple #[u4, .int .i64 (up E MM)]) (by simp [results, Try.results43, go_sem]) rfl ?_
      refine RetPlaces.of ?_ (by rw [HP.out]; exact hown) hb
      rw [HS.out, ← HMM.out]
      cases F.aligned <;> simp [up_one]

end Go.Proofs.Ytmiamnaholnnoaa
