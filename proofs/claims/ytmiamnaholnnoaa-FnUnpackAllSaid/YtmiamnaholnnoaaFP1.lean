/- Contracts: formats asked for validity, places, size; the format that the law on padding draws. No conditions. -/
import Derived.Test.YtmiamnaholnnoaaQ5
import Derived.Test.YtmiamnaholnnoaaRD3
namespace Go.Proofs.Ytmiamnaholnnoaa
open Go.RowKit

set_option maxRecDepth 100000 in
set_option maxHeartbeats 6400000 in
theorem ValidFormat_any (v : Value) (F : FL) (w : World) (hv : FormatV w v F) :
    Calls Try.prog 13 #[v] w fun e w' => e = .returned (.bool (isFormatL F)) ∧ Below w.heap.size w w' := by
  obtain ⟨A, c, rfl, hk, hm, h0⟩ := hv.form
  have HB := FBox.new h0
  go_enter Try.func13, Try.ntmps13
  go_wp2_with fail
  have hz := HB.below
  generalize w.alloc (.cells #[.slice A F.sizes.length c, .bool F.big, .bool F.aligned] 25) = W1 at *
  refine (isFormat_any _ F _ HB.format).mono ?_; rintro e w1 ⟨rfl, hb1⟩
  go_wp2
  go_ret
  exact ⟨rfl, hz.nx hb1 hz.size⟩

set_option maxRecDepth 100000 in
set_option maxHeartbeats 6400000 in
theorem PlacesOf_any (v : Value) (F : FL) (w : World) (hv : FormatV w v F) (hok : isFormatL F = true) :
    Calls Try.prog 14 #[v] w (RetOwn w (psF F)) := by
  obtain ⟨A, c, rfl, hk, hm, h0⟩ := hv.form
  have HB := FBox.new h0
  have HO := hid hok
  clear hok
  go_enter Try.func14, Try.ntmps14
  go_wp2_with fail
  have hz := HB.below
  generalize w.alloc (.cells #[.slice A F.sizes.length c, .bool F.big, .bool F.aligned] 25) = W1 at *
  refine (isFormat_any _ F _ HB.format).mono ?_; rintro e w1 ⟨rfl, hb1⟩
  have HB1 := HB.nx hb1
  rw [HO.out]
  obtain ⟨⟨q0, q1, q2⟩, -⟩ := id HB1.blk.all3
  have hz1 := hz.nx hb1 hz.size
  go_wp2_with fail
  refine (placesOf_any _ F _ HB1.format HO.out).mono ?_; rintro e w2 ⟨s, rfl, ho, hb2⟩
  go_wp2
  go_ret
  exact ⟨s, rfl, ho.mono hz1.size, hz1.nx hb2 hz1.size⟩

set_option maxRecDepth 100000 in
set_option maxHeartbeats 6400000 in
theorem ItemSize_any (v : Value) (F : FL) (w : World) (hv : FormatV w v F) (hok : isFormatL F = true) :
    Calls Try.prog 21 #[v] w fun e w' => e = .returned (.int .i64 (sizeF F)) ∧ Below w.heap.size w w' := by
  obtain ⟨A, c, rfl, hk, hm, h0⟩ := hv.form
  have HB := FBox.new h0
  have HO := hid hok
  clear hok
  go_enter Try.func21, Try.ntmps21
  go_wp2_with fail
  have hz := HB.below
  generalize w.alloc (.cells #[.slice A F.sizes.length c, .bool F.big, .bool F.aligned] 25) = W1 at *
  refine (isFormat_any _ F _ HB.format).mono ?_; rintro e w1 ⟨rfl, hb1⟩
  have HB1 := HB.nx hb1
  rw [HO.out]
  obtain ⟨⟨q0, q1, q2⟩, -⟩ := id HB1.blk.all3
  have hz1 := hz.nx hb1 hz.size
  go_wp2_with fail
  refine (itemSize_any _ F _ HB1.format HO.out).mono ?_; rintro e w2 ⟨rfl, hb2⟩
  go_wp2
  go_ret
  exact ⟨rfl, hz1.nx hb2 hz1.size⟩

/-- What a draw of a format leaves. -/
def RetDrawF (w : World) (e : Ending) (w' : World) : Prop := ∃ (F : FL) (sv : Value), e = .returned (.agg #[sv, .bool F.big, .bool F.aligned]) ∧ F.sizes.length ≤ 5 ∧ Own w' w.heap.size sv F.sizes ∧ Below w.heap.size w w'

set_option maxRecDepth 100000 in
set_option maxHeartbeats 6400000 in
theorem DrawPaddingOf_any (v : Value) (n : Nat) (w : World) (h : BytesV w v n) :
    Calls Try.prog 9 #[v] w (RetDrawF w) := by
  have hb0 := below_alloc w (.cells #[.slice none 0 0, .bool false, .bool false] 25)
  have hZ := Blk.new w 25 #[.slice none 0 0, .bool false, .bool false]
  have h1 := h.ext hb0
  have hz0 : w.heap.size + 1 ≤ (w.alloc (.cells #[.slice none 0 0, .bool false, .bool false] 25)).heap.size := by simp
  go_enter Try.func9, Try.ntmps9
  go_wp2_with fail
  generalize (w.alloc (.cells #[.slice none 0 0, .bool false, .bool false] 25)) = w0 at *
  refine (newReader_any _ n _ h1).mono ?_; rintro e w1 ⟨rfl, hR, hb1, hlt⟩
  go_wp2_with fail
  refine (someFormat_any _ _ _ _ hR (by omega)).mono ?_; rintro e w2 ⟨F, sv, q, rfl, hl, hx, hO, hq, hR2, hG2⟩
  have hz1 := hb1.size
  have hz2 := hG2.size
  have hZ2 := (hZ.nx hb1).grown hG2 (by omega)
  have hB2 : Below w.heap.size w w2 := (hb0.nx hb1 hb0.size).trans (Own.below hG2 (by omega) (fun k e => by injection e with e; omega))
  obtain ⟨⟨q0, q1, q2⟩, qf0, qf1, qf2⟩ := hZ2.all3
  obtain ⟨A, c, rfl⟩ := hO.form
  have HB := hid (below3 hB2 (Nat.le_refl _) (.slice A F.sizes.length c) (.bool F.big) (.bool F.aligned))
  have HO := hid (own3b (hO.mono (B' := w.heap.size + 1) (by omega)) (g := w.heap.size) (by omega) (.slice A F.sizes.length c) (.bool F.big) (.bool F.aligned))
  obtain ⟨⟨r0, r1, r2⟩, -⟩ := (hZ2.store3 (.slice A F.sizes.length c) (.bool F.big) (.bool F.aligned)).all3
  clear hZ hZ2 hb0 hb1 hG2 hR2 hB2 hO hx
  have HL := hid hl
  clear hl
  go_wp2
  refine bodyPost_ret (v := .agg #[.slice A F.sizes.length c, .bool F.big, .bool F.aligned]) (by simp [results, Try.results9, go_sem, r0, r1, r2]) rfl ?_
  exact ⟨F, _, rfl, HL.out, HO.out.mono (by omega), HB.out⟩

end Go.Proofs.Ytmiamnaholnnoaa
