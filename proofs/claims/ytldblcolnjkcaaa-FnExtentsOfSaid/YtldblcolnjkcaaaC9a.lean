/- Contracts: strides by rows and columns. No conditions. -/
import Derived.Test.YtldblcolnjkcaaaC3
import Derived.Outline
namespace Go.Proofs.Ytldblcolnjkcaaa
open Go.RowKit
set_option maxRecDepth 100000 in
set_option maxHeartbeats 400000 in
theorem irowStrides_any (v : Value) (shape : List Int) (w : World) (h : Ints w v shape) (hok : isShapeL shape = true) :
    Calls Try.prog 95 #[v] w (RetOwn w (rowS shape)) := by
  obtain ⟨hs1, hs2, hs3⟩ := shape_ext hok
  have HX := hid hs2; clear hs2 hok
  have h0 := h
  obtain ⟨A, c, rfl, h1, h2, h3⟩ := h
  unfold maxLen at h2
  go_enter Try.func95, Try.ntmps95
  go_wp2_with (at_make; refine mk0 _ rfl _ _ rfl shape.length rfl rfl (by omega) ?_)
  intro w0 hown0 hb0
  go_wp2
  go_loopw [10] (fun i wr => ∃ (k : Nat) (ys : List Int), k ≤ shape.length ∧ i = .int .i64 k ∧ ys.length = shape.length ∧ Hid (ys.take k = (rowS shape).take k) ∧
      Own wr w.heap.size (.slice (some ⟨w.heap.size, 0, none⟩) shape.length shape.length) ys ∧ Below w.heap.size w wr) (fun i _ => shape.length - (intOf i).toNat)
  case atStart => exact ⟨0, _, Nat.zero_le _, rfl, by simp, hid (by simp), hown0, hb0⟩
  case round =>
    obtain ⟨k, ys, hk, rfl, hyl, hyt, hown, hb⟩ := hrel
    by_cases hlt : k < shape.length
    · obtain ⟨b, off, rfl, hltb, hc⟩ := h3 (by omega)
      have hyk : k < ys.length := by omega
      have hy := hown.cell k hyk
      have hf := hown.free k
      have HL := hid hyl
      have hkr : k < (rowS shape).length := by rw [rowS_length]; exact hlt
      have HG := hid (rowS_get shape k hlt)
      have HPW := hid (prodW_eq (xs := shape.drop (k + 1)) (by simp; omega) (fun x hx => HX.out x (List.mem_of_mem_drop hx)))
      have HO := hid (hown.put k (prodW (shape.drop (k + 1))))
      have HB := hid (hb.setCell (p := ⟨w.heap.size, k, none⟩) (Nat.le_refl _) (.int .i64 (prodW (shape.drop (k + 1)))))
      have HT := hid (take_set_self ys (rowS shape) k (prodW (shape.drop (k + 1))) hyk hyt.out (by rw [take_snocI _ k hkr, HG.out, HPW.out.1]))
      have hI := (h0.ext hb)
      clear hc h3 hown hyl
      by_cases hcap : c = k + 1
      · subst hcap
        have hJ := Ints.dropAll (k := k + 1) hI rfl
        rw [show shape.length - (k + 1) = 0 by omega] at hJ
        go_wp2_with fail
        refine (countOf_any _ (shape.drop (k + 1)) _ hJ).mono ?_
        rintro e w' ⟨rfl, rfl⟩
        go_wp2
        go_roundw
        case rel => exact ⟨k + 1, _, by omega, by go_num, by rw [List.length_set]; exact HL.out, HT, HO.out, HB.out⟩
        case measure => simp [intOf]; omega
      · go_wp2_with fail
        refine (countOf_any _ (shape.drop (k + 1)) _ ?_).mono ?_
        rotate_left
        rintro e w' ⟨rfl, rfl⟩
        go_wp2
        go_roundw
        case rel => exact ⟨k + 1, _, by omega, by go_num, by rw [List.length_set]; exact HL.out, HT, HO.out, HB.out⟩
        case measure => simp [intOf]; omega
        exact hI.drop (k + 1) (by omega)
    · have e : k = shape.length := by omega
      have HE := hid (show ys = rowS shape by have := hyt.out; rwa [e, List.take_of_length_le (by omega), List.take_of_length_le (by rw [rowS_length]; omega)] at this)
      clear e hyl
      go_wp2
      go_ret
      exact ⟨_, rfl, by rw [← HE.out]; exact hown, hb⟩

end Go.Proofs.Ytldblcolnjkcaaa
