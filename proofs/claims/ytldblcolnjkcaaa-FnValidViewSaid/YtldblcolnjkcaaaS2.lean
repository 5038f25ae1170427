/- Contracts of the reference: all offsets of a view, valid views. No conditions. -/
import Derived.Test.YtldblcolnjkcaaaS1
import Derived.Test.YtldblcolnjkcaaaC4
import Derived.Outline
import Derived.Deep.RegionHeld3
namespace Go.Proofs.Ytldblcolnjkcaaa
open Go.RowKit

set_option maxRecDepth 100000 in
set_option maxHeartbeats 400000 in
theorem offsets_any (v : Value) (V : VL) (w : World) (hv : ViewV w v V) (hok : isShapeL V.shape = true) (hlen : V.shape.length = V.strides.length) :
    Calls Try.prog 130 #[v] w (RetOwn w (offs V)) := by
  have hv0 := hv
  obtain ⟨sv, tv, rfl, hsv, htv⟩ := hv
  have HL := hid hlen
  obtain ⟨hs1, hs2, hs3⟩ := shape_ext hok
  obtain ⟨hp1, hp2, hp3⟩ := shape_prod hok
  have hs60 : prodW V.shape ≤ 60 := by omega
  have hs0 : 0 ≤ prodW V.shape := by omega
  have HX := hid (show 0 < prodW V.shape → ∀ x ∈ V.shape, 1 ≤ x ∧ x ≤ 60 from fun h x hx => ⟨prodI_pos (fun x hx => (hs2 x hx).1) (by omega) x hx, (hs2 x hx).2⟩)
  obtain ⟨n, hn⟩ : ∃ n : Nat, prodW V.shape = n := ⟨(prodW V.shape).toNat, by omega⟩
  have HT := hid (fun k (h : k < n) => offs_take V k (by omega))
  have HO : Hid ((offs V).length = n) := by show _ = _; simp [offs, hn]
  clear hlen hok hs2 hp1 hp2 hp3
  have hs4 := hs1; clear hs1
  go_enter Try.func130, Try.ntmps130
  go_wp2
  go_loopw [3, 4] (fun out i wr => ∃ k : Nat, k ≤ n ∧ i = .int .i64 k ∧ Own wr (w.heap.size + 1) out ((offs V).take k) ∧
      Below (w.heap.size + 1) (w.alloc (.cells #[.int .i64 V.base, sv, tv] 43)) wr) (fun _ i _ => n - (intOf i).toNat)
  case atStart => exact ⟨0, Nat.zero_le _, rfl, Own.empty _ (by simp) (by omega), (Below.refl _ _).alloc (by simp) _⟩
  case round =>
    obtain ⟨k, hk, rfl, hown, hb⟩ := hrel
    have hb1 : Below w.heap.size w wr := (below_alloc w _).trans (hb.mono (by omega))
    by_cases hlt : k < n
    · have hB0 : Box wr w.heap.size (.int .i64 V.base) sv tv := (Box.new w _ _ _ _).ext hb (by omega)
      obtain ⟨c0, c1, c2⟩ := id hB0
      have HT1 := hid (HT.out k hlt)
      have HL1 : Hid (((offs V).take k).length = k) := by show _ = _; rw [List.length_take, HO.out]; omega
      have hsz : w.heap.size + 1 ≤ wr.heap.size := by have := hb.size; simp only [World.size_alloc] at this; exact this
      have hk0 : (0 : Int) ≤ k := by omega
      have hk1 : (k : Int) ≤ 100 := by omega
      have HX1 := hid (HX.out (by omega))
      have HU := hid (show (unr V.shape k).length = V.strides.length by rw [unr_length]; exact HL.out)
      have HK := hid (show ((offs V).take k).length ≤ 1000000000000 by rw [HL1.out]; omega)
      go_wp2_with (go_at_call 110; refine (count_any _ V.shape _ (hsv.ext hb1)).mono ?_; rintro e w' ⟨rfl, rfl⟩)
      go_region_held3 (fun w' => w'.cell? ⟨w.heap.size, 0, none⟩ = some (.int .i64 V.base) ∧ w'.cell? ⟨w.heap.size, 1, none⟩ = some sv ∧ w'.cell? ⟨w.heap.size, 2, none⟩ = some tv)
        (first | go_keep | exact hB1 | exact hB2 | exact hB3)
        (first
          | (go_at_call 160; refine (unrank_any _ V.shape _ _ (hsv.ext hb1.drew) HX1.out hs4 hk0 hk1).mono ?_; rintro e w1 ⟨iv, rfl, hiv, hq1⟩; have hB1 := hB0.drew.ext hq1 hsz; have hz1 : w.heap.size + 1 ≤ w1.heap.size := Nat.le_trans hsz hq1.size; have hown1 := hown.drew.ext hq1)
          | (go_at_call 159; refine (offset_any _ _ V (unr V.shape k) _ ((hv0.ext hb1.drew).ext hq1) hiv.ints HU.out).mono ?_; rintro e w2 ⟨rfl, hq2⟩; have hB2 := hB1.ext hq2 hz1; have hz2 : w.heap.size + 1 ≤ w2.heap.size := Nat.le_trans hz1 hq2.size; have hown2 := hown1.ext hq2)
          | (refine step1 _ (by rfl) _ _ (by rfl) (w.heap.size + 1) _ _ (by rfl) (hown2.alloc _) ⟨w2.heap.size, 0, none⟩ 1 (offW V.base (unr V.shape k) V.strides) (by rfl) (cell_new1 _ _ _) HK.out (le_alloc hz2 _) ?_; intro v3 w3 hown3 hg3 hat3; have hq3 := (hown2.alloc _).under hg3 (le_alloc hz2 _); have hB3 := (hB2.alloc hz2 _).ext hq3 (Nat.lt_succ_self _)))
      go_wp2
      go_roundw
      case rel => exact ⟨k + 1, by omega, by go_num, by rw [HT1.out]; exact hown3, hb.trans ((((below_drew wr).trans hq1).mono hsz).trans ((hq2.mono hz1).trans ((((below_alloc w2 _).mono hz2)).trans hq3)))⟩
      case measure => simp [intOf]; omega
    · have hB0 : Box wr w.heap.size (.int .i64 V.base) sv tv := (Box.new w _ _ _ _).ext hb (by omega)
      obtain ⟨c0, c1, c2⟩ := hB0
      go_wp2_with (go_at_call 110; refine (count_any _ V.shape _ (hsv.ext hb1)).mono ?_; rintro e w' ⟨rfl, rfl⟩)
      go_ret
      obtain rfl : k = n := by omega
      refine ⟨_, rfl, ?_, hb1⟩
      rw [List.take_of_length_le (by rw [HO.out]; exact Nat.le_refl _)] at hown
      exact hown.mono (by omega)

theorem offs_none {V : VL} (h : prodW V.shape = 0) : offs V = [] := by simp [offs, h]

set_option maxHeartbeats 800000 in
theorem validView_any (v : Value) (V : VL) (w : World) (hv : ViewV w v V) :
    Calls Try.prog 117 #[v] w fun e w' => e = .returned (.bool (isViewL V)) ∧ Below w.heap.size w w' := by
  have hv0 := hv
  obtain ⟨sv, tv, rfl, hsv, htv⟩ := hv
  have hv1 := hv0.ext (below_alloc w (.cells #[.int .i64 V.base, sv, tv] 43))
  have hs1 := hsv.ext (below_alloc w (.cells #[.int .i64 V.base, sv, tv] 43))
  have ht1 := htv.ext (below_alloc w (.cells #[.int .i64 V.base, sv, tv] 43))
  cases c1 : isShapeL V.shape
  · have HQ := hid (isViewL_shape c1)
    go_enter Try.func117, Try.ntmps117
    go_wp2_with (go_at_call 92; refine (validShape_any _ V.shape _ hs1).mono ?_; rintro e w' ⟨rfl, rfl⟩)
    go_ret
    exact ⟨ret_bool HQ.out.symm, below_alloc _ _⟩
  obtain ⟨A', n', hn', hk', hm', -⟩ := id htv
  obtain ⟨A, n, hn, hk, hm, -⟩ := id hsv
  subst hn hn'
  unfold maxLen at hm hm'
  by_cases c2 : V.strides.length ≠ V.shape.length
  · have HQ := hid (isViewL_len c2)
    go_enter Try.func117, Try.ntmps117
    go_wp2_with (go_at_call 92; refine (validShape_any _ V.shape _ hs1).mono ?_; rintro e w' ⟨rfl, rfl⟩)
    go_ret
    exact ⟨ret_bool HQ.out.symm, below_alloc _ _⟩
  have l1 : V.strides.length ≤ V.shape.length := by omega
  have l2 : V.shape.length ≤ V.strides.length := by omega
  have C1 := hid c1
  have C2 := hid (show V.strides.length = V.shape.length by omega)
  clear c2 hm hm'
  cases c3 : V.strides.all (inR · (-60) 60)
  · have HQ := hid (isViewL_str c3)
    go_enter Try.func117, Try.ntmps117
    go_wp2_with (first | (go_at_call 92; refine (validShape_any _ V.shape _ hs1).mono ?_; rintro e w' ⟨rfl, rfl⟩) | (go_at_call 151; refine (allIn_any _ V.strides _ _ _ ht1).mono ?_; rintro e w' ⟨rfl, rfl⟩))
    go_ret
    exact ⟨ret_bool HQ.out.symm, below_alloc _ _⟩
  have C3 := hid c3
  cases c4 : inR V.base 0 60
  · have HQ := hid (isViewL_base c4)
    go_enter Try.func117, Try.ntmps117
    go_wp2_with (first | (go_at_call 92; refine (validShape_any _ V.shape _ hs1).mono ?_; rintro e w' ⟨rfl, rfl⟩) | (go_at_call 151; refine (allIn_any _ V.strides _ _ _ ht1).mono ?_; rintro e w' ⟨rfl, rfl⟩) | (go_at_call 104; refine (inRange_any _ _ _ _).mono ?_; rintro e w' ⟨rfl, rfl⟩))
    go_ret
    exact ⟨ret_bool HQ.out.symm, below_alloc _ _⟩
  have C4 := hid c4
  have HQ := hid (isViewL_rest c1 C2.out c3 c4)
  have hp2 := (shape_prod c1).2.1
  have hpe := (shape_prod c1).1
  by_cases c5 : prodW V.shape = 0
  · have HQ2 := hid (show isViewL V = true by rw [HQ.out, offs_none c5]; rfl)
    have hz1 : prodW V.shape ≤ 0 := by omega
    have hz2 : 0 ≤ prodW V.shape := by omega
    clear c5 hpe
    go_enter Try.func117, Try.ntmps117
    go_wp2_with (first | (go_at_call 92; refine (validShape_any _ V.shape _ hs1).mono ?_; rintro e w' ⟨rfl, rfl⟩) | (go_at_call 151; refine (allIn_any _ V.strides _ _ _ ht1).mono ?_; rintro e w' ⟨rfl, rfl⟩) | (go_at_call 104; refine (inRange_any _ _ _ _).mono ?_; rintro e w' ⟨rfl, rfl⟩) | (go_at_call 110; refine (count_any _ V.shape _ hs1).mono ?_; rintro e w' ⟨rfl, rfl⟩))
    go_ret
    exact ⟨ret_bool HQ2.out.symm, below_alloc _ _⟩
  · have hz2 : 0 < prodW V.shape := by omega
    have hz3 : (prodW V.shape == 0) = false := by simp; omega
    clear c5 hpe
    go_enter Try.func117, Try.ntmps117
    go_wp2_with fail
    refine (validShape_any _ V.shape _ hs1).mono ?_; rintro e w' ⟨rfl, rfl⟩
    go_wp2_with fail
    refine (allIn_any _ V.strides _ _ _ ht1).mono ?_; rintro e w' ⟨rfl, rfl⟩
    go_wp2_with fail
    refine (inRange_any _ _ _ _).mono ?_; rintro e w' ⟨rfl, rfl⟩
    go_wp2_with fail
    refine (count_any _ V.shape _ hs1).mono ?_; rintro e w' ⟨rfl, rfl⟩
    go_wp2_with fail
    refine (offsets_any _ V _ hv1 C1.out C2.out.symm).mono ?_; rintro e w1 ⟨ov, rfl, hov, hb1⟩
    go_wp2_with fail
    refine (allIn_any _ (offs V) _ _ _ hov.ints).mono ?_; rintro e w' ⟨rfl, rfl⟩
    go_wp2
    go_ret
    exact ⟨ret_bool HQ.out.symm, (below_alloc w _).trans (hb1.mono (by simp))⟩

end Go.Proofs.Ytldblcolnjkcaaa
