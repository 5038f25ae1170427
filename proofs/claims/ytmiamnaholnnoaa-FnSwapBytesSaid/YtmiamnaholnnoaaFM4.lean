/- The law on swapped bytes: the walk. No conditions. -/
import Derived.Test.YtmiamnaholnnoaaUB
import Derived.Test.YtmiamnaholnnoaaFL2
import Derived.Test.YtmiamnaholnnoaaFPj
import Derived.Test.YtmiamnaholnnoaaLE2
import Derived.Test.YtmiamnaholnnoaaGF
import Derived.Deep.Cut
namespace Go.Proofs.Ytmiamnaholnnoaa
open Go.RowKit

theorem swapL_some {F : FL} {bs : List Int} (h : (swapL F bs).length ≠ 0) : okUA F bs = true ∧ swapL F bs = packAllL ⟨F.sizes, !F.big, F.aligned⟩ (unpackAllL F bs) ∧
    unpackAllL ⟨F.sizes, !F.big, F.aligned⟩ (swapL F bs) = unpackAllL F bs ∧ okUA ⟨F.sizes, !F.big, F.aligned⟩ (swapL F bs) = true ∧ swapL ⟨F.sizes, !F.big, F.aligned⟩ (swapL F bs) = packAllL F (unpackAllL F bs) := by
  have hk : okUA F bs = true := by
    cases hc : okUA F bs
    · exact absurd (by simp [swapL, hc]) h
    · rfl
  have e : swapL F bs = packAllL ⟨F.sizes, !F.big, F.aligned⟩ (unpackAllL F bs) := by simp [swapL, hk]
  rw [e] at h
  obtain ⟨h1, h2, h3⟩ := packAll_some h
  have hu := unpackAll_out h1 h2
  have ho := okUA_out h1 h2
  rw [← h3] at hu ho
  rw [e]
  refine ⟨hk, rfl, hu, ho, ?_⟩
  generalize hO : packAllL ⟨F.sizes, !F.big, F.aligned⟩ (unpackAllL F bs) = O at *
  unfold swapL
  rw [if_pos ho, hu]
  simp

set_option maxRecDepth 100000 in
set_option maxHeartbeats 6400000 in
theorem FnSwapBytes_walk (v : Value) (n : Nat) (w : World) (h : BytesV w v n) :
    Calls Try.prog 8 #[v] w fun e w' => e = .returned (.bool true) ∧ Below w.heap.size w w' := by
  have hv := h
  obtain ⟨A, c, rfl, h1, h2, -⟩ := h
  by_cases hn : 1048576 < n
  · have hni : (1048576 : Int) < (n : Int) := by omega
    go_enter Try.func8, Try.ntmps8
    go_wp2
    go_ret
    exact ⟨rfl, Below.refl _ _⟩
  have hni : ¬ (1048576 : Int) < (n : Int) := by omega
  go_enter Try.func8, Try.ntmps8
  go_wp2_with fail
  refine (DrawSwapBytes_any _ n _ hv).mono ?_; rintro e w1 ⟨F, sv, vv, bs, rfl, hl, hS, hV, hvl, -, hb1⟩
  obtain ⟨A1, c1, rfl⟩ := hS.form
  obtain ⟨A2, c2, rfl⟩ := hV.form
  have hBx := FBox.new hS
  have hb2 := below_alloc w1 (.cells #[.slice A1 F.sizes.length c1, .bool F.big, .bool F.aligned] 25)
  have hz := hb1.nx hb2 hb1.size
  have hV := hV.nx hb2
  clear hb1 hb2 hS
  have HL := hid (And.intro hl hvl)
  clear hl hvl
  go_wp2_with fail
  generalize w1.alloc (.cells #[.slice A1 F.sizes.length c1, .bool F.big, .bool F.aligned] 25) = w2 at *
  refine (SwapBytes_any _ _ F bs _ hBx.format hV).mono ?_; rintro e w3 ⟨p1, rfl, hp, hb⟩
  have hBx := hBx.nx hb
  have hz := hz.nx hb hz.size
  have hV := hV.nx hb
  clear hb
  obtain ⟨⟨q0, q1, q2⟩, -⟩ := id hBx.blk.all3
  obtain ⟨Ap, cp, rfl⟩ := hp.form
  go_wp2_with fail
  refine (sSwapBytes_any _ _ F bs _ hBx.format hV).mono ?_; rintro e w4 ⟨p2, rfl, hp2, hb⟩
  have hp := hp.nx hb
  have hBx := hBx.nx hb
  have hz := hz.nx hb hz.size
  have hV := hV.nx hb
  clear q0 q1 q2 hb
  obtain ⟨⟨q0, q1, q2⟩, -⟩ := id hBx.blk.all3
  go_wp2_with fail
  refine (equalInts_same _ _ _ _ hp.ints hp2.ints).mono ?_; rintro e w5 ⟨rfl, hb⟩
  have hp := hp.nx hb
  have hBx := hBx.nx hb
  have hz := hz.nx hb hz.size
  have hV := hV.nx hb
  clear q0 q1 q2 hb hp2
  obtain ⟨⟨q0, q1, q2⟩, -⟩ := id hBx.blk.all3
  by_cases h0 : (swapL F bs).length = 0
  · have h0i : (((swapL F bs).length : Int) == 0) = true := by simp [h0]
    clear h0
    go_wp2_with fail
    refine (sSwapBytes_any _ _ F bs _ hBx.format hV).mono ?_; rintro e w6 ⟨p2, rfl, hp2, hb⟩
    have hp := hp.nx hb
    have hz := hz.nx hb hz.size
    clear q0 q1 q2 hb
    go_wp2_with fail
    refine (equalInts_same _ _ _ _ hp.ints hp2.ints).mono ?_; rintro e w7 ⟨rfl, hb⟩
    go_wp2
    go_ret
    exact ⟨rfl, hz.nx hb hz.size⟩
  · have h0i : (((swapL F bs).length : Int) == 0) = false := by simpa using h0
    have HU := hid (swapL_some h0)
    clear h0
    have hG := hBx.ints
    have hbG := below_alloc w5 (.cells #[.slice A1 F.sizes.length c1, .bool (!F.big), .bool F.aligned] 25)
    have hBg := FBox.new (w := w5) (A := A1) (c := c1) (F := ⟨F.sizes, !F.big, F.aligned⟩) hG
    have hBxG := hBx.nx hbG
    have hpG := hp.nx hbG
    have hVG := hV.nx hbG
    have hzG := hz.nx hbG hz.size
    go_upto_region 8 with fail
    generalize w5.alloc (.cells #[.slice A1 F.sizes.length c1, .bool (!F.big), .bool F.aligned] 25) = w6 at *
    clear hG hbG hBx hp hV hz q0 q1 q2
    obtain ⟨⟨q0, q1, q2⟩, -⟩ := id hBxG.blk.all3
    go_wp2_with fail
    refine (UnpackAll_any _ _ F bs _ hBxG.format hVG).mono ?_; rintro e w7 ⟨a1, us1, rfl, ha1, hb⟩
    rw [HU.out.1]
    have hBx := hBxG.nx hb
    have hBg := hBg.nx hb
    have hp := hpG.nx hb
    have hz := hzG.nx hb hzG.size
    clear hb hBxG hVG hzG hpG q0 q1 q2
    obtain ⟨⟨q0, q1, q2⟩, -⟩ := id hBg.blk.all3
    have ha1 := ha1.ints
    obtain ⟨Aa, ca, rfl, -⟩ := ha1.form
    go_wp2_with fail
    refine (UnpackAll_any _ _ ⟨F.sizes, !F.big, F.aligned⟩ (swapL F bs) _ hBg.format hp.ints).mono ?_; rintro e w8 ⟨a2, us2, rfl, ha2, hb⟩
    rw [HU.out.2.2.2.1]
    have hBx := hBx.nx hb
    have hBg := hBg.nx hb
    have hp := hp.nx hb
    have ha1 := ha1.ext hb
    have hz := hz.nx hb hz.size
    have ha2 := ha2.ints
    rw [HU.out.2.2.1] at ha2
    clear hb q0 q1 q2
    obtain ⟨Ab, cb, rfl, -⟩ := ha2.form
    go_upto_region 10 with fail
    have qA := fun x : ExtW w8 => (x.at_ hBx.blk).all3.1
    have qB := fun x : ExtW w8 => (x.at_ hBg.blk).all3.1
    have HE := hid (fun x : ExtW w8 => equalLists_same _ _ _ x.v (ha1.ext x.h) (ha2.ext x.h))
    have HS := hid (fun x : ExtW w8 => SwapBytes_any _ _ ⟨F.sizes, !F.big, F.aligned⟩ (swapL F bs) x.v (hBg.nx x.h).format (hp.ints.nx x.h))
    rw [HU.out.2.2.2.2] at HS
    have HP := hid (fun x : ExtW w8 => PackAll_any _ _ F (unpackAllL F bs) x.v (hBx.nx x.h).format (ha1.ext x.h))
    clear hBx hBg hp ha1 ha2
    refine region_mk 18 (by kernel_rfl) (by kernel_rfl) ?_
    apply Exists.intro
    simp only [List.take_succ_cons, List.take_zero, List.drop_succ_cons, List.drop_zero]
    repeat (first
      | (apply grow_val (by rfl); (focus (intro x; (go_simp; try with_reducible rfl); done)); simp only [Act.put, List.setIfInBounds_toArray, List.set_cons_zero, List.set_cons_succ])
      | (apply grow_skip (by rfl); simp only [Act.put, List.setIfInBounds_toArray, List.set_cons_zero, List.set_cons_succ])
      | (apply grow_call (by rfl); (focus (intro x K Q hK; go_simp; (first | (go_at_call 29; (with_reducible refine (HE.out x).mono ?_); rintro e w' ⟨rfl, hb⟩; exact hK _ hb)); done)); simp only [Act.put, List.setIfInBounds_toArray, List.set_cons_zero, List.set_cons_succ]))
    apply grow_ints (packAllL F (unpackAllL F bs)) (by rfl)
    · intro x hF K Q hK
      go_simp
      go_at_call 35;(with_reducible refine (HS.out x).mono ?_);rintro e w' ⟨v1, rfl, ho, hb⟩;exact hK _ _ hb ho
    intro A12 c12 F12 O12 hF12 hO12
    simp only [Act.put, List.setIfInBounds_toArray, List.set_cons_zero, List.set_cons_succ]
    repeat (first
      | (apply grow_val (by rfl); (focus (intro x; (go_simp; try with_reducible rfl); done)); simp only [Act.put, List.setIfInBounds_toArray, List.set_cons_zero, List.set_cons_succ])
      | (apply grow_skip (by rfl); simp only [Act.put, List.setIfInBounds_toArray, List.set_cons_zero, List.set_cons_succ]))
    apply grow_ints (packAllL F (unpackAllL F bs)) (by rfl)
    · intro x hF K Q hK
      go_simp
      go_at_call 26;(with_reducible refine (HP.out x).mono ?_);rintro e w' ⟨v1, rfl, ho, hb⟩;exact hK _ _ hb ho
    intro A15 c15 F15 O15 hF15 hO15
    simp only [Act.put, List.setIfInBounds_toArray, List.set_cons_zero, List.set_cons_succ]
    repeat (first
      | (apply grow_val (by rfl); (focus (intro x; (go_simp; try with_reducible rfl); done)); simp only [Act.put, List.setIfInBounds_toArray, List.set_cons_zero, List.set_cons_succ])
      | (apply grow_skip (by rfl); simp only [Act.put, List.setIfInBounds_toArray, List.set_cons_zero, List.set_cons_succ]))
    apply grow_callG (by rfl)
    · intro x hF K Q hK
      have h12 := (hF12 _ (hF 12 (by kernel_rfl))).ints
      have h15 := (hF15 _ (hF 15 (by kernel_rfl))).ints
      go_simp
      refine (equalInts_same _ _ _ _ h12 h15).mono ?_
      rintro e w' ⟨rfl, hb⟩
      exact hK _ hb
    simp only [Act.put, List.setIfInBounds_toArray, List.set_cons_zero, List.set_cons_succ]
    repeat (first
      | (apply grow_val (by rfl); (focus (intro x; (go_simp; try with_reducible rfl); done)); simp only [Act.put, List.setIfInBounds_toArray, List.set_cons_zero, List.set_cons_succ])
      | (apply grow_skip (by rfl); simp only [Act.put, List.setIfInBounds_toArray, List.set_cons_zero, List.set_cons_succ]))
    refine grow_nil ?_
    intro x hF hS9
    obtain ⟨w9, hb9⟩ := x
    clear hF hS9 qA qB
    go_wp2
    go_ret
    exact ⟨rfl, hz.nx hb9 hz.size⟩

end Go.Proofs.Ytmiamnaholnnoaa
