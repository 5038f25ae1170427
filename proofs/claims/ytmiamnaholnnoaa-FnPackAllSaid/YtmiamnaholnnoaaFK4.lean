/- The law on packed lists of items: the walk. No conditions. -/
import Derived.Test.YtmiamnaholnnoaaPA2
import Derived.Test.YtmiamnaholnnoaaPA3
import Derived.Test.YtmiamnaholnnoaaUA2
import Derived.Test.YtmiamnaholnnoaaFK2
import Derived.Test.YtmiamnaholnnoaaFPj
import Derived.Test.YtmiamnaholnnoaaLE2
import Derived.Test.YtmiamnaholnnoaaGF
import Derived.Deep.Cut
namespace Go.Proofs.Ytmiamnaholnnoaa
open Go.RowKit

set_option maxRecDepth 100000 in
set_option maxHeartbeats 6400000 in
theorem FnPackAll_walk (v : Value) (n : Nat) (w : World) (h : BytesV w v n) :
    Calls Try.prog 6 #[v] w fun e w' => e = .returned (.bool true) ∧ Below w.heap.size w w' := by
  have hv := h
  obtain ⟨A, c, rfl, h1, h2, -⟩ := h
  by_cases hn : 1048576 < n
  · have hni : (1048576 : Int) < (n : Int) := by omega
    go_enter Try.func6, Try.ntmps6
    go_wp2
    go_ret
    exact ⟨rfl, Below.refl _ _⟩
  have hni : ¬ (1048576 : Int) < (n : Int) := by omega
  go_enter Try.func6, Try.ntmps6
  go_wp2_with fail
  refine (DrawPackAll_any _ n _ hv).mono ?_; rintro e w1 ⟨F, sv, vv, xss, rfl, hl, hS, hV, hvl, hb1⟩
  obtain ⟨A1, c1, rfl⟩ := hS.form
  obtain ⟨A2, c2, rfl, hxc, hxm⟩ := hV.form
  have hBx := FBox.new hS
  have hb2 := below_alloc w1 (.cells #[.slice A1 F.sizes.length c1, .bool F.big, .bool F.aligned] 25)
  have hz := hb1.nx hb2 hb1.size
  have hV := hV.ext hb2
  clear hb1 hb2 hS
  have HL := hid (And.intro hl hvl)
  clear hl hvl
  go_wp2_with fail
  generalize w1.alloc (.cells #[.slice A1 F.sizes.length c1, .bool F.big, .bool F.aligned] 25) = w2 at *
  refine (PackAll_any _ _ F xss _ hBx.format hV).mono ?_; rintro e w3 ⟨p1, rfl, hp, hb⟩
  have hBx := hBx.nx hb
  have hz := hz.nx hb hz.size
  have hV := hV.ext hb
  clear hb
  obtain ⟨⟨q0, q1, q2⟩, -⟩ := id hBx.blk.all3
  obtain ⟨Ap, cp, rfl⟩ := hp.form
  go_wp2_with fail
  refine (sPackAll_any _ _ F xss _ hBx.format hV).mono ?_; rintro e w4 ⟨p2, rfl, hp2, hb⟩
  have hp := hp.nx hb
  have hBx := hBx.nx hb
  have hz := hz.nx hb hz.size
  have hV := hV.ext hb
  clear q0 q1 q2 hb
  obtain ⟨⟨q0, q1, q2⟩, -⟩ := id hBx.blk.all3
  go_wp2_with fail
  refine (equalInts_same _ _ _ _ hp.ints hp2.ints).mono ?_; rintro e w5 ⟨rfl, hb⟩
  have hp := hp.nx hb
  have hBx := hBx.nx hb
  have hz := hz.nx hb hz.size
  have hV := hV.ext hb
  clear q0 q1 q2 hb hp2
  obtain ⟨⟨q0, q1, q2⟩, -⟩ := id hBx.blk.all3
  by_cases h0 : (packAllL F xss).length = 0
  · have h0i : (((packAllL F xss).length : Int) == 0) = true := by simp [h0]
    clear h0
    go_wp2_with fail
    refine (sPackAll_any _ _ F xss _ hBx.format hV).mono ?_; rintro e w6 ⟨p2, rfl, hp2, hb⟩
    have hp := hp.nx hb
    have hz := hz.nx hb hz.size
    clear q0 q1 q2 hb
    go_wp2_with fail
    refine (equalInts_same _ _ _ _ hp.ints hp2.ints).mono ?_; rintro e w7 ⟨rfl, hb⟩
    go_wp2
    go_ret
    exact ⟨rfl, hz.nx hb hz.size⟩
  · have h0i : (((packAllL F xss).length : Int) == 0) = false := by simpa using h0
    obtain ⟨hF, hk, hE⟩ := packAll_some h0
    obtain ⟨s, hs⟩ : ∃ s : Nat, sizeF F = (s : Int) := ⟨(sizeF F).toNat, by have := size_bd hF; omega⟩
    have hst : (sizeF F).toNat = s := by omega
    have hsb : 1 ≤ s ∧ s ≤ 38 := by have := size_bd hF; omega
    have HF := hid hF
    have HS := hid hs
    have HU := hid (show unpackAllL F (packAllL F xss) = xss ∧ okUA F (packAllL F xss) = true by rw [hE]; exact ⟨unpackAll_out hF hk, okUA_out hF hk⟩)
    have HLN := hid (show (packAllL F xss).length = xss.length * s by rw [hE, outTo_len hF, hst])
    have HAT := hid (show ∀ i (hi : i < xss.length), fieldL (packAllL F xss) (i * s) s = packL F xss[i] ∧ packedL F xss[i] = packL F xss[i] from fun i hi => by
      refine ⟨by rw [hE, ← hst]; exact outTo_at hF xss i hi, by simp [packedL, hF, okPk_item hk i hi hi]⟩)
    obtain ⟨gp, cp', ep, hg1, hg2⟩ := hp.row (by omega)
    simp only [Value.slice.injEq, true_and] at ep
    obtain ⟨rfl, rfl⟩ := ep
    obtain ⟨Ax, cq, e, hcap, hcm, -⟩ := hp.ints
    simp only [Value.slice.injEq, true_and] at e
    obtain ⟨rfl, rfl⟩ := e
    unfold maxLen at hcm
    have HCL := hid hcap
    clear hF hk hE hs hst h0 hcap
    go_wp2_with fail
    refine (UnpackAll_any _ _ F (packAllL F xss) _ hBx.format hp.ints).mono ?_; rintro e w6 ⟨a1, us1, rfl, ha1, hb⟩
    rw [HU.out.2]
    rw [HU.out.1] at ha1
    have hBx := hBx.nx hb
    have hp := hp.nx hb
    have hz := hz.nx hb hz.size
    have hV := hV.ext hb
    have ha1 := ha1.ints
    clear hb q0 q1 q2
    obtain ⟨Aa, ca, rfl, -⟩ := ha1.form
    obtain ⟨⟨q0, q1, q2⟩, -⟩ := id hBx.blk.all3
    go_wp2_with fail
    refine (ItemSize_any _ F _ hBx.format HF.out).mono ?_; rintro e w7 ⟨rfl, hb⟩
    rw [HS.out]
    have hBx := hBx.nx hb
    have hp := hp.nx hb
    have hz := hz.nx hb hz.size
    have hV := hV.ext hb
    have ha1 := ha1.ext hb
    clear hb q0 q1 q2
    go_wp2_with fail
    go_loopg [9] xss.length (fun m i wr => ∃ k : Nat, k ≤ xss.length ∧ m = xss.length - k ∧ i = .int .i64 k ∧ Below w7.heap.size w7 wr)
    case atStart => exact ⟨0, Nat.zero_le _, rfl, rfl, Below.refl _ _⟩
    case round =>
      obtain ⟨k, hk, hm, rfl, hB⟩ := hrel
      have HM := hid hm
      have HB := hid hB
      have hp := hp.nx hB
      have hV := hV.ext hB
      have hBx := hBx.nx hB
      clear hm hB
      by_cases hlt : k < xss.length
      · obtain ⟨b2, off2, u2, e2, hy, hj⟩ := hV.elem k hlt
        subst e2
        obtain ⟨Au, cu, eu⟩ := hj.form
        obtain ⟨p, hp0⟩ : ∃ p, p = k * s := ⟨_, rfl⟩
        have hps : p + s ≤ (packAllL F xss).length := by rw [HLN.out, hp0, ← Nat.succ_mul]; exact Nat.mul_le_mul_right s hlt
        obtain ⟨hf1, hf2⟩ := HAT.out k hlt
        rw [← hp0] at hf1
        have hfi := fun x : ExtW wr => fieldL_ints (hp.ints.nx x.h) hps
        have hpk := fun x : ExtW wr => PackItem_any _ _ F xss[k] x.v (hBx.nx x.h).format (hj.ext x.h)
        rw [hf1] at hfi
        simp only [Nat.zero_add] at hfi
        rw [hf2] at hpk
        rw [eu] at hpk hy
        have hki : (k : Int) < (xss.length : Int) := by omega
        have hpc := HCL.out
        have hw0 : IntKind.i64.wrap ((k : Int) * (s : Int)) = (p : Int) := by
          have e : (k : Int) * (s : Int) = (p : Int) := by rw [hp0]; exact (Int.natCast_mul k s).symm
          rw [e]; exact IntWalk.i64_in _ (by omega)
        have hw1 : IntKind.i64.wrap ((p : Int) + (s : Int)) = (p : Int) + (s : Int) := IntWalk.i64_in _ (by omega)
        have htn : ((p : Int) + (s : Int)).toNat = p + s := by omega
        have hps0 : (0 : Int) ≤ (p : Int) + (s : Int) := by omega
        have hps1 : (p : Int) + (s : Int) ≤ (cp : Int) := by omega
        have hps2 : (p : Int) ≤ (p : Int) + (s : Int) := by omega
        have hps3 : ¬ cp = p := by omega
        generalize packL F xss[k] = Y at *
        have HFI := hid hfi
        have HPK := hid hpk
        have qB := fun x : ExtW wr => (x.at_ hBx.blk).all3.1
        have qy := fun x : ExtW wr => (x.h.cell (p := ⟨b2, off2 + k, none⟩) (World.block_lt_of_cell? _ _ hy)).trans hy
        clear hj hp hV hBx hfi hpk hf1 hf2 hp0 hps hy eu hpc
        go_upto_region 12 with fail
        refine region_mk 18 (by kernel_rfl) (by kernel_rfl) ?_
        apply Exists.intro
        simp only [List.take_succ_cons, List.take_zero, List.drop_succ_cons, List.drop_zero]
        repeat (first
          | (apply grow_val (by rfl); (focus (intro x; (go_simp; try with_reducible rfl); done)); simp only [Act.put, List.setIfInBounds_toArray, List.set_cons_zero, List.set_cons_succ])
          | (apply grow_skip (by rfl); simp only [Act.put, List.setIfInBounds_toArray, List.set_cons_zero, List.set_cons_succ]))
        apply grow_ints (Y) (by rfl)
        · intro x hF K Q hK
          go_simp
          go_at_call 18;(with_reducible refine (HPK.out x).mono ?_);rintro e w' ⟨v1, rfl, ho, hb⟩;exact hK _ _ hb ho
        intro A15 c15 F15 O15 hF15 hO15
        simp only [Act.put, List.setIfInBounds_toArray, List.set_cons_zero, List.set_cons_succ]
        repeat (first
          | (apply grow_val (by rfl); (focus (intro x; (go_simp; try with_reducible rfl); done)); simp only [Act.put, List.setIfInBounds_toArray, List.set_cons_zero, List.set_cons_succ])
          | (apply grow_skip (by rfl); simp only [Act.put, List.setIfInBounds_toArray, List.set_cons_zero, List.set_cons_succ]))
        apply grow_callG (by rfl)
        · intro x hF K Q hK
          have h15 := (hF15 _ (hF 15 (by kernel_rfl))).ints
          go_simp
          refine (equalInts_same _ _ Y _ (HFI.out x) h15).mono ?_
          rintro e w' ⟨rfl, hb⟩
          exact hK _ hb
        simp only [Act.put, List.setIfInBounds_toArray, List.set_cons_zero, List.set_cons_succ]
        repeat (first
          | (apply grow_val (by rfl); (focus (intro x; (go_simp; try with_reducible rfl); done)); simp only [Act.put, List.setIfInBounds_toArray, List.set_cons_zero, List.set_cons_succ])
          | (apply grow_skip (by rfl); simp only [Act.put, List.setIfInBounds_toArray, List.set_cons_zero, List.set_cons_succ]))
        refine grow_nil ?_
        intro x hF hS9
        obtain ⟨w9, hb9⟩ := x
        clear hF hS9 qB qy
        go_wp2
        go_roundg (xss.length - (k + 1))
        case measure => have := HM.out; omega
        case rel => exact ⟨k + 1, by omega, rfl, by go_num, HB.out.trans (hb9.mono HB.out.size)⟩
      · have hki : ¬ (k : Int) < (xss.length : Int) := by omega
        have hz := hz.nx HB.out hz.size
        have ha1 := ha1.ext HB.out
        go_wp2_with fail
        refine (equalLists_same _ _ _ _ ha1 hV).mono ?_; rintro e w8 ⟨rfl, hb⟩
        go_wp2
        go_ret
        exact ⟨rfl, hz.nx hb hz.size⟩

end Go.Proofs.Ytmiamnaholnnoaa
