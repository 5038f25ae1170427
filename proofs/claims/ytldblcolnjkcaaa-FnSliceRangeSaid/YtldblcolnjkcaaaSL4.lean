/- The law on slices of ranges: the walk. No conditions. -/
import Derived.Test.YtldblcolnjkcaaaSR2
import Derived.Test.YtldblcolnjkcaaaSR3
import Derived.Test.YtldblcolnjkcaaaLEa
import Derived.Test.YtldblcolnjkcaaaGF
namespace Go.Proofs.Ytldblcolnjkcaaa
open Go.RowKit

theorem sr_by {r : RL} {s : SL} (h : (sliceRgL r s).s ≠ 0) : okSR r s = true := by
  cases hc : okSR r s
  · exact absurd (by simp [sliceRgL, hc, RL.zero]) h
  · rfl
theorem sr_ok {r : RL} {s : SL} : (sliceRgL r s).ok := by
  cases hc : okSR r s
  · have e : sliceRgL r s = RL.zero := by simp [sliceRgL, hc]
    rw [e]
    refine ⟨?_, ?_, ?_⟩ <;> unfold inI64 <;> simp [RL.zero]
  · have e : sliceRgL r s = normL (srT r s) := by simp [sliceRgL, hc]
    rw [e]
    have := okRg_and (sr_facts hc).2.2.2.2.1
    refine ⟨?_, ?_, ?_⟩ <;> unfold inI64 <;> omega

set_option maxRecDepth 100000 in
set_option maxHeartbeats 6400000 in
theorem FnSliceRange_walk (v : Value) (n : Nat) (w : World) (h : BytesV w v n) :
    Calls Try.prog 8 #[v] w fun e w' => e = .returned (.bool true) ∧ Below w.heap.size w w' := by
  have hv := h
  obtain ⟨A, c, rfl, h1, h2, -⟩ := h
  by_cases hn : 1048576 < n
  · have hni : (1048576 : Int) < (n : Int) := by omega
    go_enter Try.func8, Try.ntmps8
    go_wp2
    go_ret
    exact ⟨rfl, Below.refl _ _⟩
  have hni : ¬ (1048576 : Int) < (n : Int) := by omega
  go_enter Try.func8, Try.ntmps8
  go_wp2_with fail
  refine (DrawSliceRange_any _ n _ hv).mono ?_; rintro e w1 ⟨r, s, rfl, hba, hbb, hz⟩
  have HOA := hid hba.ok
  have HOB := hid hbb.ok
  clear hba hbb hv h1 h2
  have HI := hid (fun (x : World) => SliceRange_any r s x HOA.out HOB.out)
  have HSI := hid (fun (x : World) => sSliceRange_any r s x HOA.out HOB.out)
  have HBY := hid (fun h => sr_by (r := r) (s := s) h)
  have HMO := hid (sr_ok (r := r) (s := s))
  have HES := hid (fun (x : World) => equalRange_same (sliceRgL r s) x)
  have HMQ := hid (fun h : okSR r s = true => (show sliceRgL r s = normL (srT r s) by simp [sliceRgL, h]))
  have HFX := hid (fun h => sr_facts (r := r) (s := s) h)
  have HNR := hid (fun (x : World) h => NumbersOf_any r x h HOA.out)
  have HNM := hid (fun (x : World) h => NumbersOf_any (sliceRgL r s) x h HMO.out)
  have HIB := hid (fun (x : World) k h1 h2 => IndicesOf_any k s x h1 h2 HOB.out)
  have HCV := hid (fun (x : World) h1 h2 h3 => CoversRange_yes r (sliceRgL r s) x h1 HOA.out h2 HMO.out h3)
  have HNF := hid (fun (x : World) h1 h2 => NormalRange_any (sliceRgL r s) x h1 HMO.out h2)
  have HOKM := hid (fun (h : okSR r s = true) => (show okRg r = true ∧ okSl s = true ∧ (numsR r).length ≤ 60 by simpa [okSR, and_assoc] using h))
  generalize sliceRgL r s = M at *
  obtain ⟨ra, rb, rs⟩ := r
  obtain ⟨b_f, b_t, b_b, b_hf, b_ht⟩ := s
  obtain ⟨ma, mb, ms⟩ := M
  simp only [SL.val, RL.val] at HI HSI HES HNR HNM HIB HCV HNF ⊢
  have hA := (Blk.new w1 56 #[.int .i64 ra, .int .i64 rb, .int .i64 rs]).alloc (.cells #[.int .i64 b_f, .int .i64 b_t, .int .i64 b_b, .bool b_hf, .bool b_ht] 33)
  have hB := Blk.new (w1.alloc (.cells #[.int .i64 ra, .int .i64 rb, .int .i64 rs] 56)) 33 #[.int .i64 b_f, .int .i64 b_t, .int .i64 b_b, .bool b_hf, .bool b_ht]
  have hW : Below w1.heap.size w1 ((w1.alloc (.cells #[.int .i64 ra, .int .i64 rb, .int .i64 rs] 56)).alloc (.cells #[.int .i64 b_f, .int .i64 b_t, .int .i64 b_b, .bool b_hf, .bool b_ht] 33)) := ((Below.refl _ _).alloc (Nat.le_refl _) _).alloc (by simp) _
  simp only [World.size_alloc] at hB
  have hz := hz.nx hW hz.size
  go_upto_region 4 with fail
  generalize ((w1.alloc (.cells #[.int .i64 ra, .int .i64 rb, .int .i64 rs] 56)).alloc (.cells #[.int .i64 b_f, .int .i64 b_t, .int .i64 b_b, .bool b_hf, .bool b_ht] 33)) = w2 at *
  obtain ⟨⟨q0, q1, q2⟩, -⟩ := id hA.all3
  obtain ⟨⟨p0, p1, p2, p3, p4⟩, -⟩ := id hB.all5
  go_wp2_with fail
  refine (HI.out _).mono ?_; rintro e w3 ⟨rfl, hb⟩
  have hb4 := below_alloc w3 (.cells #[.int .i64 ma, .int .i64 mb, .int .i64 ms] 56)
  have hM := Blk.new w3 56 #[.int .i64 ma, .int .i64 mb, .int .i64 ms]
  have hA := (hA.nx hb).nx hb4
  have hB := (hB.nx hb).nx hb4
  have hz := hz.nx hb hz.size
  have hz := hz.nx hb4 hz.size
  clear hb hb4 q0 q1 q2 p0 p1 p2 p3 p4 hW HI
  go_upto_region 5 with fail
  generalize w3.alloc (.cells #[.int .i64 ma, .int .i64 mb, .int .i64 ms] 56) = w4 at *
  have qA := fun x : ExtW w4 => (x.at_ hA).all3.1
  have qB := fun x : ExtW w4 => (x.at_ hB).all5.1
  have qM := fun x : ExtW w4 => (x.at_ hM).all3.1
  by_cases h0 : ms = 0
  · have h0i : (ms == 0) = true := by simp [h0]
    clear h0
    refine region_mk 11 (by kernel_rfl) (by kernel_rfl) ?_
    apply Exists.intro
    simp only [List.take_succ_cons, List.take_zero, List.drop_succ_cons, List.drop_zero]
    repeat (first
      | (apply grow_val (by rfl); (focus (intro x; (go_simp; try with_reducible rfl); done)); simp only [Act.put, List.setIfInBounds_toArray, List.set_cons_zero, List.set_cons_succ])
      | (apply grow_skip (by rfl); simp only [Act.put, List.setIfInBounds_toArray, List.set_cons_zero, List.set_cons_succ])
      | (apply grow_call (by rfl); (focus (intro x K Q hK; go_simp; (first | (go_at_call 47; (with_reducible refine (HSI.out x.v).mono ?_); rintro e w' ⟨rfl, hb⟩; exact hK _ hb) | (go_at_call 46; (with_reducible refine (HES.out x.v).mono ?_); rintro e w' ⟨rfl, hb⟩; exact hK _ hb)); done)); simp only [Act.put, List.setIfInBounds_toArray, List.set_cons_zero, List.set_cons_succ]))
    refine grow_nil ?_
    intro x hF hS9
    obtain ⟨w5, hb5⟩ := x
    have hA := hA.nx hb5
    have hB := hB.nx hb5
    have hM := hM.nx hb5
    have hz := hz.nx hb5 hz.size
    clear hF hS9 qA qB qM
    go_upto_region 6 with fail
    have qA := fun x : ExtW w5 => (x.at_ hA).all3.1
    have qB := fun x : ExtW w5 => (x.at_ hB).all5.1
    have qM := fun x : ExtW w5 => (x.at_ hM).all3.1
    refine region_mk 5 (by kernel_rfl) (by kernel_rfl) ?_
    apply Exists.intro
    simp only [List.take_succ_cons, List.take_zero, List.drop_succ_cons, List.drop_zero]
    repeat (first
      | (apply grow_val (by rfl); (focus (intro x; (go_simp; try with_reducible rfl); done)); simp only [Act.put, List.setIfInBounds_toArray, List.set_cons_zero, List.set_cons_succ])
      | (apply grow_skip (by rfl); simp only [Act.put, List.setIfInBounds_toArray, List.set_cons_zero, List.set_cons_succ])
      | (apply grow_call (by rfl); (focus (intro x K Q hK; go_simp; (first | (go_at_call 47; (with_reducible refine (HSI.out x.v).mono ?_); rintro e w' ⟨rfl, hb⟩; exact hK _ hb) | (go_at_call 46; (with_reducible refine (HES.out x.v).mono ?_); rintro e w' ⟨rfl, hb⟩; exact hK _ hb)); done)); simp only [Act.put, List.setIfInBounds_toArray, List.set_cons_zero, List.set_cons_succ]))
    refine grow_nil ?_
    intro x hF hS9
    obtain ⟨w6, hb6⟩ := x
    clear hF hS9 qA qB qM
    go_wp2
    go_ret
    exact ⟨rfl, hz.nx hb6 hz.size⟩
  · have h0i : (ms == 0) = false := by simpa using h0
    have hok := HBY.out h0
    obtain ⟨o1, o2, o3⟩ := HOKM.out hok
    have hfx := HFX.out hok
    have hmq := HMQ.out hok
    rw [← hmq] at hfx
    have HFF := hid hfx
    have HO1 := hid o1
    have HO2 := hid o2
    have HO3 := hid o3
    have HNN := hid (show normL (numsR ⟨ma, mb, ms⟩) = ⟨ma, mb, ms⟩ by rw [hfx.2.2.2.1]; exact hmq.symm)
    clear h0 hok o1 o2 o3 hfx hmq
    refine region_mk 11 (by kernel_rfl) (by kernel_rfl) ?_
    apply Exists.intro
    simp only [List.take_succ_cons, List.take_zero, List.drop_succ_cons, List.drop_zero]
    repeat (first
      | (apply grow_val (by rfl); (focus (intro x; (go_simp; try with_reducible rfl); done)); simp only [Act.put, List.setIfInBounds_toArray, List.set_cons_zero, List.set_cons_succ])
      | (apply grow_skip (by rfl); simp only [Act.put, List.setIfInBounds_toArray, List.set_cons_zero, List.set_cons_succ])
      | (apply grow_call (by rfl); (focus (intro x K Q hK; go_simp; (first | (go_at_call 47; (with_reducible refine (HSI.out x.v).mono ?_); rintro e w' ⟨rfl, hb⟩; exact hK _ hb) | (go_at_call 46; (with_reducible refine (HES.out x.v).mono ?_); rintro e w' ⟨rfl, hb⟩; exact hK _ hb)); done)); simp only [Act.put, List.setIfInBounds_toArray, List.set_cons_zero, List.set_cons_succ]))
    refine grow_nil ?_
    intro x hF hS9
    obtain ⟨w5, hb5⟩ := x
    have hA := hA.nx hb5
    have hB := hB.nx hb5
    have hM := hM.nx hb5
    have hz := hz.nx hb5 hz.size
    clear hF hS9 qA qB qM
    obtain ⟨⟨q0, q1, q2⟩, -⟩ := id hA.all3
    go_wp2_with fail
    refine (HNR.out _ HO1.out).mono ?_; rintro e w6 ⟨r1, rfl, ho, hb⟩
    have hA := hA.nx hb
    have hB := hB.nx hb
    have hM := hM.nx hb
    have hz := hz.nx hb hz.size
    clear hb q0 q1 q2
    obtain ⟨Ai, ci, rfl⟩ := ho.form
    go_upto_region 8 with fail
    have hl60 := HO3.out
    have HTW := hid (show srT ⟨ra, rb, rs⟩ ⟨b_f, b_t, b_b, b_hf, b_ht⟩ = takenL (numsR ⟨ra, rb, rs⟩) (idxL (numsR ⟨ra, rb, rs⟩).length ⟨b_f, b_t, b_b, b_hf, b_ht⟩) from rfl)
    have HX1 := hid (fun x : ExtW w6 => HNM.out x.v HFF.out.2.2.2.2.1)
    rw [HFF.out.2.2.2.1] at HX1
    have HX2 := hid (fun x : ExtW w6 => HIB.out x.v ((numsR ⟨ra, rb, rs⟩).length) (by omega) HO2.out)
    have HX3 := hid (fun x : ExtW w6 => ho.ints.nx x.h)
    have HX4 := hid (fun x : ExtW w6 => HCV.out x.v HO1.out HFF.out.2.2.2.2.1 (by rw [HFF.out.2.2.2.1]; exact HFF.out.2.2.1))
    have HX5 := hid (fun x : ExtW w6 => HNF.out x.v HFF.out.2.2.2.2.1 (by rw [HFF.out.2.2.2.1]; have := HFF.out.1; omega))
    rw [HNN.out] at HX5
    have HJB := hid HFF.out.2.2.2.2.2.1
    have HJL := hid HFF.out.2.2.2.2.2.2
    clear HFF
    generalize srT ⟨ra, rb, rs⟩ ⟨b_f, b_t, b_b, b_hf, b_ht⟩ = T at *
    generalize idxL ((numsR ⟨ra, rb, rs⟩).length : Int) ⟨b_f, b_t, b_b, b_hf, b_ht⟩ = J at *
    generalize numsR ⟨ra, rb, rs⟩ = I at *
    have qA := fun x : ExtW w6 => (x.at_ hA).all3.1
    have qB := fun x : ExtW w6 => (x.at_ hB).all5.1
    have qM := fun x : ExtW w6 => (x.at_ hM).all3.1
    refine region_mk 20 (by kernel_rfl) (by kernel_rfl) ?_
    apply Exists.intro
    simp only [List.take_succ_cons, List.take_zero, List.drop_succ_cons, List.drop_zero]
    repeat (first
      | (apply grow_val (by rfl); (focus (intro x; (go_simp; try with_reducible rfl); done)); simp only [Act.put, List.setIfInBounds_toArray, List.set_cons_zero, List.set_cons_succ])
      | (apply grow_skip (by rfl); simp only [Act.put, List.setIfInBounds_toArray, List.set_cons_zero, List.set_cons_succ]))
    apply grow_ints (T) (by rfl)
    · intro x hF K Q hK
      go_simp
      go_at_call 48;(with_reducible refine (HX1.out x).mono ?_);rintro e w' ⟨v1, rfl, ho, hb⟩;exact hK _ _ hb ho
    intro A1 c1 F1 O1 hF1 hO1
    simp only [Act.put, List.setIfInBounds_toArray, List.set_cons_zero, List.set_cons_succ]
    repeat (first
      | (apply grow_val (by rfl); (focus (intro x; (go_simp; try with_reducible rfl); done)); simp only [Act.put, List.setIfInBounds_toArray, List.set_cons_zero, List.set_cons_succ])
      | (apply grow_skip (by rfl); simp only [Act.put, List.setIfInBounds_toArray, List.set_cons_zero, List.set_cons_succ]))
    apply grow_ints (J) (by rfl)
    · intro x hF K Q hK
      go_simp
      go_at_call 26;(with_reducible refine (HX2.out x).mono ?_);rintro e w' ⟨v1, rfl, ho, hb⟩;exact hK _ _ hb ho
    intro A6 c6 F6 O6 hF6 hO6
    simp only [Act.put, List.setIfInBounds_toArray, List.set_cons_zero, List.set_cons_succ]
    repeat (first
      | (apply grow_val (by rfl); (focus (intro x; (go_simp; try with_reducible rfl); done)); simp only [Act.put, List.setIfInBounds_toArray, List.set_cons_zero, List.set_cons_succ])
      | (apply grow_skip (by rfl); simp only [Act.put, List.setIfInBounds_toArray, List.set_cons_zero, List.set_cons_succ]))
    apply grow_ints (T) (by rfl)
    · intro x hF K Q hK
      go_simp
      have h6 := (hF6 _ (hF 6 (by kernel_rfl))).ints;go_at_call 27;refine (takes_any _ _ I J _ (HX3.out x) h6 HJB.out (by have := HJL.out; omega)).mono ?_;rintro e w' ⟨v1, rfl, ho, hb⟩;exact hK _ _ hb (by rw [HTW.out]; exact ho)
    intro A7 c7 F7 O7 hF7 hO7
    simp only [Act.put, List.setIfInBounds_toArray, List.set_cons_zero, List.set_cons_succ]
    repeat (first
      | (apply grow_val (by rfl); (focus (intro x; (go_simp; try with_reducible rfl); done)); simp only [Act.put, List.setIfInBounds_toArray, List.set_cons_zero, List.set_cons_succ])
      | (apply grow_skip (by rfl); simp only [Act.put, List.setIfInBounds_toArray, List.set_cons_zero, List.set_cons_succ]))
    apply grow_callG (by rfl)
    · intro x hF K Q hK
      have h1 := (hF1 _ (hF 1 (by kernel_rfl))).ints
      have h7 := (hF7 _ (hF 7 (by kernel_rfl))).ints
      go_simp
      refine (equalInts_same _ _ _ _ h1 h7).mono ?_
      rintro e w' ⟨rfl, hb⟩
      exact hK _ hb
    simp only [Act.put, List.setIfInBounds_toArray, List.set_cons_zero, List.set_cons_succ]
    repeat (first
      | (apply grow_val (by rfl); (focus (intro x; (go_simp; try with_reducible rfl); done)); simp only [Act.put, List.setIfInBounds_toArray, List.set_cons_zero, List.set_cons_succ])
      | (apply grow_skip (by rfl); simp only [Act.put, List.setIfInBounds_toArray, List.set_cons_zero, List.set_cons_succ])
      | (apply grow_call (by rfl); (focus (intro x K Q hK; go_simp; (first | (go_at_call 49; (with_reducible refine (HX4.out x).mono ?_); rintro e w' ⟨rfl, hb⟩; exact hK _ hb) | (go_at_call 50; (with_reducible refine (HX5.out x).mono ?_); rintro e w' ⟨rfl, hb⟩; exact hK _ hb)); done)); simp only [Act.put, List.setIfInBounds_toArray, List.set_cons_zero, List.set_cons_succ]))
    refine grow_nil ?_
    intro x hF hS9
    obtain ⟨w7, hb7⟩ := x
    clear hF hS9 qA qB qM
    go_wp2
    go_ret
    exact ⟨rfl, hz.nx hb7 hz.size⟩

end Go.Proofs.Ytldblcolnjkcaaa
