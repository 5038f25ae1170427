/- The law on merged slices: the walk. No conditions. -/
import Derived.Test.YtldblcolnjkcaaaMS2
import Derived.Test.YtldblcolnjkcaaaMS3
import Derived.Test.YtldblcolnjkcaaaLEa
import Derived.Test.YtldblcolnjkcaaaGF
namespace Go.Proofs.Ytldblcolnjkcaaa
open Go.RowKit

theorem merge_by {n : Int} {a b : SL} (h : (mergeL n a b).by_ ≠ 0) : okMg n a b = true := by
  cases hc : okMg n a b
  · exact absurd (by simp [mergeL, hc, SL.zero]) h
  · rfl
theorem merge_ok {n : Int} {a b : SL} : (mergeL n a b).ok := by
  cases hc : okMg n a b
  · have e : mergeL n a b = SL.zero := by simp [mergeL, hc]
    rw [e]
    refine ⟨?_, ?_, ?_⟩ <;> unfold inI64 <;> simp [SL.zero]
  · have := okSl_and (merge_law hc).2
    refine ⟨?_, ?_, ?_⟩ <;> unfold inI64 <;> omega

set_option maxRecDepth 100000 in
set_option maxHeartbeats 6400000 in
theorem FnMergeSlices_walk (v : Value) (n : Nat) (w : World) (h : BytesV w v n) :
    Calls Try.prog 4 #[v] w fun e w' => e = .returned (.bool true) ∧ Below w.heap.size w w' := by
  have hv := h
  obtain ⟨A, c, rfl, h1, h2, -⟩ := h
  by_cases hn : 1048576 < n
  · have hni : (1048576 : Int) < (n : Int) := by omega
    go_enter Try.func4, Try.ntmps4
    go_wp2
    go_ret
    exact ⟨rfl, Below.refl _ _⟩
  have hni : ¬ (1048576 : Int) < (n : Int) := by omega
  go_enter Try.func4, Try.ntmps4
  go_wp2_with fail
  refine (DrawMergeSlices_any _ n _ hv).mono ?_; rintro e w1 ⟨m, a, b, rfl, hm, hba, hbb, hz⟩
  have HOA := hid hba.ok
  have HOB := hid hbb.ok
  clear hba hbb hv h1 h2
  have HI := hid (fun (x : World) => MergeSlices_any m a b x HOA.out HOB.out)
  have HSI := hid (fun (x : World) => sMergeSlices_any m a b x HOA.out HOB.out)
  have HBY := hid (fun h => merge_by (n := m) (a := a) (b := b) h)
  have HML := hid (fun h => merge_law (n := m) (a := a) (b := b) h)
  have HMO := hid (merge_ok (n := m) (a := a) (b := b))
  have HES := hid (fun (x : World) => equalSlice_same (mergeL m a b) x)
  have HIA := hid (fun (x : World) h1 h2 => IndicesOf_any m a x h1 h2 HOA.out)
  have HIB := hid (fun (x : World) k h1 h2 => IndicesOf_any k b x h1 h2 HOB.out)
  have HIM := hid (fun (x : World) h1 h2 => IndicesOf_any m (mergeL m a b) x h1 h2 HMO.out)
  have HVM := hid (fun (x : World) => ValidSlice_any (mergeL m a b) x HMO.out)
  have HOKM := hid (fun (h : okMg m a b = true) => (show inR m 0 60 = true ∧ okSl a = true ∧ okSl b = true by simpa [okMg, and_assoc] using h))
  generalize mergeL m a b = M at *
  obtain ⟨a_f, a_t, a_b, a_hf, a_ht⟩ := a
  obtain ⟨b_f, b_t, b_b, b_hf, b_ht⟩ := b
  obtain ⟨m_f, m_t, m_b, m_hf, m_ht⟩ := M
  simp only [SL.val] at HI HSI HES HIA HIB HIM HVM ⊢
  have hA := (Blk.new w1 33 #[.int .i64 a_f, .int .i64 a_t, .int .i64 a_b, .bool a_hf, .bool a_ht]).alloc (.cells #[.int .i64 b_f, .int .i64 b_t, .int .i64 b_b, .bool b_hf, .bool b_ht] 33)
  have hB := Blk.new (w1.alloc (.cells #[.int .i64 a_f, .int .i64 a_t, .int .i64 a_b, .bool a_hf, .bool a_ht] 33)) 33 #[.int .i64 b_f, .int .i64 b_t, .int .i64 b_b, .bool b_hf, .bool b_ht]
  have hW : Below w1.heap.size w1 ((w1.alloc (.cells #[.int .i64 a_f, .int .i64 a_t, .int .i64 a_b, .bool a_hf, .bool a_ht] 33)).alloc (.cells #[.int .i64 b_f, .int .i64 b_t, .int .i64 b_b, .bool b_hf, .bool b_ht] 33)) := ((Below.refl _ _).alloc (Nat.le_refl _) _).alloc (by simp) _
  simp only [World.size_alloc] at hB
  have hz := hz.nx hW hz.size
  go_upto_region 4 with fail
  generalize ((w1.alloc (.cells #[.int .i64 a_f, .int .i64 a_t, .int .i64 a_b, .bool a_hf, .bool a_ht] 33)).alloc (.cells #[.int .i64 b_f, .int .i64 b_t, .int .i64 b_b, .bool b_hf, .bool b_ht] 33)) = w2 at *
  obtain ⟨⟨q0, q1, q2, q3, q4⟩, -⟩ := id hA.all5
  obtain ⟨⟨p0, p1, p2, p3, p4⟩, -⟩ := id hB.all5
  go_wp2_with fail
  refine (HI.out _).mono ?_; rintro e w3 ⟨rfl, hb⟩
  have hb4 := below_alloc w3 (.cells #[.int .i64 m_f, .int .i64 m_t, .int .i64 m_b, .bool m_hf, .bool m_ht] 33)
  have hM := Blk.new w3 33 #[.int .i64 m_f, .int .i64 m_t, .int .i64 m_b, .bool m_hf, .bool m_ht]
  have hA := (hA.nx hb).nx hb4
  have hB := (hB.nx hb).nx hb4
  have hz := hz.nx hb hz.size
  have hz := hz.nx hb4 hz.size
  clear hb hb4 q0 q1 q2 q3 q4 p0 p1 p2 p3 p4 hW HI
  go_upto_region 5 with fail
  generalize w3.alloc (.cells #[.int .i64 m_f, .int .i64 m_t, .int .i64 m_b, .bool m_hf, .bool m_ht] 33) = w4 at *
  have qA := fun x : ExtW w4 => (x.at_ hA).all5.1
  have qB := fun x : ExtW w4 => (x.at_ hB).all5.1
  have qM := fun x : ExtW w4 => (x.at_ hM).all5.1
  by_cases h0 : m_b = 0
  · have h0i : (m_b == 0) = true := by simp [h0]
    clear h0
    refine region_mk 12 (by kernel_rfl) (by kernel_rfl) ?_
    apply Exists.intro
    simp only [List.take_succ_cons, List.take_zero, List.drop_succ_cons, List.drop_zero]
    repeat (first
      | (apply grow_val (by rfl); (focus (intro x; (go_simp; try with_reducible rfl); done)); simp only [Act.put, List.setIfInBounds_toArray, List.set_cons_zero, List.set_cons_succ])
      | (apply grow_skip (by rfl); simp only [Act.put, List.setIfInBounds_toArray, List.set_cons_zero, List.set_cons_succ])
      | (apply grow_call (by rfl); (focus (intro x K Q hK; go_simp; (first | (go_at_call 25; (with_reducible refine (HSI.out x.v).mono ?_); rintro e w' ⟨rfl, hb⟩; exact hK _ hb) | (go_at_call 24; (with_reducible refine (HES.out x.v).mono ?_); rintro e w' ⟨rfl, hb⟩; exact hK _ hb)); done)); simp only [Act.put, List.setIfInBounds_toArray, List.set_cons_zero, List.set_cons_succ]))
    refine grow_nil ?_
    intro x hF hS9
    obtain ⟨w5, hb5⟩ := x
    have hA := hA.nx hb5
    have hB := hB.nx hb5
    have hM := hM.nx hb5
    have hz := hz.nx hb5 hz.size
    clear hF hS9 qA qB qM
    go_upto_region 6 with fail
    have qA := fun x : ExtW w5 => (x.at_ hA).all5.1
    have qB := fun x : ExtW w5 => (x.at_ hB).all5.1
    have qM := fun x : ExtW w5 => (x.at_ hM).all5.1
    refine region_mk 6 (by kernel_rfl) (by kernel_rfl) ?_
    apply Exists.intro
    simp only [List.take_succ_cons, List.take_zero, List.drop_succ_cons, List.drop_zero]
    repeat (first
      | (apply grow_val (by rfl); (focus (intro x; (go_simp; try with_reducible rfl); done)); simp only [Act.put, List.setIfInBounds_toArray, List.set_cons_zero, List.set_cons_succ])
      | (apply grow_skip (by rfl); simp only [Act.put, List.setIfInBounds_toArray, List.set_cons_zero, List.set_cons_succ])
      | (apply grow_call (by rfl); (focus (intro x K Q hK; go_simp; (first | (go_at_call 25; (with_reducible refine (HSI.out x.v).mono ?_); rintro e w' ⟨rfl, hb⟩; exact hK _ hb) | (go_at_call 24; (with_reducible refine (HES.out x.v).mono ?_); rintro e w' ⟨rfl, hb⟩; exact hK _ hb)); done)); simp only [Act.put, List.setIfInBounds_toArray, List.set_cons_zero, List.set_cons_succ]))
    refine grow_nil ?_
    intro x hF hS9
    obtain ⟨w6, hb6⟩ := x
    clear hF hS9 qA qB qM
    go_wp2
    go_ret
    exact ⟨rfl, hz.nx hb6 hz.size⟩
  · have h0i : (m_b == 0) = false := by simpa using h0
    have hok := HBY.out h0
    obtain ⟨o1, o2, o3⟩ := HOKM.out hok
    have hm60 := inR_iff.1 o1
    have HL := hid (HML.out hok)
    have hlen := idx_len hm60 (okSl_and o2).2.2.2
    have HJB := hid (idx_in (n := ((idxL m ⟨a_f, a_t, a_b, a_hf, a_ht⟩).length : Int)) (by omega) (okSl_and o3).2.2.2)
    have HJL := hid (idx_len (n := ((idxL m ⟨a_f, a_t, a_b, a_hf, a_ht⟩).length : Int)) (by omega) (okSl_and o3).2.2.2)
    have HO2 := hid o2
    have HO3 := hid o3
    clear h0 hok o1 o2 o3
    refine region_mk 12 (by kernel_rfl) (by kernel_rfl) ?_
    apply Exists.intro
    simp only [List.take_succ_cons, List.take_zero, List.drop_succ_cons, List.drop_zero]
    repeat (first
      | (apply grow_val (by rfl); (focus (intro x; (go_simp; try with_reducible rfl); done)); simp only [Act.put, List.setIfInBounds_toArray, List.set_cons_zero, List.set_cons_succ])
      | (apply grow_skip (by rfl); simp only [Act.put, List.setIfInBounds_toArray, List.set_cons_zero, List.set_cons_succ])
      | (apply grow_call (by rfl); (focus (intro x K Q hK; go_simp; (first | (go_at_call 25; (with_reducible refine (HSI.out x.v).mono ?_); rintro e w' ⟨rfl, hb⟩; exact hK _ hb) | (go_at_call 24; (with_reducible refine (HES.out x.v).mono ?_); rintro e w' ⟨rfl, hb⟩; exact hK _ hb)); done)); simp only [Act.put, List.setIfInBounds_toArray, List.set_cons_zero, List.set_cons_succ]))
    refine grow_nil ?_
    intro x hF hS9
    obtain ⟨w5, hb5⟩ := x
    have hA := hA.nx hb5
    have hB := hB.nx hb5
    have hM := hM.nx hb5
    have hz := hz.nx hb5 hz.size
    clear hF hS9 qA qB qM
    obtain ⟨⟨q0, q1, q2, q3, q4⟩, -⟩ := id hA.all5
    go_wp2_with fail
    refine (HIA.out _ hm60 HO2.out).mono ?_; rintro e w6 ⟨r1, rfl, ho, hb⟩
    have hB := hB.nx hb
    have hM := hM.nx hb
    have hz := hz.nx hb hz.size
    clear hb q0 q1 q2 q3 q4 hA
    obtain ⟨Ai, ci, rfl⟩ := ho.form
    go_upto_region 8 with fail
    have HTW := hid (show twoL m ⟨a_f, a_t, a_b, a_hf, a_ht⟩ ⟨b_f, b_t, b_b, b_hf, b_ht⟩ = takenL (idxL m ⟨a_f, a_t, a_b, a_hf, a_ht⟩) (idxL (idxL m ⟨a_f, a_t, a_b, a_hf, a_ht⟩).length ⟨b_f, b_t, b_b, b_hf, b_ht⟩) from rfl)
    have HX1 := hid (fun x : ExtW w6 => HIM.out x.v hm60 HL.out.2)
    have HX2 := hid (fun x : ExtW w6 => HIB.out x.v ((idxL m ⟨a_f, a_t, a_b, a_hf, a_ht⟩).length) (by omega) HO3.out)
    have HX3 := hid (fun x : ExtW w6 => ho.ints.nx x.h)
    have HX4 := hid (fun x : ExtW w6 => HVM.out x.v)
    rw [HL.out.1] at HX1
    rw [HL.out.2] at HX4
    generalize twoL m ⟨a_f, a_t, a_b, a_hf, a_ht⟩ ⟨b_f, b_t, b_b, b_hf, b_ht⟩ = T at *
    generalize idxL (idxL m ⟨a_f, a_t, a_b, a_hf, a_ht⟩).length ⟨b_f, b_t, b_b, b_hf, b_ht⟩ = J at *
    generalize idxL m ⟨a_f, a_t, a_b, a_hf, a_ht⟩ = I at *
    have qB := fun x : ExtW w6 => (x.at_ hB).all5.1
    have qM := fun x : ExtW w6 => (x.at_ hM).all5.1
    refine region_mk 14 (by kernel_rfl) (by kernel_rfl) ?_
    apply Exists.intro
    simp only [List.take_succ_cons, List.take_zero, List.drop_succ_cons, List.drop_zero]
    repeat (first
      | (apply grow_val (by rfl); (focus (intro x; (go_simp; try with_reducible rfl); done)); simp only [Act.put, List.setIfInBounds_toArray, List.set_cons_zero, List.set_cons_succ])
      | (apply grow_skip (by rfl); simp only [Act.put, List.setIfInBounds_toArray, List.set_cons_zero, List.set_cons_succ]))
    apply grow_ints (T) (by rfl)
    · intro x hF K Q hK
      go_simp
      go_at_call 26;(with_reducible refine (HX1.out x).mono ?_);rintro e w' ⟨v1, rfl, ho, hb⟩;exact hK _ _ hb ho
    intro A2 c2 F2 O2 hF2 hO2
    simp only [Act.put, List.setIfInBounds_toArray, List.set_cons_zero, List.set_cons_succ]
    repeat (first
      | (apply grow_val (by rfl); (focus (intro x; (go_simp; try with_reducible rfl); done)); simp only [Act.put, List.setIfInBounds_toArray, List.set_cons_zero, List.set_cons_succ])
      | (apply grow_skip (by rfl); simp only [Act.put, List.setIfInBounds_toArray, List.set_cons_zero, List.set_cons_succ]))
    apply grow_ints (J) (by rfl)
    · intro x hF K Q hK
      go_simp
      go_at_call 26;(with_reducible refine (HX2.out x).mono ?_);rintro e w' ⟨v1, rfl, ho, hb⟩;exact hK _ _ hb ho
    intro A7 c7 F7 O7 hF7 hO7
    simp only [Act.put, List.setIfInBounds_toArray, List.set_cons_zero, List.set_cons_succ]
    repeat (first
      | (apply grow_val (by rfl); (focus (intro x; (go_simp; try with_reducible rfl); done)); simp only [Act.put, List.setIfInBounds_toArray, List.set_cons_zero, List.set_cons_succ])
      | (apply grow_skip (by rfl); simp only [Act.put, List.setIfInBounds_toArray, List.set_cons_zero, List.set_cons_succ]))
    apply grow_ints (T) (by rfl)
    · intro x hF K Q hK
      go_simp
      have h7 := (hF7 _ (hF 7 (by kernel_rfl))).ints;go_at_call 27;refine (takes_any _ _ I J _ (HX3.out x) h7 HJB.out (by have := HJL.out; omega)).mono ?_;rintro e w' ⟨v1, rfl, ho, hb⟩;exact hK _ _ hb (by rw [HTW.out]; exact ho)
    intro A8 c8 F8 O8 hF8 hO8
    simp only [Act.put, List.setIfInBounds_toArray, List.set_cons_zero, List.set_cons_succ]
    repeat (first
      | (apply grow_val (by rfl); (focus (intro x; (go_simp; try with_reducible rfl); done)); simp only [Act.put, List.setIfInBounds_toArray, List.set_cons_zero, List.set_cons_succ])
      | (apply grow_skip (by rfl); simp only [Act.put, List.setIfInBounds_toArray, List.set_cons_zero, List.set_cons_succ]))
    apply grow_callG (by rfl)
    · intro x hF K Q hK
      have h2 := (hF2 _ (hF 2 (by kernel_rfl))).ints
      have h8 := (hF8 _ (hF 8 (by kernel_rfl))).ints
      go_simp
      refine (equalInts_same _ _ _ _ h2 h8).mono ?_
      rintro e w' ⟨rfl, hb⟩
      exact hK _ hb
    simp only [Act.put, List.setIfInBounds_toArray, List.set_cons_zero, List.set_cons_succ]
    repeat (first
      | (apply grow_val (by rfl); (focus (intro x; (go_simp; try with_reducible rfl); done)); simp only [Act.put, List.setIfInBounds_toArray, List.set_cons_zero, List.set_cons_succ])
      | (apply grow_skip (by rfl); simp only [Act.put, List.setIfInBounds_toArray, List.set_cons_zero, List.set_cons_succ])
      | (apply grow_call (by rfl); (focus (intro x K Q hK; go_simp; (first | (go_at_call 28; (with_reducible refine (HX4.out x).mono ?_); rintro e w' ⟨rfl, hb⟩; exact hK _ hb)); done)); simp only [Act.put, List.setIfInBounds_toArray, List.set_cons_zero, List.set_cons_succ]))
    refine grow_nil ?_
    intro x hF hS9
    obtain ⟨w7, hb7⟩ := x
    clear hF hS9 qB qM
    go_wp2
    go_ret
    exact ⟨rfl, hz.nx hb7 hz.size⟩

end Go.Proofs.Ytldblcolnjkcaaa
