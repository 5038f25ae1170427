/- Contracts: the reference's contraction of one tensor. No conditions. -/
import Derived.Test.YtldblcolnjkcaaaSD2
import Derived.Test.YtldblcolnjkcaaaEX1
import Derived.Test.YtldblcolnjkcaaaGt
namespace Go.Proofs.Ytldblcolnjkcaaa
open Go.RowKit

theorem outs_diff : ∀ n, n ≤ 4 → ∀ d, d ≤ 4 → diffL ((upI n).eraseIdx d) = true ∧ ((upI n).eraseIdx d).all (inR · 0 4) = true := by decide
def orT (q : Bool) (R : TL) : TL := if q then R else ⟨[], []⟩
theorem orT_yes (R : TL) : orT true R = R := rfl
theorem orT_no (R : TL) : orT false R = ⟨[], []⟩ := rfl
def conT (T : TL) (d : Nat) : TL := orT (isShapeL (sdS T d)) (sdT T d)
def conB (T : TL) (d : Nat) : Bool := isShapeL (sdS T d) && isTensorL (sdT T d)

set_option maxRecDepth 100000 in
set_option maxHeartbeats 6400000 in
theorem contract_core (v vl vo : Value) (T R : TL) (U O E : List Int) (N : Nat) (q b : Bool) (w : World) (hv : TensorsV w v [T]) (hl : IntsS w vl [U]) (ho : Ints w vo O)
    (HEX : Hid (∀ ww, TensorsV ww v [T] → IntsS ww vl [U] → Calls Try.prog 141 #[v, vl] ww (RetExtB ww E true)))
    (HGO : Hid (∀ ww ve, Ints ww vo O → Ints ww ve E → Calls Try.prog 178 #[vo, ve] ww fun e w' => e = .returned (.bool q) ∧ Below ww.heap.size ww w'))
    (HSP : Hid (∀ ww ve, Ints ww ve E → Calls Try.prog 179 #[ve] ww fun e w' => ∃ r, e = .returned (.tuple #[r, .int .i64 N]) ∧ Below ww.heap.size ww w')) (hN : N ≤ 60)
    (HCN : Hid (q = true → ∀ ww ve, TensorsV ww v [T] → IntsS ww vl [U] → Ints ww vo O → Ints ww ve E → Calls Try.prog 180 #[v, vl, vo, ve] ww (RetTensor ww R))) (HB : Hid (q = true → isTensorL R = b)) :
    Calls Try.prog 168 #[v, vl, vo] w (RetTensorB w (orT q R) (q && b)) := by
  obtain ⟨A, c, rfl, -⟩ := hv.form
  obtain ⟨Al, cl, rfl, -⟩ := hl.form
  obtain ⟨Ao, co, rfl, -⟩ := ho.form
  have H1 := hid ((Hp.start w).alloc 75 #[.slice none 0 0, .slice none 0 0])
  have hb0 := below_alloc w (.cells #[.slice none 0 0, .slice none 0 0] 75)
  have hv1 := hv.ext hb0
  have hl1 := hl.ext hb0
  have HV := hid hv
  have HL := hid hl
  have HO := hid ho
  clear hb0 hv hl ho
  go_enter Try.func168, Try.ntmps168
  go_upto_region 1 with fail
  generalize (w.alloc (.cells #[.slice none 0 0, .slice none 0 0] 75)) = w1 at *
  go_wp2_with fail
  refine (HEX.out _ hv1 hl1).mono ?_; rintro e w2 ⟨r1, rfl, hr1, hb⟩
  have H2 := hid (H1.out.row hr1 hb)
  simp only [List.nil_append, List.cons_append] at H2
  obtain ⟨Ae, ce, rfl⟩ := hr1.form
  have ho2 := HO.out.ext H2.out.below
  have he2 := (H2.out.ints 1 rfl).ints
  clear hb hr1 hv1 hl1 H1
  go_wp2_with fail
  refine (HGO.out _ _ ho2 he2).mono ?_; rintro e w3 ⟨rfl, hb⟩
  have H3 := hid (H2.out.nx hb)
  clear hb ho2 he2 H2
  cases q
  · obtain ⟨⟨r0, r1⟩, s0, s1⟩ := (H3.out.blk 0 rfl).all2
    have HF := hid (H3.out.store2 0 rfl (.slice none 0 0) (.slice none 0 0))
    go_wp2
    refine bodyPost_ret (v := .tuple #[.agg #[.slice none 0 0, .slice none 0 0], .bool false]) (by simp [results, Try.results168, go_sem, r0, r1]) rfl ?_
    rw [orT_no]
    exact ⟨_, _, by simp, Own.nil _ _, Own.nil _ _, Sep.none_left _, HF.out.below⟩
  · have he3 := (H3.out.ints 1 rfl).ints
    have HBB := hid (HB.out rfl)
    have HCC := hid (HCN.out rfl)
    clear HB HCN
    go_wp2_with fail
    refine (HSP.out _ _ he3).mono ?_; rintro e w4 ⟨r2, rfl, hb⟩
    have H4 := hid (H3.out.nx hb)
    clear hb he3 H3
    have hNl : ¬ (4000 : Int) < (N : Int) := by omega
    have hv4 := HV.out.ext H4.out.below
    have hl4 := HL.out.ext H4.out.below
    have ho4 := HO.out.ext H4.out.below
    have he4 := (H4.out.ints 1 rfl).ints
    go_wp2_with fail
    refine (HCC.out _ _ hv4 hl4 ho4 he4).mono ?_; rintro e w5 ⟨s5, t5, rfl, hs5, ht5, hsep, hb⟩
    have H5 := hid (H4.out.rows hs5 ht5 hsep hb)
    simp only [List.nil_append, List.cons_append] at H5
    obtain ⟨A5, c5, rfl⟩ := hs5.form
    obtain ⟨B5, d5, rfl⟩ := ht5.form
    have H6 := hid (H5.out.alloc 75 #[.slice A5 R.shape.length c5, .slice B5 R.values.length d5])
    simp only [List.nil_append, List.cons_append] at H6
    clear hb hv4 hl4 ho4 he4 hs5 ht5 hsep H4 H5
    go_upto_region 8 with fail
    generalize (w5.alloc (.cells #[.slice A5 R.shape.length c5, .slice B5 R.values.length d5] 75)) = w6 at *
    generalize w5.heap.size = g12 at *
    have hbx := H6.out.blk 4 rfl
    have qz := fun x : ExtW w6 => (x.at_ hbx).all2.1
    have hten : TensorV w6 (.agg #[.slice A5 R.shape.length c5, .slice B5 R.values.length d5]) R := Own.tensor (H6.out.ints 2 rfl) (H6.out.ints 3 rfl)
    have HVT := hid (fun x : ExtW w6 => validTensor_any _ R x.v (TensorV.ext hten x.h))
    rw [HBB.out] at HVT
    refine region_mk 3 (by kernel_rfl) (by kernel_rfl) ?_
    apply Exists.intro
    simp only [List.take_succ_cons, List.take_zero, List.drop_succ_cons, List.drop_zero]
    repeat (first
      | (apply grow_val (by rfl); (focus (intro x; (go_simp; try with_reducible rfl); done)); simp only [Act.put, List.setIfInBounds_toArray, List.set_cons_zero, List.set_cons_succ])
      | (apply grow_skip (by rfl); simp only [Act.put, List.setIfInBounds_toArray, List.set_cons_zero, List.set_cons_succ])
      | (apply grow_call (by rfl); (focus (intro x K Q hK; go_simp; (first | (go_at_call 135; (with_reducible refine (HVT.out x).mono ?_); rintro e w' ⟨rfl, hb⟩; exact hK _ hb)); done)); simp only [Act.put, List.setIfInBounds_toArray, List.set_cons_zero, List.set_cons_succ]))
    refine grow_nil ?_
    rintro ⟨w7, hb7⟩ hF hS
    have hb7 : Below w6.heap.size w6 w7 := hb7
    have H7 := hid (H6.out.nx hb7)
    obtain ⟨⟨r0, r1⟩, s0, s1⟩ := (H7.out.blk 0 rfl).all2
    have HF := hid (H7.out.store2 0 rfl (.slice A5 R.shape.length c5) (.slice B5 R.values.length d5))
    clear hF hS qz hb7 H6 hbx hten
    go_wp2
    refine bodyPost_ret (v := .tuple #[.agg #[.slice A5 R.shape.length c5, .slice B5 R.values.length d5], .bool b]) (by simp [results, Try.results168, go_sem, r0, r1]) rfl ?_
    rw [orT_yes]
    exact ⟨_, _, by simp, HF.out.ints 2 rfl, HF.out.ints 3 rfl, HF.out.apart 2 3 rfl rfl (by omega), HF.out.below⟩

set_option maxRecDepth 100000 in
set_option maxHeartbeats 6400000 in
theorem Contract_core (v vl vo : Value) (T R : TL) (U O : List Int) (b : Bool) (w : World) (hv : TensorsV w v [T]) (hl : IntsS w vl [U]) (ho : Ints w vo O)
    (HVT : Hid (∀ ww, TensorsV ww v [T] → IntsS ww vl [U] → Calls Try.prog 140 #[v, vl] ww fun e w' => e = .returned (.bool true) ∧ Below ww.heap.size ww w'))
    (HC : Hid (∀ ww, TensorsV ww v [T] → IntsS ww vl [U] → Ints ww vo O → Calls Try.prog 168 #[v, vl, vo] ww (RetTensorB ww R b))) :
    Calls Try.prog 146 #[v, vl, vo] w (RetTensorB w (orT b R) b) := by
  obtain ⟨A, c, rfl, -⟩ := hv.form
  obtain ⟨Al, cl, rfl, -⟩ := hl.form
  obtain ⟨Ao, co, rfl, -⟩ := ho.form
  have H1 := hid ((Hp.start w).alloc 75 #[.slice none 0 0, .slice none 0 0])
  have hb0 := below_alloc w (.cells #[.slice none 0 0, .slice none 0 0] 75)
  have hv1 := hv.ext hb0
  have hl1 := hl.ext hb0
  have HV := hid hv
  have HL := hid hl
  have HO := hid ho
  clear hb0 hv hl ho
  go_enter Try.func146, Try.ntmps146
  go_upto_region 1 with fail
  generalize (w.alloc (.cells #[.slice none 0 0, .slice none 0 0] 75)) = w1 at *
  go_wp2_with fail
  refine (HVT.out _ hv1 hl1).mono ?_; rintro e w2 ⟨rfl, hb⟩
  have H2 := hid (H1.out.nx hb)
  simp only [List.nil_append] at H2
  have hv2 := HV.out.ext H2.out.below
  have hl2 := HL.out.ext H2.out.below
  have ho2 := HO.out.ext H2.out.below
  clear hb hv1 hl1 H1
  go_wp2_with fail
  refine (HC.out _ hv2 hl2 ho2).mono ?_; rintro e w3 ⟨s5, t5, rfl, hs5, ht5, hsep, hb⟩
  have H3 := hid (H2.out.rows hs5 ht5 hsep hb)
  simp only [List.nil_append, List.cons_append] at H3
  obtain ⟨A5, c5, rfl⟩ := hs5.form
  obtain ⟨B5, d5, rfl⟩ := ht5.form
  have H4 := hid (H3.out.alloc 75 #[.slice A5 R.shape.length c5, .slice B5 R.values.length d5])
  simp only [List.nil_append, List.cons_append] at H4
  clear hb hv2 hl2 ho2 hs5 ht5 hsep H2 H3
  go_upto_region 4 with fail
  generalize (w3.alloc (.cells #[.slice A5 R.shape.length c5, .slice B5 R.values.length d5] 75)) = w4 at *
  generalize w3.heap.size = g12 at *
  obtain ⟨⟨r0, r1⟩, s0, s1⟩ := (H4.out.blk 0 rfl).all2
  obtain ⟨⟨z0, z1⟩, k0, k1⟩ := (H4.out.blk 3 rfl).all2
  cases b
  · have HF := hid (H4.out.store2 0 rfl (.slice none 0 0) (.slice none 0 0))
    go_wp2
    refine bodyPost_ret (v := .tuple #[.agg #[.slice none 0 0, .slice none 0 0], .bool false]) (by simp [results, Try.results146, go_sem, r0, r1]) rfl ?_
    rw [orT_no]
    exact ⟨_, _, by simp, Own.nil _ _, Own.nil _ _, Sep.none_left _, HF.out.below⟩
  · have HF := hid (H4.out.store2 0 rfl (.slice A5 R.shape.length c5) (.slice B5 R.values.length d5))
    go_wp2
    refine bodyPost_ret (v := .tuple #[.agg #[.slice A5 R.shape.length c5, .slice B5 R.values.length d5], .bool true]) (by simp [results, Try.results146, go_sem, r0, r1]) rfl ?_
    rw [orT_yes]
    exact ⟨_, _, by simp, HF.out.ints 1 rfl, HF.out.ints 2 rfl, HF.out.apart 1 2 rfl rfl (by omega), HF.out.below⟩

end Go.Proofs.Ytldblcolnjkcaaa
