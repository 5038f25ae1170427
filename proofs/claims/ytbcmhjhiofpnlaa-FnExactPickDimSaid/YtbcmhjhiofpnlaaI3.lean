/- Contract: PickDim of the reference. No conditions. (printed by mki3.py) -/
import Derived.Test.YtbcmhjhiofpnlaaI1
import Derived.Test.YtbcmhjhiofpnlaaV6
import Derived.Test.YtbcmhjhiofpnlaaV8
import Derived.Test.YtbcmhjhiofpnlaaVA
import Derived.Test.YtbcmhjhiofpnlaaGw
import Derived.Deep.Cut
import Derived.Deep.DeepCutAuto
import Derived.Deep.QuietTactic
import Derived.BigQuiet
namespace Go.Proofs.Ytbcmhjhiofpnlaa
open Go.RowKit

theorem inRange_ext (n lo hi : Int) (w : World) :
    Calls Try.prog 87 #[.int .i64 n, .int .i64 lo, .int .i64 hi] w fun e w' => e = .returned (.bool (inR n lo hi)) ∧ Below w.heap.size w w' := (inRange_any n lo hi w).mono fun _ _ h => ⟨h.1, by rw [← h.2]; exact Below.refl _ _⟩
/-- A cell that holds a value, below all that is made. -/
structure CF (w : World) (p : Addr) (v : Value) : Prop where
  c : w.cell? p = some v
theorem CF.of {w : World} {p : Addr} {v : Value} (h : w.cell? p = some v) : CF w p v := ⟨h⟩

set_option maxRecDepth 100000 in
set_option maxHeartbeats 6400000 in
theorem sPickDim_any (v : Value) (V : VL) (d i : Int) (w : World) (hv : ViewV w v V) (wd : -9223372036854775808 ≤ d ∧ d ≤ 9223372036854775807) (wi : -9223372036854775808 ≤ i ∧ i ≤ 9223372036854775807) :
    Calls Try.prog 25 #[v, .int .i64 d, .int .i64 i] w (RetViewB w (pickL V d i) (okPick V d i)) := by
  have hv0 := hv
  obtain ⟨sv, tv, rfl, hsv, htv⟩ := hv
  obtain ⟨As, cs, es, -, hcs, -⟩ := id hsv
  subst es
  obtain ⟨At, ct, et, -, hct, -⟩ := id htv
  subst et
  unfold maxLen at hcs hct
  have hA := (Blk.new w 28 #[.int .i64 V.base, .slice As V.shape.length cs, .slice At V.strides.length ct]).alloc (.cells #[.int .i64 0, .slice none 0 0, .slice none 0 0] 28)
  have hR := Blk.new (w.alloc (.cells #[.int .i64 V.base, .slice As V.shape.length cs, .slice At V.strides.length ct] 28)) 28 #[.int .i64 0, .slice none 0 0, .slice none 0 0]
  have hW : Below w.heap.size w ((w.alloc (.cells #[.int .i64 V.base, .slice As V.shape.length cs, .slice At V.strides.length ct] 28)).alloc (.cells #[.int .i64 0, .slice none 0 0, .slice none 0 0] 28)) := ((Below.refl _ _).alloc (Nat.le_refl _) _).alloc (by simp) _
  simp only [World.size_alloc] at hR
  have hn0 := hA.lt
  have hn1 := hR.lt
  generalize hW1 : (w.alloc (.cells #[.int .i64 V.base, .slice As V.shape.length cs, .slice At V.strides.length ct] 28)).alloc (.cells #[.int .i64 0, .slice none 0 0, .slice none 0 0] 28) = W1 at *
  have HW1 := hid hW1
  clear hW1
  cases c0 : isViewL V
  · have HQ := hid (show pickL V d i = VL.zero ∧ okPick V d i = false by have : okPick V d i = false := by simp [okPick, hasDimL, c0]
                                                                         exact ⟨pick_no this, this⟩)
    go_enter Try.func25, Try.ntmps25
    go_wp2_with fail
    rw [HW1.out]
    clear HW1
    have qA := fun x : ExtW W1 => (x.at_ hA).all3.1
    have HaE := hid (fun x : ExtW W1 => (hv0.ext hW).ext x.h)
    refine region_mk 26 (by kernel_rfl) (by kernel_rfl) ?_
    apply Exists.intro
    simp only [List.take_succ_cons, List.take_zero, List.drop_succ_cons, List.drop_zero]
    repeat (first
      | (apply grow_val (by rfl); (focus (intro x; (go_simp; try with_reducible rfl); done)); simp only [Act.put, List.setIfInBounds_toArray, List.set_cons_zero, List.set_cons_succ])
      | (apply grow_skip (by rfl); simp only [Act.put, List.setIfInBounds_toArray, List.set_cons_zero, List.set_cons_succ])
      | (apply grow_call (by rfl); (focus (intro x K Q hK; go_simp; (first | (go_at_call 78; (with_reducible refine (validView_any _ V _ (HaE.out _)).mono ?_); rintro e w' ⟨rfl, hb⟩; simp only [c0]; exact hK _ hb)); done)); simp only [Act.put, List.setIfInBounds_toArray, List.set_cons_zero, List.set_cons_succ]))
    refine grow_nil ?_
    rintro ⟨w1, hb1⟩ - -
    have hb1 : Below W1.heap.size W1 w1 := hb1
    clear qA
    have hz1 := hb1.size
    have hD1 := hW.nx hb1 hW.size
    obtain ⟨⟨r0, r1, r2⟩, rf0, rf1, rf2⟩ := (hR.nx hb1).all3
    go_wp2
    refine bodyPost_ret (v := .tuple #[.agg #[.int .i64 0, .slice none 0 0, .slice none 0 0], .bool false]) (by simp [results, Try.results25, go_sem, r0, r1, r2]) rfl ?_
    rw [HQ.out.1, HQ.out.2]
    exact ⟨_, _, rfl, Own.nil _ _, Own.nil _ _, Sep.none_left _, below3 hD1 (by omega) _ _ _⟩

  have hl4 := (isViewL_lens c0).1
  have hl4t := (isViewL_lens c0).2
  cases c1 : inR d 0 ((V.shape.length : Int) - 1)
  · have HQ := hid (show pickL V d i = VL.zero ∧ okPick V d i = false by
      have : okPick V d i = false := by
        cases h : okPick V d i
        · rfl
        · simp only [okPick, hasDimL, Bool.and_eq_true, decide_eq_true_eq] at h
          rw [inR_yes (by omega) (by omega)] at c1; cases c1
      exact ⟨pick_no this, this⟩)
    go_enter Try.func25, Try.ntmps25
    go_wp2_with fail
    rw [HW1.out]
    clear HW1
    have qA := fun x : ExtW W1 => (x.at_ hA).all3.1
    have HaE := hid (fun x : ExtW W1 => (hv0.ext hW).ext x.h)
    refine region_mk 26 (by kernel_rfl) (by kernel_rfl) ?_
    apply Exists.intro
    simp only [List.take_succ_cons, List.take_zero, List.drop_succ_cons, List.drop_zero]
    repeat (first
      | (apply grow_val (by rfl); (focus (intro x; (go_simp; try with_reducible rfl); done)); simp only [Act.put, List.setIfInBounds_toArray, List.set_cons_zero, List.set_cons_succ])
      | (apply grow_skip (by rfl); simp only [Act.put, List.setIfInBounds_toArray, List.set_cons_zero, List.set_cons_succ])
      | (apply grow_call (by rfl); (focus (intro x K Q hK; go_simp; (first | (go_at_call 78; (with_reducible refine (validView_any _ V _ (HaE.out _)).mono ?_); rintro e w' ⟨rfl, hb⟩; simp only [c0]; exact hK _ hb) | (go_at_call 79; (with_reducible refine (isDim_any _ V d _ (HaE.out _)).mono ?_); rintro e w' ⟨rfl, hb⟩; simp only [c1]; exact hK _ hb)); done)); simp only [Act.put, List.setIfInBounds_toArray, List.set_cons_zero, List.set_cons_succ]))
    refine grow_nil ?_
    rintro ⟨w1, hb1⟩ - -
    have hb1 : Below W1.heap.size W1 w1 := hb1
    clear qA
    have hz1 := hb1.size
    have hD1 := hW.nx hb1 hW.size
    obtain ⟨⟨r0, r1, r2⟩, rf0, rf1, rf2⟩ := (hR.nx hb1).all3
    go_wp2
    refine bodyPost_ret (v := .tuple #[.agg #[.int .i64 0, .slice none 0 0, .slice none 0 0], .bool false]) (by simp [results, Try.results25, go_sem, r0, r1, r2]) rfl ?_
    rw [HQ.out.1, HQ.out.2]
    exact ⟨_, _, rfl, Own.nil _ _, Own.nil _ _, Sep.none_left _, below3 hD1 (by omega) _ _ _⟩

  have cd := inR_iff.1 c1
  obtain ⟨k, rfl⟩ : ∃ k : Nat, d = (k : Int) := ⟨d.toNat, by omega⟩
  have hkl : k < V.shape.length := by omega
  have hkt : k < V.strides.length := by have := (isViewL_and c0).2.1; omega
  have hsb := shape_le' c0 hkl
  have htb := stride_le c0 hkt
  have hbb := base_le c0
  have hgd : V.shape.getD k 0 = V.shape[k] := by simp [hkl]
  have hgt : V.strides.getD k 0 = V.strides[k] := by simp [hkt]
  have HP := hid (show ∀ b, inR i (-V.shape[k]) (V.shape[k] - 1) = b → okPick V k i = b ∧ pickL V k i = (if b then tidyL ⟨V.base + pickN0 V.shape[k] i * V.strides[k], V.shape.eraseIdx k, V.strides.eraseIdx k⟩ else VL.zero) by
    rintro b rfl
    have : hasDimL V k = true := by simp [hasDimL, c0]; omega
    simp only [okPick, pickL, pickV, Int.toNat_natCast, hgd, hgt, this, Bool.true_and, and_self])
  have HPV := hid (fun j (h0 : 0 ≤ j) (h1 : j < V.shape[k]) => pick_valid c0 hkl h0 h1)
  clear cd hgd
  obtain ⟨A', c', e', -, -, hr⟩ := id hsv
  simp only [Value.slice.injEq, true_and] at e'
  obtain ⟨rfl, rfl⟩ := e'
  obtain ⟨bs, os, rfl, hbs, hcs1⟩ := hr (by omega)
  have hxs1 := hcs1 k V.shape[k] (by simp [hkl])
  clear hr hcs1
  have hki : (k : Int) < (V.shape.length : Int) := by omega
  have hwn : IntKind.i64.wrap (-V.shape[k]) = -V.shape[k] := IntWalk.i64_in _ (by omega)
  have hwm : IntKind.i64.wrap (V.shape[k] - 1) = V.shape[k] - 1 := IntWalk.i64_in _ (by omega)

  cases c2 : inR i (-V.shape[k]) (V.shape[k] - 1)
  · have HQ := hid (show pickL V k i = VL.zero ∧ okPick V k i = false by
      have := HP.out false c2
      exact ⟨this.2.trans (by simp), this.1⟩)
    clear hgt
    go_enter Try.func25, Try.ntmps25
    go_wp2_with fail
    rw [HW1.out]
    clear HW1
    have qA := fun x : ExtW W1 => (x.at_ hA).all3.1
    have HaE := hid (fun x : ExtW W1 => (hv0.ext hW).ext x.h)
    have qX := fun x : ExtW W1 => ((hW.trans (x.h.mono hW.size)).cell (p := ⟨bs, os + k, none⟩) hbs).trans hxs1
    refine region_mk 26 (by kernel_rfl) (by kernel_rfl) ?_
    apply Exists.intro
    simp only [List.take_succ_cons, List.take_zero, List.drop_succ_cons, List.drop_zero]
    repeat (first
      | (apply grow_val (by rfl); (focus (intro x; (go_simp; try with_reducible rfl); done)); simp only [Act.put, List.setIfInBounds_toArray, List.set_cons_zero, List.set_cons_succ])
      | (apply grow_skip (by rfl); simp only [Act.put, List.setIfInBounds_toArray, List.set_cons_zero, List.set_cons_succ])
      | (apply grow_call (by rfl); (focus (intro x K Q hK; go_simp; (first | (go_at_call 78; (with_reducible refine (validView_any _ V _ (HaE.out _)).mono ?_); rintro e w' ⟨rfl, hb⟩; simp only [c0]; exact hK _ hb) | (go_at_call 79; (with_reducible refine (isDim_any _ V k _ (HaE.out _)).mono ?_); rintro e w' ⟨rfl, hb⟩; simp only [c1]; exact hK _ hb) | (go_at_call 87; (with_reducible refine (inRange_ext _ _ _ _).mono ?_); rintro e w' ⟨rfl, hb⟩; simp only [c2]; exact hK _ hb)); done)); simp only [Act.put, List.setIfInBounds_toArray, List.set_cons_zero, List.set_cons_succ]))
    refine grow_nil ?_
    rintro ⟨w1, hb1⟩ - -
    have hb1 : Below W1.heap.size W1 w1 := hb1
    clear qA qX
    have hz1 := hb1.size
    have hD1 := hW.nx hb1 hW.size
    obtain ⟨⟨r0, r1, r2⟩, rf0, rf1, rf2⟩ := (hR.nx hb1).all3
    go_wp2
    refine bodyPost_ret (v := .tuple #[.agg #[.int .i64 0, .slice none 0 0, .slice none 0 0], .bool false]) (by simp [results, Try.results25, go_sem, r0, r1, r2]) rfl ?_
    rw [HQ.out.1, HQ.out.2]
    exact ⟨_, _, rfl, Own.nil _ _, Own.nil _ _, Sep.none_left _, below3 hD1 (by omega) _ _ _⟩

  have ci := inR_iff.1 c2
  by_cases c3 : i < 0
  · obtain ⟨j, hj⟩ : ∃ j, j = i + V.shape[k] := ⟨_, rfl⟩
    have hw0 : IntKind.i64.wrap (i + V.shape[k]) = j := by rw [hj]; exact IntWalk.i64_in _ (by omega)
    obtain ⟨y, hy⟩ : ∃ y, y = V.base + j * V.strides[k] := ⟨_, rfl⟩
    have hj0 : pickN0 V.shape[k] i = j := by unfold pickN0; split <;> omega
    have HQ := hid (show pickL V k i = tidyL ⟨y, V.shape.eraseIdx k, V.strides.eraseIdx k⟩ ∧ okPick V k i = true ∧ isViewL (tidyL ⟨y, V.shape.eraseIdx k, V.strides.eraseIdx k⟩) = true by
      have := HP.out true c2
      rw [hj0, ← hy] at this
      refine ⟨this.2.trans (by simp), this.1, ?_⟩
      have := HPV.out j (by omega) (by omega)
      simp only [pickV, hgt] at this
      rw [hy]; exact this)
    have hm := mul_bd (i := j) (s := V.strides[k]) (by omega) (by omega) htb.1 htb.2
    have hw1 : IntKind.i64.wrap (j * V.strides[k]) = j * V.strides[k] := IntWalk.i64_in _ (by omega)
    have hw2 : IntKind.i64.wrap (V.base + j * V.strides[k]) = y := by rw [hy]; exact IntWalk.i64_in _ (by omega)
    clear hy hm hj0 hgt
    clear hj ci
    obtain ⟨A', c', e', -, -, hr⟩ := id htv
    simp only [Value.slice.injEq, true_and] at e'
    obtain ⟨rfl, rfl⟩ := e'
    obtain ⟨bt, ot, rfl, hbt, hct1⟩ := hr (by omega)
    have hxt1 := hct1 k V.strides[k] (by simp [hkt])
    clear hr hct1
    have hki2 : (k : Int) < (V.strides.length : Int) := by omega
    go_enter Try.func25, Try.ntmps25
    go_wp2_with fail
    rw [HW1.out]
    clear HW1
    have qA := fun x : ExtW W1 => (x.at_ hA).all3.1
    have HaE := hid (fun x : ExtW W1 => (hv0.ext hW).ext x.h)
    have qX := fun x : ExtW W1 => ((hW.trans (x.h.mono hW.size)).cell (p := ⟨bs, os + k, none⟩) hbs).trans hxs1
    refine region_mk 26 (by kernel_rfl) (by kernel_rfl) ?_
    apply Exists.intro
    simp only [List.take_succ_cons, List.take_zero, List.drop_succ_cons, List.drop_zero]
    repeat (first
      | (apply grow_val (by rfl); (focus (intro x; (go_simp; try with_reducible rfl); done)); simp only [Act.put, List.setIfInBounds_toArray, List.set_cons_zero, List.set_cons_succ])
      | (apply grow_skip (by rfl); simp only [Act.put, List.setIfInBounds_toArray, List.set_cons_zero, List.set_cons_succ])
      | (apply grow_call (by rfl); (focus (intro x K Q hK; go_simp; (first | (go_at_call 78; (with_reducible refine (validView_any _ V _ (HaE.out _)).mono ?_); rintro e w' ⟨rfl, hb⟩; simp only [c0]; exact hK _ hb) | (go_at_call 79; (with_reducible refine (isDim_any _ V k _ (HaE.out _)).mono ?_); rintro e w' ⟨rfl, hb⟩; simp only [c1]; exact hK _ hb) | (go_at_call 87; (with_reducible refine (inRange_ext _ _ _ _).mono ?_); rintro e w' ⟨rfl, hb⟩; simp only [c2]; exact hK _ hb)); done)); simp only [Act.put, List.setIfInBounds_toArray, List.set_cons_zero, List.set_cons_succ]))
    refine grow_nil ?_
    rintro ⟨w1, hb1⟩ - -
    have hb1 : Below W1.heap.size W1 w1 := hb1
    clear qA qX
    have hz1 := hb1.size
    have hD1 := hW.nx hb1 hW.size
    have hA := hA.nx hb1
    have hR := hR.nx hb1
    obtain ⟨⟨q0, q1, q2⟩, -⟩ := id hA.all3
    have hx0 := (hD1.cell (p := ⟨bs, os + k, none⟩) hbs).trans hxs1
    have hD := hD1
    have hn1 : w.heap.size + 1 < w1.heap.size := by omega
    clear hb1 hW hz1 hD1
    go_upto_region 5 with fail
    generalize w1 = W2 at *
    have hXT := (hD.cell (p := ⟨bt, ot + k, none⟩) hbt).trans hxt1
    have hbt2 : bt < W2.heap.size := Nat.lt_of_lt_of_le hbt (by have := hD.size; omega)
    clear q0 q1 q2 hx0
    have qA := fun x : ExtW W2 => (x.at_ hA).all3.1
    have qX := fun x : ExtW W2 => (x.h.cell (p := ⟨bt, ot + k, none⟩) hbt2).trans hXT
    have HS := hid (fun x : ExtW W2 => (hsv.ext (hD.trans (x.h.mono hD.size))))
    have HT := hid (fun x : ExtW W2 => (htv.ext (hD.trans (x.h.mono hD.size))))
    refine region_mk 20 (by kernel_rfl) (by kernel_rfl) ?_
    apply Exists.intro
    simp only [List.take_succ_cons, List.take_zero, List.drop_succ_cons, List.drop_zero]
    repeat (first
      | (apply grow_val (by rfl); (focus (intro x; (go_simp; try with_reducible rfl); done)); simp only [Act.put, List.setIfInBounds_toArray, List.set_cons_zero, List.set_cons_succ])
      | (apply grow_skip (by rfl); simp only [Act.put, List.setIfInBounds_toArray, List.set_cons_zero, List.set_cons_succ]))
    apply grow_ints (V.shape.eraseIdx k) (by rfl)
    · intro x hF K Q hK
      go_simp
      go_at_call 88;(with_reducible refine (without_any _ V.shape k _ (HS.out x) hkl (by omega)).mono ?_);rintro e w' ⟨v1, rfl, ho, hb⟩;exact hK _ _ hb ho
    intro A13 c13 F13 O13 hF13 hO13
    simp only [Act.put, List.setIfInBounds_toArray, List.set_cons_zero, List.set_cons_succ]
    repeat (first
      | (apply grow_val (by rfl); (focus (intro x; (go_simp; try with_reducible rfl); done)); simp only [Act.put, List.setIfInBounds_toArray, List.set_cons_zero, List.set_cons_succ])
      | (apply grow_skip (by rfl); simp only [Act.put, List.setIfInBounds_toArray, List.set_cons_zero, List.set_cons_succ]))
    apply grow_ints (V.strides.eraseIdx k) (by rfl)
    · intro x hF K Q hK
      go_simp
      go_at_call 88;(with_reducible refine (without_any _ V.strides k _ (HT.out x) hkt (by omega)).mono ?_);rintro e w' ⟨v1, rfl, ho, hb⟩;exact hK _ _ hb ho
    intro A17 c17 F17 O17 hF17 hO17
    simp only [Act.put, List.setIfInBounds_toArray, List.set_cons_zero, List.set_cons_succ]
    repeat (first
      | (apply grow_val (by rfl); (focus (intro x; (go_simp; try with_reducible rfl); done)); simp only [Act.put, List.setIfInBounds_toArray, List.set_cons_zero, List.set_cons_succ])
      | (apply grow_skip (by rfl); simp only [Act.put, List.setIfInBounds_toArray, List.set_cons_zero, List.set_cons_succ]))
    apply grow_fn (fun d => .agg #[d.getD 0 undef, d.getD 1 undef, d.getD 2 undef]) ([.int .i64 y, .slice A13 (V.shape.eraseIdx k).length c13, .slice A17 (V.strides.eraseIdx k).length c17]) (by kernel_rfl) (by rfl)
    · intro x hF
      refine ⟨_, by (go_simp; try with_reducible rfl), rfl⟩
    intro v18 F18 hF18
    simp only [Act.put, List.setIfInBounds_toArray, List.set_cons_zero, List.set_cons_succ]
    repeat (first
      | (apply grow_val (by rfl); (focus (intro x; (go_simp; try with_reducible rfl); done)); simp only [Act.put, List.setIfInBounds_toArray, List.set_cons_zero, List.set_cons_succ])
      | (apply grow_skip (by rfl); simp only [Act.put, List.setIfInBounds_toArray, List.set_cons_zero, List.set_cons_succ]))
    apply grow_blk (28) (#[.int .i64 0, .slice none 0 0, .slice none 0 0]) (by rfl)
    · intro x
      go_simp
    intro g19 hg19 F19 O19 hF19 hO19
    simp only [Act.put, List.setIfInBounds_toArray, List.set_cons_zero, List.set_cons_succ]
    repeat (first
      | (apply grow_val (by rfl); (focus (intro x; (go_simp; try with_reducible rfl); done)); simp only [Act.put, List.setIfInBounds_toArray, List.set_cons_zero, List.set_cons_succ])
      | (apply grow_skip (by rfl); simp only [Act.put, List.setIfInBounds_toArray, List.set_cons_zero, List.set_cons_succ]))
    refine grow_nil ?_
    intro x hF hS
    have h13 := hF13 _ (hF 13 (by omega))
    have h17 := hF17 _ (hF 17 (by omega))
    have hsp : Sep (.slice A13 (V.shape.eraseIdx k).length c13) (.slice A17 (V.strides.eraseIdx k).length c17) := fun q h1 h2 => hS 13 17 (by omega) (by omega) (by omega) q (hO13 q h1) (hO17 q h2)
    have hB := hF19 _ (hF 19 (by omega))
    have e18 : v18 = .agg #[.int .i64 y, .slice A13 (V.shape.eraseIdx k).length c13, .slice A17 (V.strides.eraseIdx k).length c17] := hF18 _ (hF 18 (by omega))
    subst e18
    obtain ⟨w3, hb3⟩ := x
    simp only at h13 h17 hB
    have hn13 : ∀ q, (Value.slice A13 (V.shape.eraseIdx k).length c13).ownBlock = some q → q ≠ g19 := fun q h e => hS 13 19 (by omega) (by omega) (by omega) q (hO13 q h) (e ▸ hO19)
    have hn17 : ∀ q, (Value.slice A17 (V.strides.eraseIdx k).length c17).ownBlock = some q → q ≠ g19 := fun q h e => hS 17 19 (by omega) (by omega) (by omega) q (hO17 q h) (e ▸ hO19)
    clear hF hS hF13 hF17 hF18 hF19 hO13 hO17 hO19 qA qX
    have hG0 := hid (built_view y hB hb3 h13 h17 hsp hg19 hn13 hn17)
    obtain ⟨⟨r0, r1, r2⟩, rf0, rf1, rf2⟩ := hB.all3
    clear hn13 hn17
    go_wp2_with fail
    obtain ⟨hG, hb4⟩ := hG0.out
    clear r0 r1 r2 rf0 rf1 rf2 hB h13 h17 hG0
    generalize (((w3.setCell ⟨g19, 0, none⟩ (.int .i64 y)).setCell ⟨g19, 1, none⟩ (.slice A13 (V.shape.eraseIdx k).length c13)).setCell ⟨g19, 2, none⟩ (.slice A17 (V.strides.eraseIdx k).length c17)) = w4 at *
    have hD4 := hD.nx hb4 hD.size
    have hz4 := hb4.size
    go_wp2_with fail
    refine (stidy_any _ _ ⟨y, V.shape.eraseIdx k, V.strides.eraseIdx k⟩ W2.heap.size _ hG.s hG.t hsp hz4 (by have := List.length_eraseIdx_le V.shape k; show (V.shape.eraseIdx k).length ≤ 1000000000000; omega)).mono ?_; rintro e w5 ⟨s5, t5, rfl, ho5, hp5, hsep5, hb5⟩
    have hD5 := hD4.nx hb5 hD4.size
    have hz5 := hb5.size
    obtain ⟨A5, c5, e5⟩ := ho5.form
    obtain ⟨B5, d5, f5⟩ := hp5.form
    subst e5 f5
    go_wp2_with fail
    refine (made_any _ (tidyL ⟨y, V.shape.eraseIdx k, V.strides.eraseIdx k⟩) _ ⟨_, _, rfl, ho5.ints, hp5.ints⟩).mono ?_; rintro e w6 ⟨s6, t6, rfl, ho6, hp6, hsep6, hb6⟩
    have hD6 := hD5.nx hb6 hD5.size
    have hz6 := hb6.size
    have em : madeL (tidyL ⟨y, V.shape.eraseIdx k, V.strides.eraseIdx k⟩) = tidyL ⟨y, V.shape.eraseIdx k, V.strides.eraseIdx k⟩ := by simp [madeL, HQ.out.2.2]
    rw [em] at ho6 hp6
    have HM := hid (And.intro em HQ.out.2.2)
    clear em
    rw [HM.out.1, HM.out.2]
    obtain ⟨A6, c6, e6⟩ := ho6.form
    obtain ⟨B6, d6, f6⟩ := hp6.form
    subst e6 f6
    have hR6 := ((hR.nx hb4).nx hb5).nx hb6
    obtain ⟨⟨r0, r1, r2⟩, rf0, rf1, rf2⟩ := hR6.all3
    go_wp2
    refine bodyPost_ret (v := .tuple #[.agg #[.int .i64 (tidyL ⟨y, V.shape.eraseIdx k, V.strides.eraseIdx k⟩).base, .slice A6 (tidyL ⟨y, V.shape.eraseIdx k, V.strides.eraseIdx k⟩).shape.length c6, .slice B6 (tidyL ⟨y, V.shape.eraseIdx k, V.strides.eraseIdx k⟩).strides.length d6], .bool true]) (by simp [results, Try.results25, go_sem, r0, r1, r2]) rfl ?_
    rw [HQ.out.1, HQ.out.2.1]
    trace "f"
    trace_state
    exact ⟨_, _, rfl, (own3b ho6 (by omega) _ _ _).mono (by omega), (own3b hp6 (by omega) _ _ _).mono (by omega), hsep6, below3 hD6 (by omega) _ _ _⟩

  have c3' : 0 ≤ i := by omega
  obtain ⟨y, hy⟩ : ∃ y, y = V.base + i * V.strides[k] := ⟨_, rfl⟩
  have hj0 : pickN0 V.shape[k] i = i := by unfold pickN0; split <;> omega
  have HQ := hid (show pickL V k i = tidyL ⟨y, V.shape.eraseIdx k, V.strides.eraseIdx k⟩ ∧ okPick V k i = true ∧ isViewL (tidyL ⟨y, V.shape.eraseIdx k, V.strides.eraseIdx k⟩) = true by
    have := HP.out true c2
    rw [hj0, ← hy] at this
    refine ⟨this.2.trans (by simp), this.1, ?_⟩
    have := HPV.out i (by omega) (by omega)
    simp only [pickV, hgt] at this
    rw [hy]; exact this)
  have hm := mul_bd (i := i) (s := V.strides[k]) (by omega) (by omega) htb.1 htb.2
  have hw1 : IntKind.i64.wrap (i * V.strides[k]) = i * V.strides[k] := IntWalk.i64_in _ (by omega)
  have hw2 : IntKind.i64.wrap (V.base + i * V.strides[k]) = y := by rw [hy]; exact IntWalk.i64_in _ (by omega)
  clear hy hm hj0 hgt
  clear c3 ci
  obtain ⟨A', c', e', -, -, hr⟩ := id htv
  simp only [Value.slice.injEq, true_and] at e'
  obtain ⟨rfl, rfl⟩ := e'
  obtain ⟨bt, ot, rfl, hbt, hct1⟩ := hr (by omega)
  have hxt1 := hct1 k V.strides[k] (by simp [hkt])
  clear hr hct1
  have hki2 : (k : Int) < (V.strides.length : Int) := by omega
  go_enter Try.func25, Try.ntmps25
  go_wp2_with fail
  rw [HW1.out]
  clear HW1
  have qA := fun x : ExtW W1 => (x.at_ hA).all3.1
  have HaE := hid (fun x : ExtW W1 => (hv0.ext hW).ext x.h)
  have qX := fun x : ExtW W1 => ((hW.trans (x.h.mono hW.size)).cell (p := ⟨bs, os + k, none⟩) hbs).trans hxs1
  refine region_mk 26 (by kernel_rfl) (by kernel_rfl) ?_
  apply Exists.intro
  simp only [List.take_succ_cons, List.take_zero, List.drop_succ_cons, List.drop_zero]
  repeat (first
    | (apply grow_val (by rfl); (focus (intro x; (go_simp; try with_reducible rfl); done)); simp only [Act.put, List.setIfInBounds_toArray, List.set_cons_zero, List.set_cons_succ])
    | (apply grow_skip (by rfl); simp only [Act.put, List.setIfInBounds_toArray, List.set_cons_zero, List.set_cons_succ])
    | (apply grow_call (by rfl); (focus (intro x K Q hK; go_simp; (first | (go_at_call 78; (with_reducible refine (validView_any _ V _ (HaE.out _)).mono ?_); rintro e w' ⟨rfl, hb⟩; simp only [c0]; exact hK _ hb) | (go_at_call 79; (with_reducible refine (isDim_any _ V k _ (HaE.out _)).mono ?_); rintro e w' ⟨rfl, hb⟩; simp only [c1]; exact hK _ hb) | (go_at_call 87; (with_reducible refine (inRange_ext _ _ _ _).mono ?_); rintro e w' ⟨rfl, hb⟩; simp only [c2]; exact hK _ hb)); done)); simp only [Act.put, List.setIfInBounds_toArray, List.set_cons_zero, List.set_cons_succ]))
  refine grow_nil ?_
  rintro ⟨w1, hb1⟩ - -
  have hb1 : Below W1.heap.size W1 w1 := hb1
  clear qA qX
  have hz1 := hb1.size
  have hD1 := hW.nx hb1 hW.size
  have hA := hA.nx hb1
  have hR := hR.nx hb1
  obtain ⟨⟨q0, q1, q2⟩, -⟩ := id hA.all3
  have hx0 := (hD1.cell (p := ⟨bs, os + k, none⟩) hbs).trans hxs1
  have hD := hD1
  have hn1 : w.heap.size + 1 < w1.heap.size := by omega
  clear hb1 hW hz1 hD1
  go_upto_region 5 with fail
  generalize w1 = W2 at *
  have hXT := (hD.cell (p := ⟨bt, ot + k, none⟩) hbt).trans hxt1
  have hbt2 : bt < W2.heap.size := Nat.lt_of_lt_of_le hbt (by have := hD.size; omega)
  clear q0 q1 q2 hx0
  have qA := fun x : ExtW W2 => (x.at_ hA).all3.1
  have qX := fun x : ExtW W2 => (x.h.cell (p := ⟨bt, ot + k, none⟩) hbt2).trans hXT
  have HS := hid (fun x : ExtW W2 => (hsv.ext (hD.trans (x.h.mono hD.size))))
  have HT := hid (fun x : ExtW W2 => (htv.ext (hD.trans (x.h.mono hD.size))))
  refine region_mk 20 (by kernel_rfl) (by kernel_rfl) ?_
  apply Exists.intro
  simp only [List.take_succ_cons, List.take_zero, List.drop_succ_cons, List.drop_zero]
  repeat (first
    | (apply grow_val (by rfl); (focus (intro x; (go_simp; try with_reducible rfl); done)); simp only [Act.put, List.setIfInBounds_toArray, List.set_cons_zero, List.set_cons_succ])
    | (apply grow_skip (by rfl); simp only [Act.put, List.setIfInBounds_toArray, List.set_cons_zero, List.set_cons_succ]))
  apply grow_ints (V.shape.eraseIdx k) (by rfl)
  · intro x hF K Q hK
    go_simp
    go_at_call 88;(with_reducible refine (without_any _ V.shape k _ (HS.out x) hkl (by omega)).mono ?_);rintro e w' ⟨v1, rfl, ho, hb⟩;exact hK _ _ hb ho
  intro A13 c13 F13 O13 hF13 hO13
  simp only [Act.put, List.setIfInBounds_toArray, List.set_cons_zero, List.set_cons_succ]
  repeat (first
    | (apply grow_val (by rfl); (focus (intro x; (go_simp; try with_reducible rfl); done)); simp only [Act.put, List.setIfInBounds_toArray, List.set_cons_zero, List.set_cons_succ])
    | (apply grow_skip (by rfl); simp only [Act.put, List.setIfInBounds_toArray, List.set_cons_zero, List.set_cons_succ]))
  apply grow_ints (V.strides.eraseIdx k) (by rfl)
  · intro x hF K Q hK
    go_simp
    go_at_call 88;(with_reducible refine (without_any _ V.strides k _ (HT.out x) hkt (by omega)).mono ?_);rintro e w' ⟨v1, rfl, ho, hb⟩;exact hK _ _ hb ho
  intro A17 c17 F17 O17 hF17 hO17
  simp only [Act.put, List.setIfInBounds_toArray, List.set_cons_zero, List.set_cons_succ]
  repeat (first
    | (apply grow_val (by rfl); (focus (intro x; (go_simp; try with_reducible rfl); done)); simp only [Act.put, List.setIfInBounds_toArray, List.set_cons_zero, List.set_cons_succ])
    | (apply grow_skip (by rfl); simp only [Act.put, List.setIfInBounds_toArray, List.set_cons_zero, List.set_cons_succ]))
  apply grow_fn (fun d => .agg #[d.getD 0 undef, d.getD 1 undef, d.getD 2 undef]) ([.int .i64 y, .slice A13 (V.shape.eraseIdx k).length c13, .slice A17 (V.strides.eraseIdx k).length c17]) (by kernel_rfl) (by rfl)
  · intro x hF
    refine ⟨_, by (go_simp; try with_reducible rfl), rfl⟩
  intro v18 F18 hF18
  simp only [Act.put, List.setIfInBounds_toArray, List.set_cons_zero, List.set_cons_succ]
  repeat (first
    | (apply grow_val (by rfl); (focus (intro x; (go_simp; try with_reducible rfl); done)); simp only [Act.put, List.setIfInBounds_toArray, List.set_cons_zero, List.set_cons_succ])
    | (apply grow_skip (by rfl); simp only [Act.put, List.setIfInBounds_toArray, List.set_cons_zero, List.set_cons_succ]))
  apply grow_blk (28) (#[.int .i64 0, .slice none 0 0, .slice none 0 0]) (by rfl)
  · intro x
    go_simp
  intro g19 hg19 F19 O19 hF19 hO19
  simp only [Act.put, List.setIfInBounds_toArray, List.set_cons_zero, List.set_cons_succ]
  repeat (first
    | (apply grow_val (by rfl); (focus (intro x; (go_simp; try with_reducible rfl); done)); simp only [Act.put, List.setIfInBounds_toArray, List.set_cons_zero, List.set_cons_succ])
    | (apply grow_skip (by rfl); simp only [Act.put, List.setIfInBounds_toArray, List.set_cons_zero, List.set_cons_succ]))
  refine grow_nil ?_
  intro x hF hS
  have h13 := hF13 _ (hF 13 (by omega))
  have h17 := hF17 _ (hF 17 (by omega))
  have hsp : Sep (.slice A13 (V.shape.eraseIdx k).length c13) (.slice A17 (V.strides.eraseIdx k).length c17) := fun q h1 h2 => hS 13 17 (by omega) (by omega) (by omega) q (hO13 q h1) (hO17 q h2)
  have hB := hF19 _ (hF 19 (by omega))
  have e18 : v18 = .agg #[.int .i64 y, .slice A13 (V.shape.eraseIdx k).length c13, .slice A17 (V.strides.eraseIdx k).length c17] := hF18 _ (hF 18 (by omega))
  subst e18
  obtain ⟨w3, hb3⟩ := x
  simp only at h13 h17 hB
  have hn13 : ∀ q, (Value.slice A13 (V.shape.eraseIdx k).length c13).ownBlock = some q → q ≠ g19 := fun q h e => hS 13 19 (by omega) (by omega) (by omega) q (hO13 q h) (e ▸ hO19)
  have hn17 : ∀ q, (Value.slice A17 (V.strides.eraseIdx k).length c17).ownBlock = some q → q ≠ g19 := fun q h e => hS 17 19 (by omega) (by omega) (by omega) q (hO17 q h) (e ▸ hO19)
  clear hF hS hF13 hF17 hF18 hF19 hO13 hO17 hO19 qA qX
  have hG0 := hid (built_view y hB hb3 h13 h17 hsp hg19 hn13 hn17)
  obtain ⟨⟨r0, r1, r2⟩, rf0, rf1, rf2⟩ := hB.all3
  clear hn13 hn17
  go_wp2_with fail
  obtain ⟨hG, hb4⟩ := hG0.out
  clear r0 r1 r2 rf0 rf1 rf2 hB h13 h17 hG0
  generalize (((w3.setCell ⟨g19, 0, none⟩ (.int .i64 y)).setCell ⟨g19, 1, none⟩ (.slice A13 (V.shape.eraseIdx k).length c13)).setCell ⟨g19, 2, none⟩ (.slice A17 (V.strides.eraseIdx k).length c17)) = w4 at *
  have hD4 := hD.nx hb4 hD.size
  have hz4 := hb4.size
  go_wp2_with fail
  refine (stidy_any _ _ ⟨y, V.shape.eraseIdx k, V.strides.eraseIdx k⟩ W2.heap.size _ hG.s hG.t hsp hz4 (by have := List.length_eraseIdx_le V.shape k; show (V.shape.eraseIdx k).length ≤ 1000000000000; omega)).mono ?_; rintro e w5 ⟨s5, t5, rfl, ho5, hp5, hsep5, hb5⟩
  have hD5 := hD4.nx hb5 hD4.size
  have hz5 := hb5.size
  obtain ⟨A5, c5, e5⟩ := ho5.form
  obtain ⟨B5, d5, f5⟩ := hp5.form
  subst e5 f5
  go_wp2_with fail
  refine (made_any _ (tidyL ⟨y, V.shape.eraseIdx k, V.strides.eraseIdx k⟩) _ ⟨_, _, rfl, ho5.ints, hp5.ints⟩).mono ?_; rintro e w6 ⟨s6, t6, rfl, ho6, hp6, hsep6, hb6⟩
  have hD6 := hD5.nx hb6 hD5.size
  have hz6 := hb6.size
  have em : madeL (tidyL ⟨y, V.shape.eraseIdx k, V.strides.eraseIdx k⟩) = tidyL ⟨y, V.shape.eraseIdx k, V.strides.eraseIdx k⟩ := by simp [madeL, HQ.out.2.2]
  rw [em] at ho6 hp6
  have HM := hid (And.intro em HQ.out.2.2)
  clear em
  rw [HM.out.1, HM.out.2]
  obtain ⟨A6, c6, e6⟩ := ho6.form
  obtain ⟨B6, d6, f6⟩ := hp6.form
  subst e6 f6
  have hR6 := ((hR.nx hb4).nx hb5).nx hb6
  obtain ⟨⟨r0, r1, r2⟩, rf0, rf1, rf2⟩ := hR6.all3
  go_wp2
  refine bodyPost_ret (v := .tuple #[.agg #[.int .i64 (tidyL ⟨y, V.shape.eraseIdx k, V.strides.eraseIdx k⟩).base, .slice A6 (tidyL ⟨y, V.shape.eraseIdx k, V.strides.eraseIdx k⟩).shape.length c6, .slice B6 (tidyL ⟨y, V.shape.eraseIdx k, V.strides.eraseIdx k⟩).strides.length d6], .bool true]) (by simp [results, Try.results25, go_sem, r0, r1, r2]) rfl ?_
  rw [HQ.out.1, HQ.out.2.1]
  trace "f"
  trace_state
  exact ⟨_, _, rfl, (own3b ho6 (by omega) _ _ _).mono (by omega), (own3b hp6 (by omega) _ _ _).mono (by omega), hsep6, below3 hD6 (by omega) _ _ _⟩

end Go.Proofs.Ytbcmhjhiofpnlaa
