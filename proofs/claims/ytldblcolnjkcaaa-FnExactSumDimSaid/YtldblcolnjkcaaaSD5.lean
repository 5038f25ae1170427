/- Contract: the reference's sum over a dimension. No conditions. -/
import Derived.Test.YtldblcolnjkcaaaSD3
namespace Go.Proofs.Ytldblcolnjkcaaa
open Go.RowKit

/-- A new literal that reads as P says. -/
def Ent.rd (P : World → Value → Prop) (n : Nat) : Ent := ⟨fun _ w v => P w v ∧ ∃ g, v = .slice (some ⟨g, 0, none⟩) n n ∧ g < w.heap.size, fun v => ∃ g, v = .slice (some ⟨g, 0, none⟩) n n, fun v b => v.ownBlock = some b⟩
theorem Ent.rd_good (P : World → Value → Prop) (n : Nat) (hP : ∀ w w' v, Below w.heap.size w w' → P w v → P w' v) : Good (Ent.rd P n) :=
  ⟨fun _ _ _ _ hb ⟨h1, g, h2, h3⟩ => ⟨hP _ _ _ hb h1, g, h2, Nat.lt_of_lt_of_le h3 hb.size⟩, fun _ _ _ ⟨_, g, h2, _⟩ => ⟨g, h2⟩, ⟨.slice (some ⟨0, 0, none⟩) n n, 0, rfl⟩, fun _ _ _ b ⟨_, g, h2, h3⟩ hb => by
    have hb : Value.ownBlock _ = some b := hb
    rw [h2] at hb
    simp [Value.ownBlock] at hb
    omega⟩
section
variable {ops : Array Oper} {W : World} {R : Act → World → Prop} {k : Nat} {Es : List Ent} {o : Oper} {rest : List Oper} {a : Act} {s : Seen}
theorem grow_rd (P : World → Value → Prop) (n : Nat) (hP : ∀ w w' v, Below w.heap.size w w' → P w v → P w' v) (hw : Region.wanted o (yielded ops a.tmps) = true)
    (h : ∀ x : ExtW W, (∀ j, (autoDeps ops k).contains j = true → s.fact j x.v) → ∃ (cs : Array Value) (T' : TypeId), (execOp a.eval o).run Try.prog x.v = .ok (.value (.slice (some ⟨x.v.heap.size, 0, none⟩) n n)) (x.v.alloc (.cells cs T')) ∧ P (x.v.alloc (.cells cs T')) (.slice (some ⟨x.v.heap.size, 0, none⟩) n n))
    (hr : ∀ g, ∀ (F : World → Prop) (O : Nat → Prop), (∀ w, F w → P w (.slice (some ⟨g, 0, none⟩) n n)) → wpGrow Try.prog ops W R (k + 1) Es rest (a.put o.dst (.slice (some ⟨g, 0, none⟩) n n)) (s.push (.slice (some ⟨g, 0, none⟩) n n) F O)) :
    wpGrow Try.prog ops W R k (Ent.rd P n :: Es) (o :: rest) a s := by
  refine grow_mk _ (Ent.rd_good P n hP) hw (fun x hF _ K Q hK => ?_) fun v hV F O hF hO => ?_
  · obtain ⟨cs, T', h1, h2⟩ := h x hF
    unfold Oper.wp
    rw [h1]
    refine hK _ _ (below_alloc _ _) ⟨h2, _, rfl, by simp⟩ fun b hb => ?_
    have hb : Value.ownBlock (.slice (some ⟨x.v.heap.size, 0, none⟩) n n) = some b := hb
    simp [Value.ownBlock] at hb
    omega
  · obtain ⟨g, rfl⟩ := hV
    exact hr g F O fun w hw => (hF w hw).1
end
theorem run_litT (w : World) (s t : Value) : (Instr.buildSlice 86 1 #[(0, .agg #[s, t])]).run Try.prog w = .ok (.slice (some ⟨w.heap.size, 0, none⟩) 1 1) (w.alloc (.cells #[s, t] 75)) := by kernel_rfl
theorem run_litL (w : World) (A : Option Addr) (n c : Nat) : (Instr.buildSlice 82 1 #[(0, .slice A n c)]).run Try.prog w = .ok (.slice (some ⟨w.heap.size, 0, none⟩) 1 1) (w.alloc (.cells #[.slice A n c] 23)) := by kernel_rfl
theorem tensors_lit {w : World} {s t : Value} {T : TL} (hs : Ints w s T.shape) (ht : Ints w t T.values) : TensorsV (w.alloc (.cells #[s, t] 75)) (.slice (some ⟨w.heap.size, 0, none⟩) 1 1) [T] := by
  have hb := below_alloc w (.cells #[s, t] 75)
  refine ⟨rfl, some ⟨w.heap.size, 0, none⟩, 1, rfl, Nat.le_refl _, by unfold maxLen; omega, fun _ => ⟨w.heap.size, 0, rfl, by simp, fun j c hc => ?_⟩⟩
  have e : flatR encT [T] = [.row T.shape, .row T.values] := rfl
  rw [e] at hc
  match j, hc with
  | 0, hc => (obtain rfl := (Option.some.inj hc)); exact ⟨s, by simp, hs.nx hb⟩
  | 1, hc => (obtain rfl := (Option.some.inj hc)); exact ⟨t, by simp, ht.nx hb⟩
  | j + 2, hc => cases hc
theorem lists_lit {w : World} {v : Value} {xs : List Int} (hs : Ints w v xs) : IntsS (w.alloc (.cells #[v] 23)) (.slice (some ⟨w.heap.size, 0, none⟩) 1 1) [xs] := by
  have hb := below_alloc w (.cells #[v] 23)
  refine ⟨some ⟨w.heap.size, 0, none⟩, 1, rfl, Nat.le_refl _, by unfold maxLen; omega, fun _ => ⟨w.heap.size, 0, rfl, by simp, fun j c hc => ?_⟩⟩
  match j, hc with
  | 0, hc => (obtain rfl := (Option.some.inj hc)); exact ⟨v, by simp, hs.nx hb⟩
  | j + 1, hc => cases hc

set_option maxRecDepth 100000 in
set_option maxHeartbeats 6400000 in
theorem Contract_any (v vl vo : Value) (T : TL) (d : Nat) (w : World) (hv : TensorsV w v [T]) (hl : IntsS w vl [upI T.shape.length]) (ho : Ints w vo ((upI T.shape.length).eraseIdx d)) (hT : isTensorL T = true) (hd : d < T.shape.length) :
    Calls Try.prog 146 #[v, vl, vo] w (RetTensorB w (orT (conB T d) (conT T d)) (conB T d)) := by
  have hs := shape_ext (isTensorL_and hT).1
  have hE5 := extS_len hs.1
  have hok : okTs [T] [upI T.shape.length] = true := by simp [okTs, hT]
  have hOl : ((upI T.shape.length).eraseIdx d).length ≤ 4 := Nat.le_trans (List.length_eraseIdx_le _ _) (by rw [upI_length]; exact hs.1)
  have hPO : takenL (extS T.shape) ((upI T.shape.length).eraseIdx d) = sdS T d := by rw [taken_erase (by omega), extS_take]; rfl
  have hpN : prodW (spX (extS T.shape)) = (T.values.length : Int) := by
    rw [spX_ext (isTensorL_and hT).1, prodW_ones (isTensorL_and hT).1, (isTensorL_and hT).2.1, (shape_prod (isTensorL_and hT).1).1]
  have hN60 : T.values.length ≤ 60 := by
    have a := shape_prod (isTensorL_and hT).1
    have b := (isTensorL_and hT).2.1
    rw [a.1] at b
    omega
  have hod := outs_diff T.shape.length hs.1 d (by omega)
  refine Contract_core v vl vo T (conT T d) (upI T.shape.length) ((upI T.shape.length).eraseIdx d) (conB T d) w hv hl ho (hid fun ww h1 h2 => ?_) (hid fun ww h1 h2 h3 => ?_)
  · have := validTensors_any v vl [T] [upI T.shape.length] ww h1 h2
    rw [hok] at this
    exact this
  · refine contract_core v vl vo T (sdT T d) (upI T.shape.length) ((upI T.shape.length).eraseIdx d) (extS T.shape) T.values.length (isShapeL (sdS T d)) (isTensorL (sdT T d)) ww h1 h2 h3 (hid fun ww h1 h2 => ?_) (hid fun ww ve h3 h4 => ?_) (hid fun ww ve h4 => ?_) hN60
      (hid fun hq ww ve h1 h2 h3 h4 => contracted_any v vl vo ve T d ww h1 h2 h3 h4 hT hq) (hid fun _ => rfl)
    · have := extents_any v vl [T] [upI T.shape.length] ww h1 h2 hok
      rw [(ext_one hT).1, (ext_one hT).2] at this
      exact this
    · have := goodOut_any vo ve _ _ ww h3 h4 hod.2 hod.1 (by
        rw [hPO, List.all_eq_true]
        intro x hx
        exact inR_yes (hs.2.1 x (List.mem_of_mem_eraseIdx hx)).1 (hs.2.1 x (List.mem_of_mem_eraseIdx hx)).2) hE5 (by omega)
      rw [hPO] at this
      exact this
    · refine (space_any ve _ ww h4 (by omega)).mono ?_
      rintro e w' ⟨r, h5, -, h6⟩
      rw [hpN] at h5
      exact ⟨r, h5, h6⟩

set_option maxRecDepth 100000 in
set_option maxHeartbeats 6400000 in
theorem sSumDim_any (v : Value) (T : TL) (d : Int) (w : World) (hv : TensorV w v T) (hd : -9223372036854775808 ≤ d ∧ d ≤ 9223372036854775807) :
    Calls Try.prog 84 #[v, .int .i64 d] w (RetTensorB w (sumDL T d) (okSum T d)) := by
  have hv0 := hv
  obtain ⟨sv, tv, rfl, hs, ht⟩ := hv
  obtain ⟨As, cs, es⟩ := hs.form
  obtain ⟨At, ct, et⟩ := ht.form
  subst es et
  have H1 := ((Hp.start w).alloc 75 #[.slice As T.shape.length cs, .slice At T.values.length ct]).alloc 75 #[.slice none 0 0, .slice none 0 0]
  simp only [World.size_alloc, List.nil_append, List.cons_append] at H1
  have HNO := hid (fun h => sumD_no (T := T) (d := d) h)
  cases hok : isTensorL T
  · have HQ := hid (show okSum T d = false by simp [okSum, okSD, hok])
    go_enter Try.func84, Try.ntmps84
    go_upto_region 1 with fail
    generalize ((w.alloc (.cells #[.slice As T.shape.length cs, .slice At T.values.length ct] 75)).alloc (.cells #[.slice none 0 0, .slice none 0 0] 75)) = w1 at *
    obtain ⟨⟨a0, a1⟩, -⟩ := (H1.blk 0 rfl).all2
    go_wp2_with fail
    refine (validTensor_any _ T _ (TensorV.ext hv0 H1.below)).mono ?_; rintro e w2 ⟨rfl, hb⟩
    rw [hok]
    have H2 := hid (H1.nx hb)
    clear a0 a1 hb H1
    obtain ⟨⟨a0, a1⟩, -⟩ := (H2.out.blk 0 rfl).all2
    obtain ⟨⟨r0, r1⟩, s0, s1⟩ := (H2.out.blk 1 rfl).all2
    clear hok
    have HF := hid (H2.out.store2 1 rfl (.slice none 0 0) (.slice none 0 0))
    go_wp2
    refine bodyPost_ret (v := .tuple #[.agg #[.slice none 0 0, .slice none 0 0], .bool false]) (by simp [results, Try.results84, go_sem, r0, r1]) rfl ?_
    rw [HNO.out HQ.out, HQ.out]
    exact ⟨_, _, rfl, Own.nil _ _, Own.nil _ _, Sep.none_left _, HF.out.below⟩
  cases hin : inR d 0 ((T.shape.length : Int) - 1)
  · have HQ := hid (show okSum T d = false by simp [okSum, okSD, hin])
    have HIN := hid hin
    have hle4 : T.shape.length ≤ 4 := (shape_ext (isTensorL_and hok).1).1
    have hwn : IntKind.i64.wrap ((T.shape.length : Int) - 1) = (T.shape.length : Int) - 1 := IntWalk.i64_in _ (by omega)
    go_enter Try.func84, Try.ntmps84
    go_upto_region 1 with fail
    generalize ((w.alloc (.cells #[.slice As T.shape.length cs, .slice At T.values.length ct] 75)).alloc (.cells #[.slice none 0 0, .slice none 0 0] 75)) = w1 at *
    obtain ⟨⟨a0, a1⟩, -⟩ := (H1.blk 0 rfl).all2
    go_wp2_with fail
    refine (validTensor_any _ T _ (TensorV.ext hv0 H1.below)).mono ?_; rintro e w2 ⟨rfl, hb⟩
    rw [hok]
    have H2 := hid (H1.nx hb)
    clear a0 a1 hb H1 hin hok
    obtain ⟨⟨a0, a1⟩, -⟩ := (H2.out.blk 0 rfl).all2
    obtain ⟨⟨r0, r1⟩, s0, s1⟩ := (H2.out.blk 1 rfl).all2
    have HF := hid (H2.out.store2 1 rfl (.slice none 0 0) (.slice none 0 0))
    go_wp2_with fail
    refine (inRange_any _ _ _ _).mono ?_; rintro e w' ⟨rfl, rfl⟩
    rw [HIN.out]
    go_wp2
    refine bodyPost_ret (v := .tuple #[.agg #[.slice none 0 0, .slice none 0 0], .bool false]) (by simp [results, Try.results84, go_sem, r0, r1]) rfl ?_
    rw [HNO.out HQ.out, HQ.out]
    exact ⟨_, _, rfl, Own.nil _ _, Own.nil _ _, Sep.none_left _, HF.out.below⟩
  have HIN := hid hin
  have hle4 : T.shape.length ≤ 4 := (shape_ext (isTensorL_and hok).1).1
  have hwn : IntKind.i64.wrap ((T.shape.length : Int) - 1) = (T.shape.length : Int) - 1 := IntWalk.i64_in _ (by omega)
  have hd2 := inR_iff.1 hin
  obtain ⟨D, rfl⟩ : ∃ D : Nat, d = (D : Int) := ⟨d.toNat, by omega⟩
  have hD : D < T.shape.length := by omega
  have HC := hid (fun v vl vo ww h1 h2 h3 => Contract_any v vl vo T D ww h1 h2 h3 hok hD)
  have HQ := hid (show okSum T (D : Int) = conB T D by simp only [okSum, okSD, hok, hin, conB, Int.toNat_natCast, Bool.true_and])
  have HQ2 := hid (show sumDL T (D : Int) = orT (conB T D) (conT T D) by
    cases hc : conB T D
    · rw [orT_no]; exact sumD_no (by rw [HQ.out, hc])
    · rw [orT_yes, sumD_yes (by rw [HQ.out, hc])]
      have hc2 : isShapeL (sdS T D) = true := by simp only [conB, Bool.and_eq_true] at hc; exact hc.1
      simp [conT, hc2, orT])
  go_enter Try.func84, Try.ntmps84
  go_upto_region 1 with fail
  generalize ((w.alloc (.cells #[.slice As T.shape.length cs, .slice At T.values.length ct] 75)).alloc (.cells #[.slice none 0 0, .slice none 0 0] 75)) = w1 at *
  obtain ⟨⟨a0, a1⟩, -⟩ := (H1.blk 0 rfl).all2
  go_wp2_with fail
  refine (validTensor_any _ T _ (TensorV.ext hv0 H1.below)).mono ?_; rintro e w2 ⟨rfl, hb⟩
  rw [hok]
  have H2 := hid (H1.nx hb)
  clear a0 a1 hb H1 hin hok hd2
  obtain ⟨⟨a0, a1⟩, -⟩ := (H2.out.blk 0 rfl).all2
  go_wp2_with fail
  refine (inRange_any _ _ _ _).mono ?_; rintro e w' ⟨rfl, rfl⟩
  rw [HIN.out]
  clear a0 a1
  obtain ⟨R, hR⟩ : ∃ R, orT (conB T D) (conT T D) = R := ⟨_, rfl⟩
  obtain ⟨b, hb⟩ : ∃ b, conB T D = b := ⟨_, rfl⟩
  have HRR := hid hR
  have HBB := hid hb
  rw [hR, hb] at HC
  clear hR hb
  go_upto_region 3 with fail
  have hbx := H2.out.blk 0 rfl
  have qa := fun x : ExtW w2 => (x.at_ hbx).all2.1
  have HTT := hid (fun x : ExtW w2 => (hs.ext H2.out.below).ext x.h)
  have HTV := hid (fun x : ExtW w2 => (ht.ext H2.out.below).ext x.h)
  have HUP := hid (fun x : ExtW w2 => sUpTo_any T.shape.length x.v (by omega))
  have HUL := hid (show D < (upI T.shape.length).length by rw [upI_length]; exact hD)
  have HUM := hid (show (upI T.shape.length).length ≤ 1000000 by rw [upI_length]; omega)
  refine region_mk 16 (by kernel_rfl) (by kernel_rfl) ?_
  apply Exists.intro
  simp only [List.take_succ_cons, List.take_zero, List.drop_succ_cons, List.drop_zero]
  repeat (first
    | (apply grow_val (by rfl); (focus (intro x; (go_simp; try with_reducible rfl); done)); simp only [Act.put, List.setIfInBounds_toArray, List.set_cons_zero, List.set_cons_succ])
    | (apply grow_skip (by rfl); simp only [Act.put, List.setIfInBounds_toArray, List.set_cons_zero, List.set_cons_succ]))
  apply grow_rd (fun w v => TensorsV w v [T]) 1 (fun _ _ _ hb h => h.ext hb) (by rfl)
  · intro x hF
    exact ⟨_, _, by simp only [execOp]; go_simp, tensors_lit (HTT.out x) (HTV.out x)⟩
  intro g1 F1 O1 hF1
  simp only [Act.put, List.setIfInBounds_toArray, List.set_cons_zero, List.set_cons_succ]
  repeat (first
    | (apply grow_val (by rfl); (focus (intro x; (go_simp; try with_reducible rfl); done)); simp only [Act.put, List.setIfInBounds_toArray, List.set_cons_zero, List.set_cons_succ])
    | (apply grow_skip (by rfl); simp only [Act.put, List.setIfInBounds_toArray, List.set_cons_zero, List.set_cons_succ]))
  apply grow_ints (upI T.shape.length) (by rfl)
  · intro x hF K Q hK
    go_simp
    go_at_call 147;(with_reducible refine (HUP.out x).mono ?_);rintro e w' ⟨v1, rfl, ho, hb⟩;exact hK _ _ hb ho
  intro A5 c5 F5 O5 hF5 hO5
  simp only [Act.put, List.setIfInBounds_toArray, List.set_cons_zero, List.set_cons_succ]
  repeat (first
    | (apply grow_val (by rfl); (focus (intro x; (go_simp; try with_reducible rfl); done)); simp only [Act.put, List.setIfInBounds_toArray, List.set_cons_zero, List.set_cons_succ])
    | (apply grow_skip (by rfl); simp only [Act.put, List.setIfInBounds_toArray, List.set_cons_zero, List.set_cons_succ]))
  apply grow_rd (fun w v => IntsS w v [upI T.shape.length]) 1 (fun _ _ _ hb h => h.ext hb) (by rfl)
  · intro x hF
    have h5 := hF5 _ (hF 5 (by kernel_rfl))
    exact ⟨_, _, by simp only [execOp]; go_simp, lists_lit h5.ints⟩
  intro g6 F6 O6 hF6
  simp only [Act.put, List.setIfInBounds_toArray, List.set_cons_zero, List.set_cons_succ]
  repeat (first
    | (apply grow_val (by rfl); (focus (intro x; (go_simp; try with_reducible rfl); done)); simp only [Act.put, List.setIfInBounds_toArray, List.set_cons_zero, List.set_cons_succ])
    | (apply grow_skip (by rfl); simp only [Act.put, List.setIfInBounds_toArray, List.set_cons_zero, List.set_cons_succ]))
  apply grow_ints (upI T.shape.length) (by rfl)
  · intro x hF K Q hK
    go_simp
    go_at_call 147;(with_reducible refine (HUP.out x).mono ?_);rintro e w' ⟨v1, rfl, ho, hb⟩;exact hK _ _ hb ho
  intro A10 c10 F10 O10 hF10 hO10
  simp only [Act.put, List.setIfInBounds_toArray, List.set_cons_zero, List.set_cons_succ]
  repeat (first
    | (apply grow_val (by rfl); (focus (intro x; (go_simp; try with_reducible rfl); done)); simp only [Act.put, List.setIfInBounds_toArray, List.set_cons_zero, List.set_cons_succ])
    | (apply grow_skip (by rfl); simp only [Act.put, List.setIfInBounds_toArray, List.set_cons_zero, List.set_cons_succ]))
  apply grow_ints ((upI T.shape.length).eraseIdx D) (by rfl)
  · intro x hF K Q hK
    go_simp
    have h10 := hF10 _ (hF 10 (by kernel_rfl));go_at_call 148;refine (without_any _ (upI T.shape.length) D _ h10.ints HUL.out HUM.out).mono ?_;rintro e w' ⟨v1, rfl, ho, hb⟩;exact hK _ _ hb ho
  intro A12 c12 F12 O12 hF12 hO12
  simp only [Act.put, List.setIfInBounds_toArray, List.set_cons_zero, List.set_cons_succ]
  repeat (first
    | (apply grow_val (by rfl); (focus (intro x; (go_simp; try with_reducible rfl); done)); simp only [Act.put, List.setIfInBounds_toArray, List.set_cons_zero, List.set_cons_succ])
    | (apply grow_skip (by rfl); simp only [Act.put, List.setIfInBounds_toArray, List.set_cons_zero, List.set_cons_succ]))
  apply grow_tensF (tupB b) (tupB_inj b) R (by rfl)
  · intro x hF K Q hK
    have h1 := hF1 _ (hF 1 (by kernel_rfl))
    have h6 := hF6 _ (hF 6 (by kernel_rfl))
    have h12 := hF12 _ (hF 12 (by kernel_rfl))
    go_simp
    go_at_call 146
    refine (HC.out _ _ _ _ h1 h6 h12.ints).mono ?_
    rintro e w' ⟨s', t', rfl, ho, hp, hs', hb⟩
    exact hK _ _ _ hb ho hp hs'
  intro A13 c13 B13 d13 F13 O13 hF13 hO13
  simp only [Act.put, List.setIfInBounds_toArray, List.set_cons_zero, List.set_cons_succ]
  simp only [tupB]
  apply grow_fn (fun d => tupAt 0 (d.getD 0 undef)) [.tuple #[.agg #[.slice A13 R.shape.length c13, .slice B13 R.values.length d13], .bool b]] (by kernel_rfl) (by rfl)
  · intro x hF
    refine ⟨_, by (go_simp; try rfl), rfl⟩
  intro v33 F33 hF33
  simp only [Act.put, List.setIfInBounds_toArray, List.set_cons_zero, List.set_cons_succ]
  apply grow_fn (fun d => tupAt 1 (d.getD 0 undef)) [.tuple #[.agg #[.slice A13 R.shape.length c13, .slice B13 R.values.length d13], .bool b]] (by kernel_rfl) (by rfl)
  · intro x hF
    refine ⟨_, by (go_simp; try rfl), rfl⟩
  intro v34 F34 hF34
  simp only [Act.put, List.setIfInBounds_toArray, List.set_cons_zero, List.set_cons_succ]
  refine grow_nil ?_
  rintro ⟨w3, hb3⟩ hF hS
  have hb3 : Below w2.heap.size w2 w3 := hb3
  have h13 := hF13 _ (hF 13 (by omega))
  have e33 : v33 = .agg #[.slice A13 R.shape.length c13, .slice B13 R.values.length d13] := hF33 _ (hF 14 (by omega))
  have e34 : v34 = .bool b := hF34 _ (hF 15 (by omega))
  subst e33 e34
  have H3 := hid (H2.out.nx hb3)
  have hz : w.heap.size + 1 < w2.heap.size := (H2.out.blk 1 rfl).lt
  have HO1 := hid (((h13.1.far (p := ⟨w.heap.size + 1, 0, none⟩) hz (.slice A13 R.shape.length c13)).far (p := ⟨w.heap.size + 1, 1, none⟩) hz (.slice B13 R.values.length d13)).mono H2.out.size)
  have HO2 := hid (((h13.2.1.far (p := ⟨w.heap.size + 1, 0, none⟩) hz (.slice A13 R.shape.length c13)).far (p := ⟨w.heap.size + 1, 1, none⟩) hz (.slice B13 R.values.length d13)).mono H2.out.size)
  have HSP := hid h13.2.2
  obtain ⟨⟨r0, r1⟩, s0, s1⟩ := (H3.out.blk 1 rfl).all2
  have HF := hid (H3.out.store2 1 rfl (.slice A13 R.shape.length c13) (.slice B13 R.values.length d13))
  clear hF hS hF1 hF5 hF6 hF10 hF12 hF13 hF33 hF34 hO5 hO10 hO12 hO13 h13 hb3 qa hbx
  go_wp2
  refine bodyPost_ret (v := .tuple #[.agg #[.slice A13 R.shape.length c13, .slice B13 R.values.length d13], .bool b]) (by simp [results, Try.results84, go_sem, r0, r1]) rfl ?_
  rw [HQ2.out, HQ.out, HRR.out, HBB.out]
  exact ⟨_, _, rfl, HO1.out, HO2.out, HSP.out, HF.out.below⟩

end Go.Proofs.Ytldblcolnjkcaaa
