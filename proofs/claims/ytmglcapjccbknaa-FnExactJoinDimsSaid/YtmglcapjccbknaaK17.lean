/- Contracts: JoinDims, both. No conditions. -/
import Derived.Test.YtmglcapjccbknaaK16
import Derived.Test.YtmglcapjccbknaaV6
import Derived.StillTailTactics
import Derived.Outline
namespace Go.Proofs.Ytmglcapjccbknaa
open Go.RowKit

def joinSh (xs : List Int) (d : Nat) : List Int := (xs.eraseIdx d).set d (xs.getD d 0 * xs.getD (d + 1) 0)
theorem joinSh_eq (xs : List Int) (d : Nat) (h : d + 1 < xs.length) (p : Int) : (xs.set d p).eraseIdx (d + 1) = (xs.eraseIdx d).set d p := by
  apply List.ext_getElem?
  intro i
  by_cases h1 : i = d
  · subst h1
    have h3 : i < (xs.eraseIdx i).length := by rw [List.length_eraseIdx]; split <;> omega
    rw [List.getElem?_eraseIdx, if_pos (by omega), List.getElem?_set_self (by omega), List.getElem?_set_self h3]
  · by_cases h2 : i < d
    · rw [List.getElem?_eraseIdx, if_pos (by omega), List.getElem?_set_ne (by omega), List.getElem?_set_ne (by omega), List.getElem?_eraseIdx, if_pos h2]
    · rw [List.getElem?_eraseIdx, if_neg (by omega), List.getElem?_set_ne (by omega), List.getElem?_set_ne (by omega), List.getElem?_eraseIdx, if_neg h2]
def okJ (V : VL) (d : Int) : Bool := hasDimL V d && decide (d + 1 < V.shape.length)
def okJoin (V : VL) (d : Int) : Bool := okJ V d && okResh V (joinSh V.shape d.toNat)
def joinL (V : VL) (d : Int) : VL := if okJ V d then reshL V (joinSh V.shape d.toNat) else VL.zero
theorem joinL_len (V : VL) (d : Int) : (joinL V d).shape.length ≤ 60 ∧ (joinL V d).strides.length ≤ 60 := by
  unfold joinL
  split
  · exact reshL_len _ _
  · simp [VL.zero]
/-- What joining asks of a view and a dimension. -/
structure JoinFacts (V : VL) (d : Int) (k : Nat) : Prop where
  e : d = k
  v : isViewL V = true
  k1 : k + 1 < V.shape.length
  l : V.shape.length ≤ 4
theorem join_facts {V : VL} {d : Int} (h : okJ V d = true) : ∃ k : Nat, JoinFacts V d k := by
  simp only [okJ, hasDimL, Bool.and_eq_true, decide_eq_true_eq] at h
  exact ⟨d.toNat, ⟨by omega, h.1.1.1, by omega, (isViewL_lens h.1.1.1).1⟩⟩
theorem join_prod {V : VL} {k : Nat} (hv : isViewL V = true) (h : k + 1 < V.shape.length) : 0 ≤ V.shape[k] * V.shape[k + 1] ∧ V.shape[k] * V.shape[k + 1] ≤ 3600 := by
  have hs := (shape_ext (isViewL_and hv).1).2.1
  have h1 := hs V.shape[k] (List.getElem_mem (by omega))
  have h2 := hs V.shape[k + 1] (List.getElem_mem h)
  refine ⟨Int.mul_nonneg h1.1 h2.1, ?_⟩
  calc V.shape[k] * V.shape[k + 1] ≤ V.shape[k] * 60 := Int.mul_le_mul_of_nonneg_left h2.2 h1.1
    _ ≤ 3600 := by omega

set_option maxRecDepth 100000 in
set_option maxHeartbeats 6400000 in
theorem JoinDims_any (v : Value) (V : VL) (d : Int) (w : World) (hv : ViewV w v V) (wd : -9223372036854775808 ≤ d ∧ d ≤ 9223372036854775807) :
    Calls Try.prog 54 #[v, .int .i64 d] w (RetViewB w (joinL V d) (okJoin V d)) := by
  have hv0 := hv
  obtain ⟨sv, tv, rfl, hsv, htv⟩ := hv
  obtain ⟨As, cs, es, -, hcs, -⟩ := id hsv
  subst es
  unfold maxLen at hcs
  have hA := (Blk.new w 28 #[.int .i64 V.base, .slice As V.shape.length cs, tv]).alloc (.cells #[.int .i64 0, .slice none 0 0, .slice none 0 0] 28)
  have hR := Blk.new (w.alloc (.cells #[.int .i64 V.base, .slice As V.shape.length cs, tv] 28)) 28 #[.int .i64 0, .slice none 0 0, .slice none 0 0]
  have hW : Below w.heap.size w ((w.alloc (.cells #[.int .i64 V.base, .slice As V.shape.length cs, tv] 28)).alloc (.cells #[.int .i64 0, .slice none 0 0, .slice none 0 0] 28)) := ((Below.refl _ _).alloc (Nat.le_refl _) _).alloc (by simp) _
  simp only [World.size_alloc] at hR
  have hn0 := hA.lt
  have hn1 := hR.lt
  cases c0 : hasDimL V d
  · have HC0 := hid c0
    have HQ := hid (show okJoin V d = false by simp [okJoin, okJ, c0])
    have HR := hid (show joinL V d = VL.zero by simp [joinL, okJ, c0])
    clear c0
    go_enter Try.func54, Try.ntmps54
    go_wp2_with fail
    generalize (w.alloc (.cells #[.int .i64 V.base, .slice As V.shape.length cs, tv] 28)).alloc (.cells #[.int .i64 0, .slice none 0 0, .slice none 0 0] 28) = W1 at *
    refine (hasDim_any _ V d _ (hv0.ext hW) wd).mono ?_; rintro e w1 ⟨rfl, hb1⟩
    rw [HC0.out]
    obtain ⟨⟨r0, r1, r2⟩, rf0, rf1, rf2⟩ := (hR.nx hb1).all3
    have hD := hW.nx hb1 hW.size
    go_wp2
    refine bodyPost_ret (v := .tuple #[.agg #[.int .i64 0, .slice none 0 0, .slice none 0 0], .bool false]) (by simp [results, Try.results54, go_sem, r0, r1, r2]) rfl ?_
    rw [HQ.out, HR.out]
    exact ⟨_, _, rfl, Own.nil _ _, Own.nil _ _, Sep.none_left _, below3 hD (by omega) _ _ _⟩
  · have HC0 := hid c0
    have hd : 0 ≤ d ∧ d < V.shape.length := by simp only [hasDimL, Bool.and_eq_true, decide_eq_true_eq] at c0; omega
    obtain ⟨k, rfl⟩ : ∃ k : Nat, d = k := ⟨d.toNat, by omega⟩
    have hkl : k < V.shape.length := by omega
    have hl4 := (isViewL_lens (show isViewL V = true by simp only [hasDimL, Bool.and_eq_true] at c0; exact c0.1.1)).1
    have hwr : IntKind.i64.wrap ((k : Int) + 1) = (k : Int) + 1 := IntWalk.i64_in _ (by omega)
    clear hd
    by_cases c1 : k + 1 < V.shape.length
    · have HJ := hid (show okJ V k = true by simp [okJ, c0]; omega)
      have hc1 : decide ((V.shape.length : Int) ≤ (k : Int) + 1) = false := by simp; omega
      obtain ⟨k', hf⟩ := join_facts HJ.out
      have ek : k' = k := by have := hf.e; omega
      subst ek
      have HF := hid hf
      have hP : 0 ≤ V.shape[k'] * V.shape[k' + 1] ∧ V.shape[k'] * V.shape[k' + 1] ≤ 3600 := join_prod HF.out.v c1
      have HQ := hid (show okJoin V k' = okResh V (joinSh V.shape k') by unfold okJoin; rw [HJ.out]; simp)
      have HR := hid (show joinL V k' = reshL V (joinSh V.shape k') by unfold joinL; rw [HJ.out]; simp)
      clear c0 hf
      go_enter Try.func54, Try.ntmps54
      go_wp2_with fail
      generalize (w.alloc (.cells #[.int .i64 V.base, .slice As V.shape.length cs, tv] 28)).alloc (.cells #[.int .i64 0, .slice none 0 0, .slice none 0 0] 28) = W1 at *
      refine (hasDim_any _ V k' _ (hv0.ext hW) wd).mono ?_; rintro e w1 ⟨rfl, hb1⟩
      rw [HC0.out]
      have hD := hW.nx hb1 hW.size
      have hA1 := hA.nx hb1
      have hR1 := hR.nx hb1
      have hz1 := hb1.size
      obtain ⟨⟨q0, q1, q2⟩, -⟩ := id hA1.all3
      obtain ⟨⟨m0, m1, m2⟩, -⟩ := (hA1.alloc (.cells #[] 3)).all3
      have hx := (hsv.ext hD).ext (below_alloc w1 (.cells #[] 3))
      have ho := Own.empty w1 (B := w1.heap.size) rfl (Nat.le_refl _)
      have hz : ([] : List Int).length + V.shape.length ≤ 1000000000000 := by simp; omega
      go_wp2_with (at_builtin; refine appI _ rfl _ _ rfl w1.heap.size _ [] rfl ho _ _ _ V.shape rfl hx hz (by simp) ?_)
      intro v' w2 ho2' hg hat
      have hb2 : Below w1.heap.size w1 w2 := (below_alloc w1 _).trans (ho.under hg (by simp))
      have ho2 : Own w2 w1.heap.size v' V.shape := by simpa using ho2'
      clear hx ho hat hg ho2'
      obtain ⟨g, cap, rfl, hg1, hg2⟩ := ho2.row (by omega)
      have hcap : cap ≤ 9223372036854775807 := by obtain ⟨_, _, e, _, h, _⟩ := ho2.ints; simp only [Value.slice.injEq] at e; obtain ⟨-, -, rfl⟩ := e; unfold maxLen at h; omega
      have hD2 := hD.nx hb2 hD.size
      have hA2 := hA1.nx hb2
      have hR2 := hR1.nx hb2
      have hz2 := hb2.size
      have hy0 := ho2.cell k' hkl
      have hy1 := ho2.cell (k' + 1) c1
      have hyf := ho2.free k'
      have hki : (k' : Int) < (V.shape.length : Int) := by omega
      have hwm : IntKind.i64.wrap (V.shape[k'] * V.shape[k' + 1]) = V.shape[k'] * V.shape[k' + 1] := IntWalk.i64_in _ (by omega)
      have hk1 : ((k' : Int) + 1).toNat = k' + 1 := by omega
      have hk2 : (0 : Int) ≤ (k' : Int) + 1 := by omega
      have hk3 : (k' : Int) + 1 < (V.shape.length : Int) := by omega
      go_wp2_with fail
      go_still_tail 11, (by kernel_rfl)
      have hO3 := (ho2.put k' (V.shape[k'] * V.shape[k' + 1])).drew
      have hB3 : Below w1.heap.size w1 (w2.setCell ⟨g, k', none⟩ (.int .i64 (V.shape[k'] * V.shape[k' + 1]))).drew := (hb2.setCell (p := ⟨g, k', none⟩) hg1 _).drew
      have hHJ := hid (show (V.shape.set k' (V.shape[k'] * V.shape[k' + 1])).eraseIdx (k' + 1) = joinSh V.shape k' by rw [joinSh_eq V.shape k' c1]; simp [joinSh, hkl, c1])
      have hdl : k' + 1 < (V.shape.set k' (V.shape[k'] * V.shape[k' + 1])).length := by rw [List.length_set]; exact c1
      go_wp2_with fail
      generalize (w2.setCell ⟨g, k', none⟩ (.int .i64 (V.shape[k'] * V.shape[k' + 1]))).drew = w3 at *
      clear hy0 hy1 hyf m0 m1 m2 q0 q1 q2 ho2
      have hA3 := hA1.nx hB3
      have hR3 := hR1.nx hB3
      have hD3 := hD.nx hB3 hD.size
      have hg3 := (hO3.lt g rfl).2
      have hz3 := hB3.size
      have hd3 := hD3.drew
      have hO4 := hO3.drew
      have hgx : w.heap.size ≠ g := by omega
      have hwr2 : IntKind.i64.wrap ((k' : Int) + 2) = (k' : Int) + 2 := IntWalk.i64_in _ (by omega)
      have hi1 : (k' : Int) + 1 = ((k' + 1 : Nat) : Int) := by omega
      have hi2 : (k' : Int) + 2 = ((k' + 1 : Nat) : Int) + 1 := by omega
      have HI1 := hid hi1
      have HI2 := hid hi2
      clear hi1 hi2
      go_region_held3 (fun w' => w'.cell? ⟨w.heap.size, 0, none⟩ = some (.int .i64 V.base) ∧ w'.cell? ⟨w.heap.size, 1, none⟩ = some (.slice As V.shape.length cs) ∧ w'.cell? ⟨w.heap.size, 2, none⟩ = some tv)
        (first | with_reducible exact (hA3.nx (below_drew w3)).all3.1 | with_reducible exact hA5.all3.1 | with_reducible exact hA6.all3.1 | exact (hA6.far3 (by omega) _ _ _).all3.1)
        (first
          | (go_at_call 89; refine (Delete_at g cap (k' + 1) V.shape.length _ _ _ _ _ hO4 HI1.out HI2.out hdl).mono ?_; rintro e w5 ⟨rfl, hO5, hg5⟩; have hA5 := (hA3.nx (below_drew w3)).grown hg5 hgx; have hR5 := (hR3.nx (below_drew w3)).grown hg5 (by omega); have hb5 : Below w1.heap.size w3.drew w5 := hO4.under hg5 hz3; have hD5 := hd3.trans (hb5.mono hD.size))
          | (go_at_call 51; refine (Reshape_any _ _ V (joinSh V.shape k') _ (hv0.ext hD5) (by rw [hHJ.out] at hO5; exact hO5.ints)).mono ?_; rintro e w6 ⟨s6, t6, rfl, ho6, hp6, hsep, hb6⟩; have hA6 := hA5.nx hb6; obtain ⟨⟨r0, r1, r2⟩, rf0, rf1, rf2⟩ := (hR5.nx hb6).all3; obtain ⟨A6, c6, e6⟩ := ho6.form; obtain ⟨A7, c7, e7⟩ := hp6.form; subst e6 e7))
      have hz5 := hb5.size
      simp only [World.size_drew] at hz5
      have hz6 := hb6.size
      have hD6 := hD5.nx hb6 hD5.size
      go_wp2
      refine bodyPost_ret (v := .tuple #[.agg #[.int .i64 (reshL V (joinSh V.shape k')).base, .slice A6 (reshL V (joinSh V.shape k')).shape.length c6, .slice A7 (reshL V (joinSh V.shape k')).strides.length c7], .bool (okResh V (joinSh V.shape k'))]) (by simp [results, Try.results54, go_sem, r0, r1, r2]) rfl ?_
      rw [HQ.out, HR.out]
      exact ⟨_, _, rfl, (own3b ho6 (by omega) _ _ _).mono (by omega), (own3b hp6 (by omega) _ _ _).mono (by omega), hsep, below3 hD6 (by omega) _ _ _⟩
    · have HJ := hid (show okJ V k = false by simp [okJ]; omega)
      have hc1 : decide ((V.shape.length : Int) ≤ (k : Int) + 1) = true := by simp; omega
      have HQ := hid (show okJoin V k = false by unfold okJoin; rw [HJ.out]; rfl)
      have HR := hid (show joinL V k = VL.zero by unfold joinL; rw [HJ.out]; rfl)
      clear c0
      go_enter Try.func54, Try.ntmps54
      go_wp2_with fail
      generalize (w.alloc (.cells #[.int .i64 V.base, .slice As V.shape.length cs, tv] 28)).alloc (.cells #[.int .i64 0, .slice none 0 0, .slice none 0 0] 28) = W1 at *
      refine (hasDim_any _ V k _ (hv0.ext hW) wd).mono ?_; rintro e w1 ⟨rfl, hb1⟩
      rw [HC0.out]
      obtain ⟨⟨q0, q1, q2⟩, -⟩ := (hA.nx hb1).all3
      obtain ⟨⟨r0, r1, r2⟩, rf0, rf1, rf2⟩ := (hR.nx hb1).all3
      have hD := hW.nx hb1 hW.size
      go_wp2
      refine bodyPost_ret (v := .tuple #[.agg #[.int .i64 0, .slice none 0 0, .slice none 0 0], .bool false]) (by simp [results, Try.results54, go_sem, r0, r1, r2]) rfl ?_
      rw [HQ.out, HR.out]
      exact ⟨_, _, rfl, Own.nil _ _, Own.nil _ _, Sep.none_left _, below3 hD (by omega) _ _ _⟩

end Go.Proofs.Ytmglcapjccbknaa
