/- Contract: PermuteDims. No conditions. -/
import Derived.Test.YtpcahfdpbbcapaaE2
namespace Go.Proofs.Ytpcahfdpbbcapaa
open Go.RowKit

def okTo (O : List Int) (n k : Nat) : Bool := (O.take k).all (inR · 0 ((n : Int) - 1)) && diffTo O k
theorem okTo_snoc {O : List Int} {n k : Nat} (h : k < O.length) (h0 : okTo O n k = true) (h1 : 0 ≤ O[k]) (h2 : O[k] < n) (h3 : (O.take k).contains O[k] = false) : okTo O n (k + 1) = true := by
  simp only [okTo, Bool.and_eq_true] at h0 ⊢
  refine ⟨?_, ?_⟩
  · rw [all_snoc (inR · 0 ((n : Int) - 1)) O k h h0.1]
    exact inR_yes h1 (by omega)
  · rw [diffTo_snoc O k h0.2]
    simp only [freshAt, List.getD_eq_getElem?_getD, List.getElem?_eq_getElem h, Option.getD_some, h3, Bool.not_false]
theorem order_bad {O : List Int} {n k : Nat} (h : k < O.length) (h1 : O[k] < 0 ∨ (n : Int) ≤ O[k]) : orderL O n = false := by
  have := all_false (inR · 0 ((n : Int) - 1)) O k h (inR_no (by omega))
  simp [orderL, this]
theorem order_twice {O : List Int} {n k : Nat} (h : k < O.length) (h1 : (O.take k).contains O[k] = true) : orderL O n = false := by
  have := diffTo_false O k h (by simp only [freshAt, List.getD_eq_getElem?_getD, List.getElem?_eq_getElem h, Option.getD_some, h1, Bool.not_true])
  simp [orderL, this]
theorem order_good {O : List Int} {n : Nat} (hl : O.length = n) (h : okTo O n O.length = true) : orderL O n = true := by
  simp only [okTo, List.take_length, Bool.and_eq_true] at h
  simp only [orderL, hl, diffL, Bool.and_eq_true, decide_eq_true_eq]
  rw [hl] at h
  exact ⟨⟨trivial, h.1⟩, h.2⟩

set_option maxRecDepth 100000 in
set_option maxHeartbeats 6400000 in
theorem PermuteDims_any (v o : Value) (V : VL) (O : List Int) (w : World) (hv : ViewV w v V) (ho : Ints w o O) :
    Calls Try.prog 48 #[v, o] w (RetViewB w (permL V O) (permB V O)) := by
  have hv0 := hv
  have ho0 := ho
  obtain ⟨sv, tv, rfl, hsv, htv⟩ := hv
  obtain ⟨As, cs, es⟩ := hsv.form
  subst es
  obtain ⟨At, ct, et⟩ := htv.form
  subst et
  have hints := ho
  obtain ⟨Ao, co, rfl, o1, o2, -⟩ := ho
  obtain ⟨_, _, ex, sm1, sm2, -⟩ := id hsv
  simp only [Value.slice.injEq, true_and] at ex
  obtain ⟨rfl, rfl⟩ := ex
  unfold maxLen at o2 sm2
  have hA := (Blk.new w 36 #[.int .i64 V.base, .slice As V.shape.length cs, .slice At V.strides.length ct]).alloc (.cells #[.int .i64 0, .slice none 0 0, .slice none 0 0] 36)
  have hR := Blk.new (w.alloc (.cells #[.int .i64 V.base, .slice As V.shape.length cs, .slice At V.strides.length ct] 36)) 36 #[.int .i64 0, .slice none 0 0, .slice none 0 0]
  have hW : Below w.heap.size w ((w.alloc (.cells #[.int .i64 V.base, .slice As V.shape.length cs, .slice At V.strides.length ct] 36)).alloc (.cells #[.int .i64 0, .slice none 0 0, .slice none 0 0] 36)) := ((Below.refl _ _).alloc (Nat.le_refl _) _).alloc (by simp) _
  simp only [World.size_alloc] at hR
  have hn0 := hA.lt
  have hn1 := hR.lt
  cases c1 : isViewL V
  · have HQ := hid (show permL V O = VL.zero ∧ permB V O = false by simp [permL, permB, c1])
    have HC1 := hid c1
    clear c1
    go_enter Try.func48, Try.ntmps48
    go_wp2_with fail
    generalize (w.alloc (.cells #[.int .i64 V.base, .slice As V.shape.length cs, .slice At V.strides.length ct] 36)).alloc (.cells #[.int .i64 0, .slice none 0 0, .slice none 0 0] 36) = W1 at *
    refine (isView_any _ V _ (hv0.ext hW)).mono ?_; rintro e w1 ⟨rfl, hb1⟩
    rw [HC1.out]
    obtain ⟨⟨r0, r1, r2⟩, rf0, rf1, rf2⟩ := (hR.nx hb1).all3
    have hD := hW.nx hb1 hW.size
    go_wp2
    refine bodyPost_ret (v := .tuple #[.agg #[.int .i64 0, .slice none 0 0, .slice none 0 0], .bool false]) (by simp [results, Try.results48, go_sem, r0, r1, r2]) rfl ?_
    rw [HQ.out.1, HQ.out.2]
    exact ⟨_, _, rfl, Own.nil _ _, Own.nil _ _, Sep.none_left _, below3 hD (by omega) _ _ _⟩
  have HC1 := hid c1
  have hl4 := (isViewL_lens c1).1
  have HTL := hid (isViewL_and c1).2.1
  by_cases hl : O.length = V.shape.length
  · have HP := hid (show ∀ b, orderL O V.shape.length = b → permL V O = (if b then permV V O else VL.zero) ∧ permB V O = b by
      rintro b rfl; simp [permL, permB, c1])
    clear c1
    have hne : ((O.length : Int) != (V.shape.length : Int)) = false := by simp [hl]
    have hle : ((O.length : Int) = (V.shape.length : Int)) := by omega
    have HLE := hid hl
    clear hl
    go_enter Try.func48, Try.ntmps48
    go_wp2_with fail
    generalize (w.alloc (.cells #[.int .i64 V.base, .slice As V.shape.length cs, .slice At V.strides.length ct] 36)).alloc (.cells #[.int .i64 0, .slice none 0 0, .slice none 0 0] 36) = W1 at *
    refine (isView_any _ V _ (hv0.ext hW)).mono ?_; rintro e w1 ⟨rfl, hb1⟩
    rw [HC1.out]
    have hz1 := hb1.size
    have hD := hW.nx hb1 hW.size
    have hA1 := hA.nx hb1
    have hR1 := hR.nx hb1
    obtain ⟨⟨q0, q1, q2⟩, -⟩ := id hA1.all3
    have hBx : Blk (w1.alloc (.cells #[.int .i64 V.base, .slice none 0 0, .slice none 0 0] 36)) w1.heap.size 36 #[.int .i64 V.base, .slice none 0 0, .slice none 0 0] := Blk.new w1 36 _
    have hW2 : Below w1.heap.size w1 (w1.alloc (.cells #[.int .i64 V.base, .slice none 0 0, .slice none 0 0] 36)) := (Below.refl _ _).alloc (Nat.le_refl _) _
    have hG0 : GrowView w1.heap.size (w1.alloc (.cells #[.int .i64 V.base, .slice none 0 0, .slice none 0 0] 36)) w1.heap.size V.base (.slice none 0 0) (.slice none 0 0) (permV V (O.take 0)).shape (permV V (O.take 0)).strides :=
      ⟨hBx, Own.nil _ _, Own.nil _ _, fun k hk => by simp [Value.ownBlock] at hk, fun k hk => by simp [Value.ownBlock] at hk, Sep.none_left _⟩
    have hzW : w1.heap.size + 1 ≤ (w1.alloc (.cells #[.int .i64 V.base, .slice none 0 0, .slice none 0 0] 36)).heap.size := by simp
    obtain ⟨⟨z0, z1, z2⟩, -⟩ := id (hA1.alloc (.cells #[.int .i64 V.base, .slice none 0 0, .slice none 0 0] 36)).all3
    clear hBx
    have HG0 := hid hG0
    clear hG0
    go_wp2_with fail
    clear z0 z1 z2
    generalize w1.alloc (.cells #[.int .i64 V.base, .slice none 0 0, .slice none 0 0] 36) = w2 at *
    have hD2 := hD.nx hW2 hD.size
    have hA2 := hA1.nx hW2
    have hR2 := hR1.nx hW2
    clear q0 q1 q2
    obtain ⟨B, hB⟩ : ∃ B, B = w1.heap.size := ⟨_, rfl⟩
    rw [← hB] at HG0 hzW
    have hB1 : B ≤ w1.heap.size := by omega
    have hB2 : w.heap.size + 2 ≤ B := by omega
    rw [← hB]
    clear hB
    have HB2 := hid hB2
    have HZW := hid hzW
    clear hB2 hB1 hzW
    go_loopg [26] O.length (fun m i wr => ∃ k : Nat, k ≤ O.length ∧ m = O.length - k ∧ i = .int .i64 k ∧ okTo O V.shape.length k = true ∧ Mid w wr B B (B + 1) V.base (.slice As V.shape.length cs) (.slice At V.strides.length ct) V.base (permV V (O.take k)).shape (permV V (O.take k)).strides)
    case atStart => exact ⟨0, Nat.zero_le _, rfl, rfl, rfl, _, _, HG0.out, hD2, hA2, hR2, HZW.out⟩
    case round =>
      obtain ⟨k, hk, hm, rfl, hok, s', t', hG, hb, hAr, hRr, hzr⟩ := hrel
      have HM := hid hm
      have HOK := hid hok
      clear hm hok
      have HZ := hid hzr
      clear hzr
      have hrb : w.heap.size + 1 < wr.heap.size := hRr.lt
      obtain ⟨⟨q0, q1, q2⟩, -⟩ := id hAr.all3
      obtain ⟨⟨r0, r1, r2⟩, rf0, rf1, rf2⟩ := id hRr.all3
      by_cases hlt : k < O.length
      · have hin := hints.ext hb
        have hxc := hints
        obtain ⟨A', c', e', -, -, hr0⟩ := hints
        simp only [Value.slice.injEq, true_and] at e'
        obtain ⟨rfl, rfl⟩ := e'
        obtain ⟨bo, oo, rfl, hbo, hco⟩ := hr0 (by omega)
        have hxo := (hb.cell (p := ⟨bo, oo + k, none⟩) hbo).trans (hco k O[k] (by simp [hlt]))
        have HTK := hid (hin.take k hk)
        have hki : (k : Int) < (O.length : Int) := by omega
        clear hr0 hco
        by_cases h1 : O[k] < 0
        · have HQ := hid (HP.out _ (order_bad hlt (.inl h1)))
          clear hin
          go_wp2
          refine bodyPost_ret (v := .tuple #[.agg #[.int .i64 0, .slice none 0 0, .slice none 0 0], .bool false]) (by simp [results, Try.results48, go_sem, r0, r1, r2]) rfl ?_
          rw [HQ.out.1, HQ.out.2]
          exact ⟨_, _, rfl, Own.nil _ _, Own.nil _ _, Sep.none_left _, below3 hb (by omega) _ _ _⟩
        have h1' : 0 ≤ O[k] := by omega
        by_cases h2 : (V.shape.length : Int) ≤ O[k]
        · have HQ := hid (HP.out _ (order_bad hlt (.inr h2)))
          have h2' : (O.length : Int) ≤ O[k] := by omega
          clear hin h1
          go_wp2
          refine bodyPost_ret (v := .tuple #[.agg #[.int .i64 0, .slice none 0 0, .slice none 0 0], .bool false]) (by simp [results, Try.results48, go_sem, r0, r1, r2]) rfl ?_
          rw [HQ.out.1, HQ.out.2]
          exact ⟨_, _, rfl, Own.nil _ _, Own.nil _ _, Sep.none_left _, below3 hb (by omega) _ _ _⟩
        have h2' : O[k] < (O.length : Int) := by omega
        have h2s : O[k] < (V.shape.length : Int) := by omega
        clear h1 h2
        cases h3 : (O.take k).contains O[k]
        · have HC := hid h3
          have HN := hid (okTo_snoc hlt HOK.out h1' h2s h3)
          clear h3 hin
          obtain ⟨j, hj⟩ : ∃ j : Nat, O[k] = (j : Int) := ⟨(O[k]).toNat, by omega⟩
          have hjs : j < V.shape.length := by omega
          have hjt : j < V.strides.length := by have := HTL.out; omega
          obtain ⟨A', c', e', -, hm1, hr1⟩ := hsv
          simp only [Value.slice.injEq, true_and] at e'
          obtain ⟨rfl, rfl⟩ := e'
          obtain ⟨bs, os, rfl, hbs, hcs⟩ := hr1 (by omega)
          obtain ⟨A', c', e', -, hm2, hr2⟩ := htv
          simp only [Value.slice.injEq, true_and] at e'
          obtain ⟨rfl, rfl⟩ := e'
          obtain ⟨bt, ot, rfl, hbt, hct⟩ := hr2 (by omega)
          have hxs := (hb.cell (p := ⟨bs, os + j, none⟩) hbs).trans (hcs j V.shape[j] (by simp [hjs]))
          have hxt1 := hct j V.strides[j] (by simp [hjt])
          unfold maxLen at hm1 hm2
          clear hr1 hr2 hcs hct
          have hj1 : (j : Int) < (V.shape.length : Int) := by omega
          have hj2 : (j : Int) < (V.strides.length : Int) := by omega
          have hj3 : (j : Int) < (O.length : Int) := by omega
          obtain ⟨hE1, hE2⟩ := permV_snoc hlt hj hjs hjt
          have HE1 := hid hE1
          have HE2 := hid hE2
          have HLN := hid (show (permV V (O.take k)).shape.length ≤ 1000000000000 by have := permV_len V O k; omega)
          have HLM := hid (show (permV V (O.take k)).strides.length ≤ 1000000000000 by have := permV_len V O k; omega)
          rw [hj] at hxo h1' h2' h2s HC
          have HJ := hid hj
          clear hE1 hE2 hj
          obtain ⟨Sa, Sc, eS⟩ := hG.s.form
          obtain ⟨Ta, Tc, eT⟩ := hG.t.form
          subst eS eT
          have HH := hid (HB2.out)
          have hWo : Below wr.heap.size wr (wr.alloc (.cells #[.int .i64 V.shape[j]] 3)).drew := (below_lit1 wr _).drew
          have hWc : (wr.alloc (.cells #[.int .i64 V.shape[j]] 3)).drew.cell? ⟨wr.heap.size, 0, none⟩ = some (.int .i64 V.shape[j]) := cell_new1 wr _ _
          have hWB : B ≤ (wr.alloc (.cells #[.int .i64 V.shape[j]] 3)).drew.heap.size := by have := HZ.out; simp; omega
          obtain ⟨⟨g0, g1, g2⟩, -⟩ := id hG.box.all3
          go_wp2_with fail
          refine (Contains_any _ (O.take k) _ _ HTK.out).mono ?_; rintro e w' ⟨rfl, rfl⟩
          rw [HC.out]
          go_upto_region 9 with fail
          go_cut [8, 26] from 26 to 67 (fun v8 v26 wx => v8 = .int .i64 j ∧ v26 = .int .i64 k ∧ Mid w wx B B (B + 1) V.base (.slice (some ⟨bs, os, none⟩) V.shape.length cs) (.slice (some ⟨bt, ot, none⟩) V.strides.length ct) V.base ((permV V (O.take k)).shape ++ [V.shape[j]]) (permV V (O.take k)).strides)
          case first =>
            obtain ⟨⟨gg0, gg1, gg2⟩, -⟩ := (hG.box.alloc (.cells #[.int .i64 V.shape[j]] 3)).all3
            obtain ⟨⟨qq0, qq1, qq2⟩, -⟩ := (hAr.alloc (.cells #[.int .i64 V.shape[j]] 3)).all3
            have hxs' : (wr.alloc (.cells #[.int .i64 V.shape[j]] 3)).cell? ⟨bs, os + j, none⟩ = some (.int .i64 V.shape[j]) := ((hb.nx (below_alloc wr _) hb.size).cell (p := ⟨bs, os + j, none⟩) hbs).trans (by have := hb.cell (p := ⟨bs, os + j, none⟩) hbs; rw [← this]; exact hxs)
            go_region_law (refine step1 _ (by rfl) _ _ (by rfl) B _ _ (by rfl) (hG.s.nx hWo) ⟨wr.heap.size, 0, none⟩ 1 V.shape[j] (by rfl) hWc HLN.out hWB ?_; intro s1 w1 ho1 hg1 hat1; have hB1 := hG.boxS hWo hg1; obtain ⟨⟨b0, b1, b2⟩, bf0, bf1, bf2⟩ := id hB1.all3; obtain ⟨As1, cs1, es1⟩ := ho1.form; subst es1)
            all_goals (go_wp2_with fail; go_meet; simp only [List.length_append, List.length_cons, List.length_nil, Nat.zero_add] at ho1 hat1; exact ⟨rfl, rfl, Mid.of_s hG hWo ho1 hg1 hat1 hb HH.out (by omega) HZ.out (by have := HZ.out; omega) hAr hRr⟩)
          case rest =>
            obtain ⟨rfl, rfl, s2, t2, hG, hb, hAr, hRr, hzr⟩ := hcut
            clear hWc hWB hWo
            obtain ⟨Sa2, Sc2, eS⟩ := hG.s.form
            obtain ⟨Ta2, Tc2, eT⟩ := hG.t.form
            subst eS eT
            have HZ2 := hid hzr
            clear hzr
            have hxt := (hb.cell (p := ⟨bt, ot + j, none⟩) hbt).trans hxt1
            have hWo : Below wc.heap.size wc (wc.alloc (.cells #[.int .i64 V.strides[j]] 3)).drew := (below_lit1 wc _).drew
            have hWc : (wc.alloc (.cells #[.int .i64 V.strides[j]] 3)).drew.cell? ⟨wc.heap.size, 0, none⟩ = some (.int .i64 V.strides[j]) := cell_new1 wc _ _
            have hWB : B ≤ (wc.alloc (.cells #[.int .i64 V.strides[j]] 3)).drew.heap.size := by have := HZ2.out; simp; omega
            obtain ⟨⟨q0, q1, q2⟩, -⟩ := id hAr.all3
            obtain ⟨⟨g0, g1, g2⟩, -⟩ := id hG.box.all3
            obtain ⟨⟨gg0, gg1, gg2⟩, -⟩ := (hG.box.alloc (.cells #[.int .i64 V.strides[j]] 3)).all3
            obtain ⟨⟨qq0, qq1, qq2⟩, -⟩ := (hAr.alloc (.cells #[.int .i64 V.strides[j]] 3)).all3
            have hxt' : (wc.alloc (.cells #[.int .i64 V.strides[j]] 3)).cell? ⟨bt, ot + j, none⟩ = some (.int .i64 V.strides[j]) := ((hb.nx (below_alloc wc _) hb.size).cell (p := ⟨bt, ot + j, none⟩) hbt).trans (by have := hb.cell (p := ⟨bt, ot + j, none⟩) hbt; rw [← this]; exact hxt)
            go_upto_region 10 with fail
            go_region_law (refine step1 _ (by rfl) _ _ (by rfl) B _ _ (by rfl) (hG.t.nx hWo) ⟨wc.heap.size, 0, none⟩ 1 V.strides[j] (by rfl) hWc HLM.out hWB ?_; intro s1 w1 ho1 hg1 hat1; have hB1 := hG.boxT hWo hg1; obtain ⟨⟨b0, b1, b2⟩, bf0, bf1, bf2⟩ := id hB1.all3; obtain ⟨As1, cs1, es1⟩ := ho1.form; subst es1)
            all_goals
              have hM := Mid.of_t (N := B + 1) hG hWo ho1 hg1 hat1 hb HH.out (by omega) HZ2.out (by have := HZ2.out; omega) hAr hRr
              have HMM := hid hM
              clear hM hWc hWB hWo hxt' ho1 hat1 hB1 b0 b1 b2 bf0 bf1 bf2
              go_wp2_with fail
              go_roundg (O.length - (k + 1))
              case measure => have := HM.out; omega
              case rel => exact ⟨k + 1, by omega, rfl, by go_num, HN.out, by rw [HE1.out, HE2.out]; simpa using HMM.out⟩
        · have HC := hid h3
          have HQ := hid (HP.out _ (order_twice hlt h3))
          clear h3 hin
          go_wp2_with fail
          refine (Contains_any _ (O.take k) _ _ HTK.out).mono ?_; rintro e w' ⟨rfl, rfl⟩
          rw [HC.out]
          go_wp2
          refine bodyPost_ret (v := .tuple #[.agg #[.int .i64 0, .slice none 0 0, .slice none 0 0], .bool false]) (by simp [results, Try.results48, go_sem, r0, r1, r2]) rfl ?_
          rw [HQ.out.1, HQ.out.2]
          exact ⟨_, _, rfl, Own.nil _ _, Own.nil _ _, Sep.none_left _, below3 hb (by omega) _ _ _⟩
      · have hkl : k = O.length := by omega
        subst hkl
        have HQ := hid (HP.out _ (order_good HLE.out HOK.out))
        obtain ⟨Sa, Sc, eS⟩ := hG.s.form
        obtain ⟨Ta, Tc, eT⟩ := hG.t.form
        subst eS eT
        obtain ⟨⟨g0, g1, g2⟩, gf0, gf1, gf2⟩ := id hG.box.all3
        have HG := hid hG
        clear hG
        have hBn := HB2.out
        go_wp2
        refine bodyPost_ret (v := .tuple #[.agg #[.int .i64 V.base, .slice Sa (permV V (O.take O.length)).shape.length Sc, .slice Ta (permV V (O.take O.length)).strides.length Tc], .bool true]) (by simp [results, Try.results48, go_sem, r0, r1, r2]) rfl ?_
        rw [HQ.out.1, HQ.out.2]
        have hG := HG.out
        rw [List.take_length] at hG ⊢
        exact ⟨_, _, rfl, (own3b hG.s (show w.heap.size + 1 < B by omega) _ _ _).mono (by omega), (own3b hG.t (show w.heap.size + 1 < B by omega) _ _ _).mono (by omega), hG.sep, below3 hb (by omega) _ _ _⟩
  · have HQ := hid (show permL V O = VL.zero ∧ permB V O = false by simp [permL, permB, orderL, hl])
    have hne : ((O.length : Int) != (V.shape.length : Int)) = true := by simp; omega
    clear hl c1
    go_enter Try.func48, Try.ntmps48
    go_wp2_with fail
    generalize (w.alloc (.cells #[.int .i64 V.base, .slice As V.shape.length cs, .slice At V.strides.length ct] 36)).alloc (.cells #[.int .i64 0, .slice none 0 0, .slice none 0 0] 36) = W1 at *
    refine (isView_any _ V _ (hv0.ext hW)).mono ?_; rintro e w1 ⟨rfl, hb1⟩
    rw [HC1.out]
    obtain ⟨⟨q0, q1, q2⟩, -⟩ := (hA.nx hb1).all3
    obtain ⟨⟨r0, r1, r2⟩, rf0, rf1, rf2⟩ := (hR.nx hb1).all3
    have hD := hW.nx hb1 hW.size
    go_wp2
    refine bodyPost_ret (v := .tuple #[.agg #[.int .i64 0, .slice none 0 0, .slice none 0 0], .bool false]) (by simp [results, Try.results48, go_sem, r0, r1, r2]) rfl ?_
    rw [HQ.out.1, HQ.out.2]
    exact ⟨_, _, rfl, Own.nil _ _, Own.nil _ _, Sep.none_left _, below3 hD (by omega) _ _ _⟩

end Go.Proofs.Ytpcahfdpbbcapaa
