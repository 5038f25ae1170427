/- Contracts: the reference's PermuteDims. No conditions. -/
import Derived.Test.YtldblcolnjkcaaaG2
import Derived.Test.YtldblcolnjkcaaaD3m
namespace Go.Proofs.Ytldblcolnjkcaaa
open Go.RowKit

set_option maxRecDepth 100000 in
set_option maxHeartbeats 800000 in
theorem validOrder_any (v : Value) (O : List Int) (n : Nat) (w : World) (h : Ints w v O) (hn : n ≤ 4) :
    Calls Try.prog 136 #[v, .int .i64 n] w fun e w' => e = .returned (.bool (orderL O n)) ∧ Below w.heap.size w w' := by
  have hints := h
  obtain ⟨A, c, rfl, h1, h2, -⟩ := h
  unfold maxLen at h2
  by_cases hl : O.length = n
  · have hln : ((O.length : Int) == (n : Int)) = true := by simp [hl]
    have hle : (O.length : Int) = (n : Int) := by omega
    cases ha : O.all (inR · 0 ((n : Int) - 1))
    · have HQ := hid (show orderL O n = false by simp only [orderL, ha]; simp)
      have HA := hid ha
      have HL := hid hl
      have HE := hid hle
      clear ha hl hle
      go_enter Try.func136, Try.ntmps136
      go_wp2_with fail
      refine (allIn_any _ O _ _ _ hints).mono ?_; rintro e w' ⟨rfl, rfl⟩
      rw [HA.out]
      go_wp2
      go_ret
      exact ⟨ret_bool HQ.out.symm, Below.refl _ _⟩
    · have HQ := hid (show orderL O n = diffL O by simp only [orderL, ha, hl]; simp)
      have HA := hid ha
      have HL := hid hl
      have HE := hid hle
      clear ha hl hle
      go_enter Try.func136, Try.ntmps136
      go_wp2_with fail
      refine (allIn_any _ O _ _ _ hints).mono ?_; rintro e w' ⟨rfl, rfl⟩
      rw [HA.out]
      go_wp2_with fail
      refine (different_any _ O _ hints).mono ?_; rintro e w1 ⟨rfl, hb1⟩
      go_wp2
      go_ret
      exact ⟨ret_bool HQ.out.symm, hb1⟩
  · have HQ := hid (show orderL O n = false by simp [orderL, hl])
    have hln : ((O.length : Int) == (n : Int)) = false := by simp; omega
    clear hl
    go_enter Try.func136, Try.ntmps136
    go_wp2
    go_ret
    exact ⟨ret_bool HQ.out.symm, Below.refl _ _⟩

theorem permV_snoc {V : VL} {O : List Int} {k j : Nat} (h : k < O.length) (hj : O[k] = (j : Int)) (h1 : j < V.shape.length) (h2 : j < V.strides.length) :
    (permV V (O.take (k + 1))).shape = (permV V (O.take k)).shape ++ [V.shape[j]] ∧ (permV V (O.take (k + 1))).strides = (permV V (O.take k)).strides ++ [V.strides[j]] := by
  have e : (O.take (k + 1)).map Int.toNat = (O.take k).map Int.toNat ++ [j] := by
    rw [take_snocI O k h, List.map_append, hj]; simp
  simp only [permV, e]
  exact ⟨pickN_snoc _ _ _ h1, pickN_snoc _ _ _ h2⟩
theorem permV_len (V : VL) (O : List Int) (k : Nat) : (permV V (O.take k)).shape.length ≤ k ∧ (permV V (O.take k)).strides.length ≤ k := by
  simp [permV, pickN_length]; omega

set_option maxRecDepth 100000 in
set_option maxHeartbeats 6400000 in
theorem permuted_any (v o : Value) (V : VL) (O : List Int) (w : World) (hv : ViewV w v V) (ho : Ints w o O) (hall : ∀ x ∈ O, 0 ≤ x ∧ x < V.shape.length) (hlen : V.shape.length = V.strides.length) (hO : O.length ≤ 4) :
    Calls Try.prog 137 #[v, o] w (RetView w (permV V O)) := by
  obtain ⟨sv, tv, rfl, hsv, htv⟩ := hv
  obtain ⟨As, cs, es⟩ := hsv.form
  subst es
  obtain ⟨At, ct, et⟩ := htv.form
  subst et
  have hints := ho
  obtain ⟨Ao, co, rfl, o1, o2, -⟩ := ho
  unfold maxLen at o2
  have HALL := hid hall
  have HTL := hid hlen
  clear hall hlen
  have hA := ((Blk.new w 43 #[.int .i64 V.base, .slice As V.shape.length cs, .slice At V.strides.length ct]).alloc (.cells #[.int .i64 0, .slice none 0 0, .slice none 0 0] 43)).alloc (.cells #[.int .i64 V.base, .slice none 0 0, .slice none 0 0] 43)
  have hR := (Blk.new (w.alloc (.cells #[.int .i64 V.base, .slice As V.shape.length cs, .slice At V.strides.length ct] 43)) 43 #[.int .i64 0, .slice none 0 0, .slice none 0 0]).alloc (.cells #[.int .i64 V.base, .slice none 0 0, .slice none 0 0] 43)
  have hBx := Blk.new ((w.alloc (.cells #[.int .i64 V.base, .slice As V.shape.length cs, .slice At V.strides.length ct] 43)).alloc (.cells #[.int .i64 0, .slice none 0 0, .slice none 0 0] 43)) 43 #[.int .i64 V.base, .slice none 0 0, .slice none 0 0]
  have hD2 : Below w.heap.size w (((w.alloc (.cells #[.int .i64 V.base, .slice As V.shape.length cs, .slice At V.strides.length ct] 43)).alloc (.cells #[.int .i64 0, .slice none 0 0, .slice none 0 0] 43)).alloc (.cells #[.int .i64 V.base, .slice none 0 0, .slice none 0 0] 43)) := (((Below.refl _ _).alloc (Nat.le_refl _) _).alloc (by simp) _).alloc (by simp; omega) _
  simp only [World.size_alloc] at hR hBx
  have hzW := hBx.lt
  obtain ⟨⟨i0, i1, i2⟩, -⟩ := ((Blk.new w 43 #[.int .i64 V.base, .slice As V.shape.length cs, .slice At V.strides.length ct]).alloc (.cells #[.int .i64 0, .slice none 0 0, .slice none 0 0] 43)).all3
  go_enter Try.func137, Try.ntmps137
  go_wp2_with fail
  generalize ((w.alloc (.cells #[.int .i64 V.base, .slice As V.shape.length cs, .slice At V.strides.length ct] 43)).alloc (.cells #[.int .i64 0, .slice none 0 0, .slice none 0 0] 43)).alloc (.cells #[.int .i64 V.base, .slice none 0 0, .slice none 0 0] 43) = w2 at *
  clear i0 i1 i2
  obtain ⟨B, hB⟩ : ∃ B, B = w.heap.size + 2 := ⟨_, rfl⟩
  have HT0 : Hid (GrowView B w2 B V.base (.slice none 0 0) (.slice none 0 0) (permV V (O.take 0)).shape (permV V (O.take 0)).strides) :=
    hid ⟨by rw [hB]; exact hBx, Own.nil _ _, Own.nil _ _, fun k hk => by simp [Value.ownBlock] at hk, fun k hk => by simp [Value.ownBlock] at hk, Sep.none_left _⟩
  have hzB : B + 1 ≤ w2.heap.size := by omega
  have hB2 : w.heap.size + 2 ≤ B := by omega
  have eB : w.heap.size + 1 + 1 = B := by omega
  rw [eB]
  clear hB eB hBx hzW
  have HB2 := hid hB2
  have HZW := hid hzB
  clear hB2 hzB
  go_loopg [6] O.length (fun m i wr => ∃ k : Nat, k ≤ O.length ∧ m = O.length - k ∧ i = .int .i64 k ∧ Mid w wr B B (B + 1) V.base (.slice As V.shape.length cs) (.slice At V.strides.length ct) V.base (permV V (O.take k)).shape (permV V (O.take k)).strides)
  case atStart => exact ⟨0, Nat.zero_le _, rfl, rfl, _, _, HT0.out, hD2, hA, hR, HZW.out⟩
  case round =>
    obtain ⟨k, hk, hm, rfl, s', t', hG, hb, hAr, hRr, hzr⟩ := hrel
    have HM := hid hm
    clear hm
    have HZ := hid hzr
    clear hzr
    obtain ⟨⟨q0, q1, q2⟩, -⟩ := id hAr.all3
    by_cases hlt : k < O.length
    · obtain ⟨j, hj⟩ : ∃ j : Nat, O[k] = (j : Int) := ⟨(O[k]).toNat, by have := (HALL.out O[k] (List.getElem_mem hlt)).1; omega⟩
      have hjs : j < V.shape.length := by have := (HALL.out O[k] (List.getElem_mem hlt)).2; omega
      have hjt : j < V.strides.length := by have := HTL.out; omega
      obtain ⟨A', c', e', -, -, hr0⟩ := hints
      simp only [Value.slice.injEq, true_and] at e'
      obtain ⟨rfl, rfl⟩ := e'
      obtain ⟨bo, oo, rfl, hbo, hco⟩ := hr0 (by omega)
      obtain ⟨A', c', e', -, hm1, hr1⟩ := hsv
      simp only [Value.slice.injEq, true_and] at e'
      obtain ⟨rfl, rfl⟩ := e'
      obtain ⟨bs, os, rfl, hbs, hcs⟩ := hr1 (by omega)
      obtain ⟨A', c', e', -, hm2, hr2⟩ := htv
      simp only [Value.slice.injEq, true_and] at e'
      obtain ⟨rfl, rfl⟩ := e'
      obtain ⟨bt, ot, rfl, hbt, hct⟩ := hr2 (by omega)
      have hxo := (hb.cell (p := ⟨bo, oo + k, none⟩) hbo).trans (hco k (j : Int) (by rw [← hj]; simp [hlt]))
      have hxs := (hb.cell (p := ⟨bs, os + j, none⟩) hbs).trans (hcs j V.shape[j] (by simp [hjs]))
      have hxt1 := hct j V.strides[j] (by simp [hjt])
      have hxo1 := hco k (j : Int) (by rw [← hj]; simp [hlt])
      unfold maxLen at hm1 hm2
      clear hr0 hr1 hr2 hcs hct hco
      have hki : (k : Int) < (O.length : Int) := by omega
      have hj1 : (j : Int) < (V.shape.length : Int) := by omega
      have hj2 : (j : Int) < (V.strides.length : Int) := by omega
      obtain ⟨hE1, hE2⟩ := permV_snoc hlt hj hjs hjt
      have HE1 := hid hE1
      have HE2 := hid hE2
      have HLN := hid (show (permV V (O.take k)).shape.length ≤ 1000000000000 by have := permV_len V O k; omega)
      have HLM := hid (show (permV V (O.take k)).strides.length ≤ 1000000000000 by have := permV_len V O k; omega)
      have HJ := hid hj
      clear hE1 hE2 hj
      obtain ⟨Sa, Sc, eS⟩ := hG.s.form
      obtain ⟨Ta, Tc, eT⟩ := hG.t.form
      subst eS eT
      have HH := hid (HB2.out)
      have hWo : Below wr.heap.size wr (wr.alloc (.cells #[.int .i64 V.shape[j]] 3)).drew := (below_lit1 wr _).drew
      have hWc : (wr.alloc (.cells #[.int .i64 V.shape[j]] 3)).drew.cell? ⟨wr.heap.size, 0, none⟩ = some (.int .i64 V.shape[j]) := cell_new1 wr _ _
      have hWB : B ≤ (wr.alloc (.cells #[.int .i64 V.shape[j]] 3)).drew.heap.size := by have := HZ.out; simp; omega
      obtain ⟨⟨g0, g1, g2⟩, -⟩ := id hG.box.all3
      go_upto_region 5 with fail
      go_cut [6] from 10 to 41 (fun v4 wx => v4 = .int .i64 k ∧ Mid w wx B B (B + 1) V.base (.slice (some ⟨bs, os, none⟩) V.shape.length cs) (.slice (some ⟨bt, ot, none⟩) V.strides.length ct) V.base ((permV V (O.take k)).shape ++ [V.shape[j]]) (permV V (O.take k)).strides)
      case first =>
        obtain ⟨⟨gg0, gg1, gg2⟩, -⟩ := (hG.box.alloc (.cells #[.int .i64 V.shape[j]] 3)).all3
        obtain ⟨⟨qq0, qq1, qq2⟩, -⟩ := (hAr.alloc (.cells #[.int .i64 V.shape[j]] 3)).all3
        have hxs' : (wr.alloc (.cells #[.int .i64 V.shape[j]] 3)).cell? ⟨bs, os + j, none⟩ = some (.int .i64 V.shape[j]) := ((hb.nx (below_alloc wr _) hb.size).cell (p := ⟨bs, os + j, none⟩) hbs).trans (by have := hb.cell (p := ⟨bs, os + j, none⟩) hbs; rw [← this]; exact hxs)
        have hxo' : (wr.alloc (.cells #[.int .i64 V.shape[j]] 3)).cell? ⟨bo, oo + k, none⟩ = some (.int .i64 (j : Int)) := ((hb.nx (below_alloc wr _) hb.size).cell (p := ⟨bo, oo + k, none⟩) hbo).trans (by have := hb.cell (p := ⟨bo, oo + k, none⟩) hbo; rw [← this]; exact hxo)
        go_region_law (refine step1 _ (by rfl) _ _ (by rfl) B _ _ (by rfl) (hG.s.nx hWo) ⟨wr.heap.size, 0, none⟩ 1 V.shape[j] (by rfl) hWc HLN.out hWB ?_; intro s1 w1 ho1 hg1 hat1; have hB1 := hG.boxS hWo hg1; obtain ⟨⟨b0, b1, b2⟩, bf0, bf1, bf2⟩ := id hB1.all3; obtain ⟨As1, cs1, es1⟩ := ho1.form; subst es1)
        all_goals (go_wp2_with fail; go_meet; simp only [List.length_append, List.length_cons, List.length_nil, Nat.zero_add] at ho1 hat1; exact ⟨rfl, Mid.of_s hG hWo ho1 hg1 hat1 hb HH.out (by omega) HZ.out (by have := HZ.out; omega) hAr hRr⟩)
      case rest =>
        obtain ⟨rfl, s2, t2, hG, hb, hAr, hRr, hzr⟩ := hcut
        clear hWc hWB hWo
        obtain ⟨Sa2, Sc2, eS⟩ := hG.s.form
        obtain ⟨Ta2, Tc2, eT⟩ := hG.t.form
        subst eS eT
        have HZ2 := hid hzr
        clear hzr
        have hxo := (hb.cell (p := ⟨bo, oo + k, none⟩) hbo).trans hxo1
        have hxt := (hb.cell (p := ⟨bt, ot + j, none⟩) hbt).trans hxt1
        have hWo : Below wc.heap.size wc (wc.alloc (.cells #[.int .i64 V.strides[j]] 3)).drew := (below_lit1 wc _).drew
        have hWc : (wc.alloc (.cells #[.int .i64 V.strides[j]] 3)).drew.cell? ⟨wc.heap.size, 0, none⟩ = some (.int .i64 V.strides[j]) := cell_new1 wc _ _
        have hWB : B ≤ (wc.alloc (.cells #[.int .i64 V.strides[j]] 3)).drew.heap.size := by have := HZ2.out; simp; omega
        obtain ⟨⟨q0, q1, q2⟩, -⟩ := id hAr.all3
        obtain ⟨⟨g0, g1, g2⟩, -⟩ := id hG.box.all3
        obtain ⟨⟨gg0, gg1, gg2⟩, -⟩ := (hG.box.alloc (.cells #[.int .i64 V.strides[j]] 3)).all3
        obtain ⟨⟨qq0, qq1, qq2⟩, -⟩ := (hAr.alloc (.cells #[.int .i64 V.strides[j]] 3)).all3
        have hxt' : (wc.alloc (.cells #[.int .i64 V.strides[j]] 3)).cell? ⟨bt, ot + j, none⟩ = some (.int .i64 V.strides[j]) := ((hb.nx (below_alloc wc _) hb.size).cell (p := ⟨bt, ot + j, none⟩) hbt).trans (by have := hb.cell (p := ⟨bt, ot + j, none⟩) hbt; rw [← this]; exact hxt)
        have hxo' : (wc.alloc (.cells #[.int .i64 V.strides[j]] 3)).cell? ⟨bo, oo + k, none⟩ = some (.int .i64 (j : Int)) := ((hb.nx (below_alloc wc _) hb.size).cell (p := ⟨bo, oo + k, none⟩) hbo).trans (by have := hb.cell (p := ⟨bo, oo + k, none⟩) hbo; rw [← this]; exact hxo)
        go_upto_region 6 with fail
        go_region_law (refine step1 _ (by rfl) _ _ (by rfl) B _ _ (by rfl) (hG.t.nx hWo) ⟨wc.heap.size, 0, none⟩ 1 V.strides[j] (by rfl) hWc HLM.out hWB ?_; intro s1 w1 ho1 hg1 hat1; have hB1 := hG.boxT hWo hg1; obtain ⟨⟨b0, b1, b2⟩, bf0, bf1, bf2⟩ := id hB1.all3; obtain ⟨As1, cs1, es1⟩ := ho1.form; subst es1)
        all_goals
          have hM := Mid.of_t (N := B + 1) hG hWo ho1 hg1 hat1 hb HH.out (by omega) HZ2.out (by have := HZ2.out; omega) hAr hRr
          have HMM := hid hM
          clear hM hWc hWB hWo hxt' hxo' ho1 hat1 hB1 b0 b1 b2 bf0 bf1 bf2
          go_wp2_with fail
          go_roundg (O.length - (k + 1))
          case measure => have := HM.out; omega
          case rel => exact ⟨k + 1, by omega, rfl, by go_num, by rw [HE1.out, HE2.out]; simpa using HMM.out⟩
    · have hkl : k = O.length := by omega
      subst hkl
      obtain ⟨Sa, Sc, eS⟩ := hG.s.form
      obtain ⟨Ta, Tc, eT⟩ := hG.t.form
      subst eS eT
      obtain ⟨⟨g0, g1, g2⟩, gf0, gf1, gf2⟩ := id hG.box.all3
      obtain ⟨⟨r0, r1, r2⟩, rf0, rf1, rf2⟩ := id hRr.all3
      have HG := hid hG
      clear hG
      have hBn := HB2.out
      go_wp2
      refine bodyPost_ret (v := .agg #[.int .i64 V.base, .slice Sa (permV V (O.take O.length)).shape.length Sc, .slice Ta (permV V (O.take O.length)).strides.length Tc]) (by simp [results, Try.results137, go_sem, r0, r1, r2]) rfl ?_
      have hG := HG.out
      rw [List.take_length] at hG ⊢
      exact ⟨_, _, rfl, (own3b hG.s (show w.heap.size + 1 < B by omega) _ _ _).mono (by omega), (own3b hG.t (show w.heap.size + 1 < B by omega) _ _ _).mono (by omega), hG.sep, below3 hb (by omega) _ _ _⟩

end Go.Proofs.Ytldblcolnjkcaaa
