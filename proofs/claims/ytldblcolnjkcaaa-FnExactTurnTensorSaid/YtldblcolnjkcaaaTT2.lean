/- The contract of the implementation's turned tensor. No conditions. (printed by mktt.py) -/
import Derived.Test.YtldblcolnjkcaaaTTp
import Derived.Test.YtldblcolnjkcaaaE4p
import Derived.Test.YtldblcolnjkcaaaHp
import Derived.Test.YtldblcolnjkcaaaGr
import Derived.Test.YtldblcolnjkcaaaC2
import Derived.Test.YtldblcolnjkcaaaIE
import Derived.Deep.Cut
import Derived.Deep.LoopGhost
namespace Go.Proofs.Ytldblcolnjkcaaa
open Go.RowKit

theorem pick_snoc {s O : List Int} {P : List Nat} {k j : Nat} (hP : P = O.map Int.toNat) (hk : k < O.length) (hj : O[k] = (j : Int)) (hs : j < s.length) : pickN s (P.take (k + 1)) = pickN s (P.take k) ++ [s[j]] := by
  subst hP
  rw [take_snocI _ k (by simpa using hk), pickN, List.map_append]
  simp [pickN, hj, hs]

set_option maxRecDepth 100000 in
set_option maxHeartbeats 6400000 in
theorem TurnTensor_any (v vo : Value) (T : TL) (O : List Int) (w : World) (hv : TensorV w v T) (ho : Ints w vo O) :
    Calls Try.prog 64 #[v, vo] w (RetTensor w (turnL T O)) := by
  have hv0 := hv
  obtain ⟨sv, tv, rfl, hs, ht⟩ := hv
  obtain ⟨As, cs, es⟩ := hs.form
  obtain ⟨At, ct, et⟩ := ht.form
  obtain ⟨Ao, co, eo, hco, hcm, -⟩ := id ho
  unfold maxLen at hcm
  subst es et eo
  have H1 := ((Hp.start w).alloc 75 #[.slice As T.shape.length cs, .slice At T.values.length ct]).alloc 75 #[.slice none 0 0, .slice none 0 0]
  simp only [World.size_alloc, List.nil_append, List.cons_append] at H1
  cases hok : isTensorL T
  · have HQ := hid (show turnL T O = ⟨[], []⟩ by simp [turnL, hok])
    go_enter Try.func64, Try.ntmps64
    go_upto_region 1 with fail
    generalize ((w.alloc (.cells #[.slice As T.shape.length cs, .slice At T.values.length ct] 75)).alloc (.cells #[.slice none 0 0, .slice none 0 0] 75)) = w1 at *
    obtain ⟨⟨a0, a1⟩, -⟩ := (H1.blk 0 rfl).all2
    go_wp2_with fail
    refine (isTensor_any _ T _ (TensorV.ext hv0 H1.below)).mono ?_; rintro e w2 ⟨rfl, hb⟩
    rw [hok]
    have H2 := hid (H1.nx hb)
    clear a0 a1 hb H1
    obtain ⟨⟨a0, a1⟩, -⟩ := (H2.out.blk 0 rfl).all2
    obtain ⟨⟨r0, r1⟩, s0, s1⟩ := (H2.out.blk 1 rfl).all2
    clear hok
    have HF := hid (H2.out.store2 1 rfl (.slice none 0 0) (.slice none 0 0))
    go_wp2
    refine bodyPost_ret (v := .agg #[.slice none 0 0, .slice none 0 0]) (by simp [results, Try.results64, go_sem, r0, r1]) rfl ?_
    rw [HQ.out]
    exact ⟨_, _, rfl, Own.nil _ _, Own.nil _ _, Sep.none_left _, HF.out.below⟩
  have HT := hid (isTensorL_and hok)
  have hle4 : T.shape.length ≤ 4 := (shape_ext HT.out.1).1
  by_cases hl : O.length = T.shape.length
  case neg =>
    have HQ := hid (show turnL T O = ⟨[], []⟩ by
      have : orderL O T.shape.length = false := by simp [orderL, hl]
      simp [turnL, this])
    have hne : ((O.length : Int) != (T.shape.length : Int)) = true := by simp; omega
    clear hl
    go_enter Try.func64, Try.ntmps64
    go_upto_region 1 with fail
    generalize ((w.alloc (.cells #[.slice As T.shape.length cs, .slice At T.values.length ct] 75)).alloc (.cells #[.slice none 0 0, .slice none 0 0] 75)) = w1 at *
    obtain ⟨⟨a0, a1⟩, -⟩ := (H1.blk 0 rfl).all2
    go_wp2_with fail
    refine (isTensor_any _ T _ (TensorV.ext hv0 H1.below)).mono ?_; rintro e w2 ⟨rfl, hb⟩
    rw [hok]
    have H2 := hid (H1.nx hb)
    clear a0 a1 hb H1
    obtain ⟨⟨a0, a1⟩, -⟩ := (H2.out.blk 0 rfl).all2
    obtain ⟨⟨r0, r1⟩, s0, s1⟩ := (H2.out.blk 1 rfl).all2
    clear hok
    have HF := hid (H2.out.store2 1 rfl (.slice none 0 0) (.slice none 0 0))
    go_wp2
    refine bodyPost_ret (v := .agg #[.slice none 0 0, .slice none 0 0]) (by simp [results, Try.results64, go_sem, r0, r1]) rfl ?_
    rw [HQ.out]
    exact ⟨_, _, rfl, Own.nil _ _, Own.nil _ _, Sep.none_left _, HF.out.below⟩
  have hne : ((O.length : Int) != (T.shape.length : Int)) = false := by simp [hl]
  have HLE := hid hl
  have HORD := hid (fun b (h : orderL O T.shape.length = b) => show turnL T O = (if b then ⟨turnS T.shape O, takenL T.values (offs (turnV T.shape O))⟩ else ⟨[], []⟩) by subst h; simp [turnL, hok])
  have hO4 : O.length ≤ 4 := by omega
  obtain ⟨P, hP⟩ : ∃ P, P = O.map Int.toNat := ⟨_, rfl⟩
  have HP := hid hP
  have HPL := hid (show P.length = O.length by rw [hP]; simp)
  clear hP
  clear hl
  go_enter Try.func64, Try.ntmps64
  go_upto_region 1 with fail
  generalize ((w.alloc (.cells #[.slice As T.shape.length cs, .slice At T.values.length ct] 75)).alloc (.cells #[.slice none 0 0, .slice none 0 0] 75)) = w1 at *
  obtain ⟨⟨a0, a1⟩, -⟩ := (H1.blk 0 rfl).all2
  go_wp2_with fail
  refine (isTensor_any _ T _ (TensorV.ext hv0 H1.below)).mono ?_; rintro e w2 ⟨rfl, hb⟩
  rw [hok]
  have H2 := hid (H1.nx hb)
  clear a0 a1 hb H1
  obtain ⟨⟨a0, a1⟩, -⟩ := (H2.out.blk 0 rfl).all2
  obtain ⟨⟨r0, r1⟩, s0, s1⟩ := (H2.out.blk 1 rfl).all2
  clear hok
  go_upto_region 3 with fail
  have H3 := hid (((H2.out.alloc 75 #[.slice none 0 0, .slice none 0 0]).row (Own.nil _ _) (Below.refl _ _)).row (Own.nil _ _) (Below.refl _ _))
  go_upto_region 5 with fail
  simp only [List.cons_append, List.nil_append] at H3
  clear a0 a1 r0 r1 s0 s1 H2
  generalize w2.alloc (.cells #[.slice none 0 0, .slice none 0 0] 75) = w3 at *
  generalize w2.heap.size = g5 at *
  go_loopg [28] O.length (fun m i wr => ∃ (k : Nat) (s : Value), k ≤ O.length ∧ m = O.length - k ∧ i = .int .i64 k ∧ Hid (okTo O T.shape.length k = true) ∧
    Hp w.heap.size w wr [.blk w.heap.size 75 #[.slice As T.shape.length cs, .slice At T.values.length ct], .blk (w.heap.size + 1) 75 #[.slice none 0 0, .slice none 0 0], .blk g5 75 #[s, .slice none 0 0], .ints s (pickN T.shape (P.take k)), .ints (.slice none 0 0) []])
  case atStart => exact ⟨0, _, Nat.zero_le _, rfl, rfl, hid rfl, H3.out⟩
  case round =>
    obtain ⟨k, s, hk, rfl, rfl, HK, H⟩ := hrel
    clear H3
    have HH := hid H
    obtain ⟨sA, sc, es⟩ := (H.ints 3 rfl).form
    subst es
    obtain ⟨⟨a0, a1⟩, -⟩ := (H.blk 0 rfl).all2
    obtain ⟨⟨r0, r1⟩, s0, s1⟩ := (H.blk 1 rfl).all2
    obtain ⟨⟨z0, z1⟩, y0, y1⟩ := (H.blk 2 rfl).all2
    clear H
    by_cases hlt : k < O.length
    · have hki : (k : Int) < (O.length : Int) := by omega
      have hin := ho.ext HH.out.below
      obtain ⟨bo, oo, rfl, xo⟩ := hin.elem k hlt
      have HTK := hid (hin.take k hk)
      have hkc : k ≤ co := by omega
      clear hin
      by_cases h1 : O[k] < 0
      · have HQ := hid (show turnL T O = ⟨[], []⟩ from HORD.out false (order_bad hlt (.inl h1)))
        have HF := hid (HH.out.store2 1 rfl (.slice none 0 0) (.slice none 0 0))
        go_wp2
        refine bodyPost_ret (v := .agg #[.slice none 0 0, .slice none 0 0]) (by simp [results, Try.results64, go_sem, r0, r1]) rfl ?_
        rw [HQ.out]
        exact ⟨_, _, rfl, Own.nil _ _, Own.nil _ _, Sep.none_left _, HF.out.below⟩
      have h1' : 0 ≤ O[k] := by omega
      by_cases h2 : (T.shape.length : Int) ≤ O[k]
      · have HQ := hid (show turnL T O = ⟨[], []⟩ from HORD.out false (order_bad hlt (.inr h2)))
        have h2' : (O.length : Int) ≤ O[k] := by have := HLE.out; omega
        have HF := hid (HH.out.store2 1 rfl (.slice none 0 0) (.slice none 0 0))
        go_wp2
        refine bodyPost_ret (v := .agg #[.slice none 0 0, .slice none 0 0]) (by simp [results, Try.results64, go_sem, r0, r1]) rfl ?_
        rw [HQ.out]
        exact ⟨_, _, rfl, Own.nil _ _, Own.nil _ _, Sep.none_left _, HF.out.below⟩
      have h2' : O[k] < (O.length : Int) := by have := HLE.out; omega
      have h2s : O[k] < (T.shape.length : Int) := by omega
      clear h1 h2
      cases h3 : (O.take k).contains O[k]
      case true =>
        have HQ := hid (show turnL T O = ⟨[], []⟩ from HORD.out false (order_twice (n := T.shape.length) hlt h3))
        have HC := hid h3
        clear h3
        go_wp2_with fail
        refine (Contains_any _ (O.take k) _ _ HTK.out).mono ?_; rintro e w' ⟨rfl, rfl⟩
        rw [HC.out]
        have HF := hid (HH.out.store2 1 rfl (.slice none 0 0) (.slice none 0 0))
        go_wp2
        refine bodyPost_ret (v := .agg #[.slice none 0 0, .slice none 0 0]) (by simp [results, Try.results64, go_sem, r0, r1]) rfl ?_
        rw [HQ.out]
        exact ⟨_, _, rfl, Own.nil _ _, Own.nil _ _, Sep.none_left _, HF.out.below⟩
      have HN := hid (okTo_snoc hlt HK.out (by omega) (by omega) h3)
      have HC := hid h3
      obtain ⟨j, hj⟩ : ∃ j : Nat, O[k] = (j : Int) := ⟨(O[k]).toNat, by omega⟩
      have hjs : j < T.shape.length := by omega
      have HPK := hid (pick_snoc HP.out hlt hj hjs)
      have HLN := hid (show (pickN T.shape (P.take k)).length + [T.shape[j]].length ≤ 1000000000000 by have := HPL.out; simp [pickN]; omega)
      have hlp : (pickN T.shape (P.take k)).length = k := by have := HPL.out; simp [pickN]; omega
      obtain ⟨bs, os, rfl, xs⟩ := (hs.ext HH.out.below).elem j hjs
      have hjsi : (j : Int) < (T.shape.length : Int) := by omega
      obtain ⟨X, eX⟩ : ∃ X, T.shape[j] = X := ⟨_, rfl⟩
      rw [eX] at xs HPK HLN
      rw [hj] at xo h1' h2' HC
      clear h3 hj eX hlp h2s
      go_wp2_with fail
      refine (Contains_any _ (O.take k) _ _ HTK.out).mono ?_; rintro e w' ⟨rfl, rfl⟩
      rw [HC.out]
      go_upto_region 9 with fail
      have q0 := fun x : ExtW wr => (Blk.ext (HH.out.blk 0 rfl) x.h (HH.out.blk 0 rfl).lt).all2.1
      have q2 := fun x : ExtW wr => (Blk.ext (HH.out.blk 2 rfl) x.h (HH.out.blk 2 rfl).lt).all2.1
      have qs := fun x : ExtW wr => (x.h.cell (p := ⟨bs, os + j, none⟩) (World.block_lt_of_cell? _ _ xs)).trans xs
      clear a0 a1 r0 r1 s0 s1 z0 z1 y0 y1 xo
      refine region_mk 8 (by kernel_rfl) (by kernel_rfl) ?_
      apply Exists.intro
      simp only [List.take_succ_cons, List.take_zero, List.drop_succ_cons, List.drop_zero]
      repeat (first
        | (apply grow_val (by rfl); (focus (intro x; (go_simp; try with_reducible rfl); done)); simp only [Act.put, List.setIfInBounds_toArray, List.set_cons_zero, List.set_cons_succ])
        | (apply grow_skip (by rfl); simp only [Act.put, List.setIfInBounds_toArray, List.set_cons_zero, List.set_cons_succ]))
      apply grow_lit1 (.tmp 55) X rfl (by rfl) (by rfl)
      intro g7 c7 hg7 F7 O7 hF7 hO7
      simp only [Act.put, List.setIfInBounds_toArray, List.set_cons_zero, List.set_cons_succ]
      refine grow_nil ?_
      rintro ⟨w5, hb5⟩ hF hS
      have h7 := hF7 _ (hF 7 (by omega))
      have hb5 : Below wr.heap.size wr w5 := hb5
      have H5 := hid (HH.out.nx hb5)
      have HX5 := hid (H5.out.ints 3 rfl)
      have H7i := hid h7.ints
      clear hF hS hF7 hO7 q0 q2 qs xs h7 HTK HC
      go_wp2_with (at_builtin; refine appI _ rfl _ _ rfl w.heap.size _ (pickN T.shape (P.take k)) rfl HX5.out _ _ _ [X] rfl H7i.out HLN.out H5.out.size ?_)
      intro v1 w6 ho1 hg1 hat1
      rw [← HPK.out] at ho1
      have H6 := H5.out.grown 3 rfl ho1 hg1 hat1
      simp only [List.set_cons_succ, List.set_cons_zero] at H6
      obtain ⟨vA, vc, ev⟩ := ho1.form
      subst ev
      obtain ⟨⟨z0, z1⟩, y0, y1⟩ := (H6.blk 2 rfl).all2
      have H7 := H6.store 2 rfl 0 (.slice vA (pickN T.shape (P.take (k + 1))).length vc)
      simp only [List.set_cons_succ, List.set_cons_zero, List.setIfInBounds_toArray] at H7
      have HFIN := hid H7
      clear H6 H7 hg1 hat1 ho1 hb5 H5 HX5 H7i
      go_wp2
      go_roundg (O.length - (k + 1))
      case measure => omega
      case rel => exact ⟨k + 1, _, by omega, rfl, by go_num, HN, HFIN.out⟩
    · obtain rfl : O.length = k := by omega
      have hor := order_good HLE.out HK.out
      have HQ := hid (show turnL T O = ⟨turnS T.shape O, takenL T.values (offs (turnV T.shape O))⟩ from HORD.out true hor)
      have HOR := hid hor
      have HPT := hid (show P.take O.length = P by rw [← HPL.out, List.take_length])
      rw [HPT.out] at HH
      have HTU := hid (show pickN T.shape P = turnS T.shape O by rw [HP.out]; rfl)
      rw [HTU.out] at HH
      have HSH := hid (turnS_shape HT.out.1 hor)
      have HPR := hid (turnS_prod (s := T.shape) hor)
      have hl4 : (turnS T.shape O).length ≤ 4 := by rw [turnS_len hor]; exact hle4
      have HUN := hid (fun k : Int => show (unr (turnS T.shape O) k).length = O.length by rw [unr_length, turnS_len hor, HLE.out])
      have HOFL := hid (turn_offs_len HT.out.1 hor)
      have HSP := hid (shape_prod HT.out.1)
      have HPRM := hid (order_perm hor)
      obtain ⟨m, hm⟩ : ∃ m : Nat, prodW (turnS T.shape O) = (m : Int) := ⟨(prodW (turnS T.shape O)).toNat, by have := shape_prod HSH.out; omega⟩
      have HM := hid hm
      have hm60 : m ≤ 60 := by have := shape_prod HSH.out; omega
      have HMP := hid (show prodI T.shape = (m : Int) by have := shape_prod HSH.out; have := HPR.out; omega)
      have HPOS := hid (fun (hm0 : 0 < m) => show ∀ x ∈ turnS T.shape O, 1 ≤ x ∧ x ≤ 60 from fun x hx => by
        obtain ⟨s1, s2, -⟩ := shape_ext HSH.out
        have := prodI_pos (fun x hx => (s2 x hx).1) (show 0 < prodI (turnS T.shape O) by have := HPR.out; have := HMP.out; omega) x hx
        exact ⟨this, (s2 x hx).2⟩)
      have HVL := hid (show T.values.length = m by have := HT.out.2.1; have := HSP.out; have := HMP.out; omega)
      clear a0 a1 r0 r1 s0 s1 z0 z1 y0 y1 hm
      obtain ⟨⟨z0, z1⟩, y0, y1⟩ := (HH.out.blk 2 rfl).all2
      go_wp2_with fail
      refine (countOf_any _ (turnS T.shape O) _ (HH.out.ints 3 rfl).ints).mono ?_; rintro e w' ⟨rfl, rfl⟩
      rw [HM.out]
      clear z0 z1 y0 y1
      obtain ⟨wz, rfl⟩ : ∃ wz : World, wz = wr := ⟨_, rfl⟩
      go_upto_region 12 with fail
      go_loopg [63] m (fun q i wr => ∃ (k : Nat) (t : Value), k ≤ m ∧ q = m - k ∧ i = .int .i64 k ∧ Hp w.heap.size w wr [.blk w.heap.size 75 #[.slice As T.shape.length cs, .slice At T.values.length ct], .blk (w.heap.size + 1) 75 #[.slice none 0 0, .slice none 0 0], .blk g5 75 #[.slice sA (turnS T.shape O).length sc, t], .ints (.slice sA (turnS T.shape O).length sc) (turnS T.shape O), .ints (t) (takenL T.values ((offs (turnV T.shape O)).take k))])
      case atStart => exact ⟨0, _, Nat.zero_le _, rfl, rfl, HH.out⟩
      case round =>
        obtain ⟨k, t, hk, rfl, rfl, H⟩ := hrel
        clear HH
        have HH := hid H
        obtain ⟨tA, tc, et⟩ := (H.ints 4 rfl).form
        subst et
        obtain ⟨⟨z0, z1⟩, y0, y1⟩ := (H.blk 2 rfl).all2
        clear H
        by_cases hlt : k < m
        · have hki : (k : Int) < (m : Int) := by omega
          have hTA := turn_at HT.out.1 HOR.out (k := k) (by omega) (by rw [HMP.out]; omega)
          have hRK := turn_rank HT.out.1 HOR.out (k := k) (by omega) (by rw [HMP.out]; omega)
          have hko : k < (offs (turnV T.shape O)).length := by rw [HOFL.out, HMP.out]; omega
          have hOG := turn_offs_get HT.out.1 HOR.out k hko
          obtain ⟨q, hq⟩ : ∃ q : Nat, turnK T.shape O k = (q : Int) := ⟨(turnK T.shape O k).toNat, by have := hTA.2.2.1; omega⟩
          have hqv : q < T.values.length := by have := hTA.2.2.2; have := HMP.out; have := HVL.out; omega
          have hqi : (q : Int) < (T.values.length : Int) := by omega
          rw [hq] at hRK hOG
          rw [← HP.out, ← HLE.out] at hRK
          have HRK := hid hRK
          have HTK := hid (show takenL T.values ((offs (turnV T.shape O)).take (k + 1)) = takenL T.values ((offs (turnV T.shape O)).take k) ++ [T.values[q]] by rw [takenL_snoc T.values _ k hko, hOG]; simp [hqv])
          have HLN := hid (show (takenL T.values ((offs (turnV T.shape O)).take k)).length + [T.values[q]].length ≤ 1000000000000 by simp [takenL]; omega)
          obtain ⟨Z, eZ⟩ : ∃ Z, T.values[q] = Z := ⟨_, rfl⟩
          rw [eZ] at HTK HLN
          have HZQ := hid eZ
          clear hTA hRK hko hOG hq eZ
          go_wp2_with fail
          refine (indexAt_any _ (turnS T.shape O) k _ (HH.out.ints 3 rfl).ints (HPOS.out (by omega)) hl4 (by omega) (by omega)).mono ?_; rintro e w5 ⟨r9, rfl, ho9, hb5⟩
          have HH5 := hid (HH.out.row ho9 hb5)
          obtain ⟨A9, c9, e9⟩ := ho9.form
          rw [HUN.out] at e9
          subst e9
          clear z0 z1 y0 y1 hb5 ho9 HH
          go_wp2_with (at_make; refine mk0 _ rfl _ _ rfl O.length rfl rfl (by omega) ?_)
          intro w6 ho10 hb6
          have HH6 := hid (HH5.out.row ho10 hb6)
          clear ho10 hb6 HH5
          generalize w5.heap.size = g10 at *
          simp only [List.cons_append, List.nil_append] at HH6
          obtain ⟨wy, rfl⟩ : ∃ wy : World, wy = w6 := ⟨_, rfl⟩
          go_upto_region 17 with fail
          go_loopg [75] O.length (fun q' i wr => ∃ j : Nat, j ≤ O.length ∧ q' = O.length - j ∧ i = .int .i64 j ∧ Hp w.heap.size w wr [.blk w.heap.size 75 #[.slice As T.shape.length cs, .slice At T.values.length ct], .blk (w.heap.size + 1) 75 #[.slice none 0 0, .slice none 0 0], .blk g5 75 #[.slice sA (turnS T.shape O).length sc, .slice tA (takenL T.values ((offs (turnV T.shape O)).take k)).length tc], .ints (.slice sA (turnS T.shape O).length sc) (turnS T.shape O), .ints (.slice tA (takenL T.values ((offs (turnV T.shape O)).take k)).length tc) (takenL T.values ((offs (turnV T.shape O)).take k)), .ints (.slice A9 O.length c9) (unr (turnS T.shape O) k), .ints (.slice (some ⟨g10, 0, none⟩) O.length O.length) (unPk P (unr (turnS T.shape O) k) O.length j)])
          case atStart => exact ⟨0, Nat.zero_le _, rfl, rfl, by rw [unPk_zero]; exact HH6.out⟩
          case round =>
            obtain ⟨j, hj, rfl, rfl, H⟩ := hrel
            clear HH6
            have HJ := hid H
            clear H
            by_cases hltj : j < O.length
            · have hji : (j : Int) < (O.length : Int) := by omega
              obtain ⟨bo, oo, rfl, xo⟩ := (ho.ext HJ.out.below).elem j hltj
              have hjP : j < P.length := by rw [HPL.out]; exact hltj
              have hjU : j < (unr (turnS T.shape O) k).length := by rw [HUN.out]; exact hltj
              obtain ⟨b9, o9, rfl, x9⟩ := (HJ.out.ints 5 rfl).ints.elem j hjU
              obtain ⟨p, hp⟩ : ∃ p, P[j] = p := ⟨_, rfl⟩
              have hpm : p < T.shape.length := by
                have : P[j] ∈ List.range T.shape.length := by have := HPRM.out; rw [← HP.out] at this; exact this.mem_iff.1 (List.getElem_mem hjP)
                rw [hp] at this
                exact List.mem_range.1 this
              have hOj : O[j] = (p : Int) := by
                have h2 : 0 ≤ O[j] := by
                  have := HOR.out
                  simp only [orderL, Bool.and_eq_true, decide_eq_true_eq, List.all_eq_true, inR_iff] at this
                  exact (this.1.2 _ (List.getElem_mem hltj)).1
                have h3 : P[j] = (O[j]).toNat := by simp [HP.out]
                omega
              have hpO : p < O.length := by rw [HLE.out]; exact hpm
              have hpi : (p : Int) < (O.length : Int) := by omega
              rw [hOj] at xo
              have x10 := (HJ.out.ints 6 rfl).cell p (by rw [unPk_len]; exact hpO)
              have f10 := (HJ.out.ints 6 rfl).free p
              have hnd : P.Nodup := by rw [HP.out]; exact HPRM.out.nodup_iff.2 List.nodup_range
              have hput := unPk_put (n := O.length) hnd hjP hjU
              rw [hp] at hput
              have H7 := HJ.out.put 6 rfl p (unr (turnS T.shape O) k)[j]
              simp only [List.set_cons_succ, List.set_cons_zero] at H7
              rw [hput] at H7
              obtain ⟨Y, eY⟩ : ∃ Y, (unr (turnS T.shape O) k)[j] = Y := ⟨_, rfl⟩
              rw [eY] at x9 H7
              have HFIN := hid H7
              clear H7 hput hnd hOj hp hjP hjU eY hpm HJ
              go_wp2
              go_roundg (O.length - (j + 1))
              case measure => omega
              case rel => exact ⟨j + 1, by omega, rfl, by go_num, HFIN.out⟩
            · obtain rfl : O.length = j := by omega
              have HOLD := hid (show unPk P (unr (turnS T.shape O) k) O.length O.length = unP P (unr (turnS T.shape O) k) O.length from unPk_all (by rw [HP.out, HLE.out]; exact HPRM.out))
              rw [HOLD.out] at HJ
              obtain ⟨bv, ov, rfl, xv⟩ := (ht.ext HJ.out.below).elem q hqv
              rw [HZQ.out] at xv
              go_upto_region 21 with fail
              have q0 := fun x : ExtW wr => (Blk.ext (HJ.out.blk 0 rfl) x.h (HJ.out.blk 0 rfl).lt).all2.1
              have q2 := fun x : ExtW wr => (Blk.ext (HJ.out.blk 2 rfl) x.h (HJ.out.blk 2 rfl).lt).all2.1
              have qv := fun x : ExtW wr => (x.h.cell (p := ⟨bv, ov + q, none⟩) (World.block_lt_of_cell? _ _ xv)).trans xv
              have HRX : ∀ x : ExtW wr, Calls Try.prog 16 #[.slice As T.shape.length cs, .slice (some ⟨g10, 0, none⟩) O.length O.length] x.v fun e w' => e = .returned (.int .i64 (q : Int)) ∧ Below x.v.heap.size x.v w' := fun x => (RankOf_any _ _ T.shape (unP P (unr (turnS T.shape O) k) O.length) x.v ((hs.ext HJ.out.below).ext x.h) ((HJ.out.ints 6 rfl).ext x.h).ints).mono fun _ _ h => ⟨by rw [h.1, HRK.out], h.2 ▸ Below.refl _ _⟩
              have HRX := hid HRX
              refine region_mk 11 (by kernel_rfl) (by kernel_rfl) ?_
              apply Exists.intro
              simp only [List.take_succ_cons, List.take_zero, List.drop_succ_cons, List.drop_zero]
              repeat (first
                | (apply grow_val (by rfl); (focus (intro x; (go_simp; try with_reducible rfl); done)); simp only [Act.put, List.setIfInBounds_toArray, List.set_cons_zero, List.set_cons_succ])
                | (apply grow_skip (by rfl); simp only [Act.put, List.setIfInBounds_toArray, List.set_cons_zero, List.set_cons_succ])
                | (apply grow_call (by rfl); (focus (intro x K Q hK; go_simp; (first | (go_at_call 16; (with_reducible refine (HRX.out x).mono ?_); rintro e w' ⟨rfl, hb⟩; exact hK _ hb)); done)); simp only [Act.put, List.setIfInBounds_toArray, List.set_cons_zero, List.set_cons_succ]))
              apply grow_lit1 (.tmp 97) Z rfl (by rfl) (by rfl)
              intro g7 c7 hg7 F7 O7 hF7 hO7
              simp only [Act.put, List.setIfInBounds_toArray, List.set_cons_zero, List.set_cons_succ]
              refine grow_nil ?_
              rintro ⟨w7, hb7⟩ hF hS
              have h7 := hF7 _ (hF 10 (by omega))
              have hb7 : Below wr.heap.size wr w7 := hb7
              have H5 := hid (HJ.out.nx hb7)
              have HX5 := hid (H5.out.ints 4 rfl)
              have H7i := hid h7.ints
              clear hF hS hF7 hO7 q0 q2 qv xv h7 HRX HJ
              go_wp2_with (at_builtin; refine appI _ rfl _ _ rfl w.heap.size _ (takenL T.values ((offs (turnV T.shape O)).take k)) rfl HX5.out _ _ _ [Z] rfl H7i.out HLN.out H5.out.size ?_)
              intro v1 w8 ho1 hg1 hat1
              rw [← HTK.out] at ho1
              have H6 := H5.out.grown 4 rfl ho1 hg1 hat1
              simp only [List.set_cons_succ, List.set_cons_zero] at H6
              obtain ⟨vA, vc, ev⟩ := ho1.form
              subst ev
              obtain ⟨⟨z0, z1⟩, y0, y1⟩ := (H6.blk 2 rfl).all2
              have H7 := H6.store 2 rfl 1 (.slice vA (takenL T.values ((offs (turnV T.shape O)).take (k + 1))).length vc)
              simp only [List.set_cons_succ, List.set_cons_zero, List.setIfInBounds_toArray] at H7
              have HFIN := hid (H7.pick [0, 1, 2, 3, 4] (by decide))
              clear H6 H7 hg1 hat1 ho1 hb7 H5 HX5 H7i
              go_wp2
              go_roundg (m - (k + 1))
              case measure => omega
              case rel => exact ⟨k + 1, _, by omega, rfl, by go_num, HFIN.out⟩
        · obtain rfl : m = k := by omega
          have HTE := hid (show (offs (turnV T.shape O)).take m = offs (turnV T.shape O) from List.take_of_length_le (by rw [HOFL.out, HMP.out]; omega))
          clear z0 z1 y0 y1
          rw [HTE.out] at HH
          obtain ⟨⟨z0, z1⟩, y0, y1⟩ := (HH.out.blk 2 rfl).all2
          obtain ⟨⟨r0, r1⟩, s0, s1⟩ := (HH.out.blk 1 rfl).all2
          have HF := hid (HH.out.store2 1 rfl (.slice sA (turnS T.shape O).length sc) (.slice tA (takenL T.values (offs (turnV T.shape O))).length tc))
          go_wp2
          refine bodyPost_ret (v := .agg #[.slice sA (turnS T.shape O).length sc, .slice tA (takenL T.values (offs (turnV T.shape O))).length tc]) (by simp [results, Try.results64, go_sem, r0, r1]) rfl ?_
          rw [HQ.out]
          exact ⟨_, _, rfl, HF.out.ints 3 rfl, HF.out.ints 4 rfl, HF.out.apart 3 4 rfl rfl (by decide), HF.out.below⟩

end Go.Proofs.Ytldblcolnjkcaaa
