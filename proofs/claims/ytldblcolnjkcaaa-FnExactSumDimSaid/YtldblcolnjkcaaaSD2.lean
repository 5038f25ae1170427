/- Contract: one tensor contracted with one dimension left out. No conditions. -/
import Derived.Test.YtldblcolnjkcaaaSD1
import Derived.Test.YtldblcolnjkcaaaRT
import Derived.Test.YtldblcolnjkcaaaLL
import Derived.Test.YtldblcolnjkcaaaHp
import Derived.Test.YtldblcolnjkcaaaGr
import Derived.Test.YtldblcolnjkcaaaGF
namespace Go.Proofs.Ytldblcolnjkcaaa
open Go.RowKit

theorem prodW_ones {s : List Int} (hs : isShapeL s = true) : ∀ m, prodW (s ++ List.replicate m 1) = prodI s
  | 0 => by simpa using (shape_prod hs).1
  | m + 1 => by
    have hp := shape_prod hs
    rw [List.replicate_succ', ← List.append_assoc, prodW_snoc, prodW_ones hs m, Int.mul_one]
    exact wrap_small (by omega) (by omega)
theorem upI_in {n d : Nat} : ∀ i ∈ (upI n).eraseIdx d, 0 ≤ i ∧ i < n := fun i hi => by
  have := List.mem_of_mem_eraseIdx hi
  simp only [upI, List.mem_map, List.mem_range] at this
  obtain ⟨j, hj, rfl⟩ := this
  omega
theorem upI_in' {n : Nat} : ∀ i ∈ upI n, 0 ≤ i ∧ i < n := fun i hi => by
  simp only [upI, List.mem_map, List.mem_range] at hi
  obtain ⟨j, hj, rfl⟩ := hi
  omega

set_option maxRecDepth 100000 in
set_option maxHeartbeats 6400000 in
theorem contracted_core (v vl vo ve : Value) (sh vals U O E AX S' : List Int) (idx I1 I2 V : Nat → List Int) (at_ : Nat → Nat) (M : Nat) (w : World)
    (hv : TensorsV w v [⟨sh, vals⟩]) (hl : IntsS w vl [U]) (ho : Ints w vo O) (he : Ints w ve E)
    (HE5 : Hid (E.length = 5)) (HUL : Hid (U.length = sh.length)) (HOL : Hid (O.length ≤ 4)) (hs4 : sh.length ≤ 4) (HAX : Hid (spX E = AX)) (HAL : Hid (AX.length = 5)) (HPN : Hid (prodW AX = (vals.length : Int))) (hN60 : vals.length ≤ 60)
    (HXB : Hid (∀ x ∈ AX, 0 < vals.length → 1 ≤ x ∧ x ≤ 60)) (HPO : Hid (takenL E O = S')) (HIX : Hid (∀ k : Nat, unr AX k = idx k)) (HIL : Hid (∀ k, (idx k).length = 5))
    (HI1 : Hid (∀ k, takenL (idx k) U = I1 k)) (HI2 : Hid (∀ k, takenL (idx k) O = I2 k)) (HL1 : Hid (∀ k, sh.length = (I1 k).length)) (HL2 : Hid (∀ k, S'.length = (I2 k).length))
    (HUB : Hid (∀ i ∈ U, 0 ≤ i ∧ i < (5 : Int))) (HOB : Hid (∀ i ∈ O, 0 ≤ i ∧ i < (5 : Int)))
    (HR1 : Hid (∀ k, k < vals.length → rankW sh (I1 k) = k)) (HR2 : Hid (∀ k, k < vals.length → rankW S' (I2 k) = at_ k ∧ at_ k < M))
    (HM : Hid (prodW S' = (M : Int))) (hM60 : M ≤ 60) (HV0 : Hid (V 0 = List.replicate M 0)) (HVL : Hid (∀ k, (V k).length = M))
    (HBD : Hid (∀ x ∈ vals, -1000000 ≤ x ∧ x ≤ 1000000)) (HVS : Hid (∀ k, V (k + 1) = (V k).set (at_ k) (wrap64 ((V k).getD (at_ k) 0 + vals.getD k 0)))) :
    Calls Try.prog 180 #[v, vl, vo, ve] w (RetTensor w ⟨S', V vals.length⟩) := by
  obtain ⟨A, c, rfl, hk1, hm1⟩ := hv.form
  obtain ⟨b, off, u1, u2, rfl, x0, x1, hTV⟩ := hv.at_ 0 (show 0 < 1 by omega)
  have x0 : w.cell? ⟨b, off, none⟩ = some u1 := by simpa using x0
  have x1 : w.cell? ⟨b, off + 1, none⟩ = some u2 := by simpa using x1
  obtain ⟨Al, cl, rfl, hkl, hml⟩ := hl.form
  obtain ⟨bl, ol, u3, rfl, y0, hu3⟩ := hl.elem 0 (show 0 < 1 by omega)
  have y0 : w.cell? ⟨bl, ol, none⟩ = some u3 := by simpa using y0
  have hu3 : Ints w u3 U := hu3
  obtain ⟨sv, tv, etv, hs1, ht1⟩ := hTV
  have etv : u1 = sv ∧ u2 = tv := by simpa using etv
  obtain ⟨rfl, rfl⟩ := etv
  have hs1 : Ints w u1 sh := hs1
  have ht1 : Ints w u2 vals := ht1
  obtain ⟨A1, c1, rfl, -⟩ := hs1.form
  obtain ⟨A2, c2, rfl, -⟩ := ht1.form
  obtain ⟨A3, c3, rfl, -⟩ := hu3.form
  rw [HUL.out] at hu3 y0
  obtain ⟨Ao, co, rfl, -⟩ := ho.form
  obtain ⟨Ae, ce, rfl, -⟩ := he.form
  have X0 := hid x0
  have X1 := hid x1
  have Y0 := hid y0
  have HU3 := hid hu3
  have HS1 := hid hs1
  have HT1 := hid ht1
  have HOO := hid ho
  have hbl : b < w.heap.size := World.block_lt_of_cell? _ _ x0
  have hbll : bl < w.heap.size := World.block_lt_of_cell? _ _ y0
  have H1 := hid ((Hp.start w).alloc 75 #[.slice none 0 0, .slice none 0 0])
  have he1 := he.ext (below_alloc w (.cells #[.slice none 0 0, .slice none 0 0] 75))
  clear x0 x1 y0 hu3 hs1 ht1 ho he hl hv
  go_enter Try.func180, Try.ntmps180
  go_upto_region 1 with fail
  generalize (w.alloc (.cells #[.slice none 0 0, .slice none 0 0] 75)) = w1 at *
  have hle5 : E.length ≤ 1000 := by have := HE5.out; omega
  go_wp2_with fail
  refine (space_any _ _ _ he1 hle5).mono ?_; rintro e w2 ⟨r1, rfl, hr1, hb⟩
  rw [HAX.out] at hr1
  rw [HAX.out, HPN.out]
  have H2 := hid (H1.out.row hr1 hb)
  obtain ⟨Aa, ca, ea⟩ := hr1.form
  rw [HAL.out] at ea
  subst ea
  have he2 := he1.ext hb
  have ho2 := HOO.out.ext H2.out.below
  clear hb hr1 he1 H1
  have hOl1 : O.length ≤ 1000 := by have := HOL.out; omega
  go_wp2_with fail
  refine (picked_any _ _ _ _ _ he2 ho2 (by rw [HE5.out]; exact HOB.out) hOl1).mono ?_; rintro e w3 ⟨r2, rfl, hr2, hb⟩
  rw [HPO.out] at hr2
  have H3 := hid (H2.out.row hr2 hb)
  obtain ⟨As, cs, es⟩ := hr2.form
  subst es
  have H4 := hid ((H3.out.alloc 75 #[.slice As S'.length cs, .slice none 0 0]))
  simp only [List.nil_append, List.cons_append] at H4
  clear hb hr2 H2 H3 he2 ho2
  go_upto_region 3 with fail
  generalize (w3.alloc (.cells #[.slice As S'.length cs, .slice none 0 0] 75)) = w4 at *
  generalize w3.heap.size = g11 at *
  obtain ⟨⟨z0, z1⟩, k0, k1⟩ := (H4.out.blk 3 rfl).all2
  go_wp2_with fail
  refine (count_any _ _ _ (H4.out.ints 2 rfl).ints).mono ?_; rintro e w' ⟨rfl, rfl⟩
  rw [HM.out]
  go_wp2_with (at_make; refine mk0 _ rfl _ _ rfl M rfl rfl (by omega) ?_)
  intro w5 hR hb
  have H5 := hid (H4.out.row hR hb)
  clear z0 z1 k0 k1 hR hb H4
  generalize w4.heap.size = gv at *
  simp only [List.nil_append, List.cons_append] at H5
  obtain ⟨⟨z0, z1⟩, k0, k1⟩ := (H5.out.blk 3 rfl).all2
  have H6 := H5.out.store 3 rfl 1 (.slice (some ⟨gv, 0, none⟩) M M)
  rw [← HV0.out] at H6
  simp only [List.set_cons_succ, List.set_cons_zero, List.setIfInBounds_toArray] at H6
  have H6 := hid H6
  clear H5
  go_wp2_with fail
  clear z0 z1 k0 k1
  go_loopg [12, 13, 14, 15, 16] vals.length (fun m i a p j e wr => ∃ k : Nat, k ≤ vals.length ∧ m = vals.length - k ∧ i = .int .i64 k ∧
    Hp w.heap.size w wr [.blk w.heap.size 75 #[.slice none 0 0, .slice none 0 0], .ints (.slice Aa 5 ca) AX, .ints (.slice As S'.length cs) S', .blk g11 75 #[.slice As S'.length cs, .slice (some ⟨gv, 0, none⟩) M M], .ints (.slice (some ⟨gv, 0, none⟩) M M) (V k)])
  case atStart => exact ⟨0, Nat.zero_le _, rfl, rfl, H6.out⟩
  case round =>
    obtain ⟨k, hk, rfl, rfl, H⟩ := hrel
    clear H6
    have HH := hid H
    clear H
    by_cases hlt : k < vals.length
    case neg =>
      have hki : ¬ (k : Int) < (vals.length : Int) := by omega
      have hkk : k = vals.length := by omega
      obtain ⟨⟨r0, r1⟩, s0, s1⟩ := (HH.out.blk 0 rfl).all2
      obtain ⟨⟨z0, z1⟩, k0, k1⟩ := (HH.out.blk 3 rfl).all2
      have HF := HH.out.store2 0 rfl (.slice As S'.length cs) (.slice (some ⟨gv, 0, none⟩) M M)
      rw [hkk] at HF
      have HF := hid HF
      clear hkk
      go_wp2
      refine bodyPost_ret (v := .agg #[.slice As S'.length cs, .slice (some ⟨gv, 0, none⟩) M M]) (by simp [results, Try.results180, go_sem, r0, r1]) rfl ?_
      exact ⟨_, _, rfl, HF.out.ints 2 rfl, HF.out.ints 4 rfl, HF.out.apart 2 4 rfl rfl (by omega), HF.out.below⟩
    have hki : (k : Int) < (vals.length : Int) := by omega
    have hXB := HXB.out
    have hk100 : (0 : Int) ≤ (k : Int) ∧ (k : Int) ≤ 100 := by omega
    have HUR := hid (fun ww (h : Ints ww (.slice Aa 5 ca) AX) => unrank5_any (.slice Aa 5 ca) AX k ww h (fun x hx => hXB x hx (by omega)) (by have := HAL.out; omega) hk100.1 hk100.2)
    clear hXB hk100
    go_wp2_with fail
    refine (HUR.out _ (HH.out.ints 1 rfl).ints).mono ?_; rintro e w7 ⟨r7, rfl, hr7, hb⟩
    rw [HIX.out] at hr7
    have H7 := hid (HH.out.row hr7 hb)
    obtain ⟨A7, c7, e7⟩ := hr7.form
    rw [HIL.out] at e7
    subst e7
    simp only [List.nil_append, List.cons_append] at H7
    clear hr7 hb HH HUR
    obtain ⟨X, hX⟩ : ∃ X, vals.getD k 0 = X := ⟨_, rfl⟩
    have hXk : vals[k] = X := by rw [← hX]; simp [hlt]
    have hXb := HBD.out _ (List.getElem_mem hlt)
    obtain ⟨bv, ov, rfl, xv⟩ := HT1.out.elem k hlt
    rw [hXk] at xv hXb
    have XV := hid xv
    have HVX := hid hX
    have hw1 : IntKind.i64.wrap X = X := IntWalk.i64_in _ (by omega)
    have hw2 : IntKind.i64.wrap (1 * X) = X := by rw [Int.one_mul]; exact hw1
    have hbv : bv < w.heap.size := World.block_lt_of_cell? _ _ xv
    have hk0 : (0 : Int) ≤ (k : Int) := by omega
    clear xv hX hXk hXb
    go_upto_region 10 with fail
    go_loopg [14, 15] 1 (fun m p j wr => ∃ q : Nat, ((q = 0 ∧ p = .int .i64 1 ∧ j = .int .i64 0) ∨ (q = 1 ∧ p = .int .i64 X ∧ j = .int .i64 1)) ∧ m = 1 - q ∧ Hp w.heap.size w wr [.blk w.heap.size 75 #[.slice none 0 0, .slice none 0 0], .ints (.slice Aa 5 ca) AX, .ints (.slice As S'.length cs) S', .blk g11 75 #[.slice As S'.length cs, .slice (some ⟨gv, 0, none⟩) M M], .ints (.slice (some ⟨gv, 0, none⟩) M M) (V k), .ints (.slice A7 5 c7) (idx k)])
    case atStart => exact ⟨0, .inl ⟨rfl, rfl, rfl⟩, rfl, H7.out⟩
    case round =>
      obtain ⟨q, hq, rfl, H⟩ := hrel
      clear H7
      have HH := hid H
      clear H
      rcases hq with ⟨rfl, rfl, rfl⟩ | ⟨rfl, rfl, rfl⟩
      · have x0 := (HH.out.below.cell (p := ⟨b, off, none⟩) hbl).trans X0.out
        have x1 := (HH.out.below.cell (p := ⟨b, off + 1, none⟩) hbl).trans X1.out
        have y0 := (HH.out.below.cell (p := ⟨bl, ol, none⟩) hbll).trans Y0.out
        have xv := (HH.out.below.cell (p := ⟨bv, ov + k, none⟩) hbv).trans XV.out
        have hu := HU3.out.ext HH.out.below
        have hs := HS1.out.ext HH.out.below
        have hix := HH.out.ints 5 rfl
        have HPK := hid (fun x : ExtW wr => picked_any (.slice A7 5 c7) (.slice A3 sh.length c3) (idx k) U x.v (hix.ext x.h).ints (hu.ext x.h) (by rw [HIL.out]; exact HUB.out) (by rw [HUL.out]; omega))
        rw [HI1.out] at HPK
        have HRR := hid (fun x : ExtW wr => hs.ext x.h)
        have hrk := hid (HR1.out k hlt)
        clear hu hs hix
        go_upto_region 12 with fail
        have qx0 := fun x : ExtW wr => (x.h.cell (p := ⟨b, off, none⟩) (World.block_lt_of_cell? _ _ x0)).trans x0
        have qx1 := fun x : ExtW wr => (x.h.cell (p := ⟨b, off + 1, none⟩) (World.block_lt_of_cell? _ _ x1)).trans x1
        have qy0 := fun x : ExtW wr => (x.h.cell (p := ⟨bl, ol, none⟩) (World.block_lt_of_cell? _ _ y0)).trans y0
        have qxv := fun x : ExtW wr => (x.h.cell (p := ⟨bv, ov + k, none⟩) (World.block_lt_of_cell? _ _ xv)).trans xv
        refine region_mk 21 (by kernel_rfl) (by kernel_rfl) ?_
        apply Exists.intro
        simp only [List.take_succ_cons, List.take_zero, List.drop_succ_cons, List.drop_zero]
        repeat (first
          | (apply grow_val (by rfl); (focus (intro x; (go_simp; try with_reducible rfl); done)); simp only [Act.put, List.setIfInBounds_toArray, List.set_cons_zero, List.set_cons_succ])
          | (apply grow_skip (by rfl); simp only [Act.put, List.setIfInBounds_toArray, List.set_cons_zero, List.set_cons_succ]))
        apply grow_ints (I1 k) (by rfl)
        · intro x hF K Q hK
          go_simp
          go_at_call 167;(with_reducible refine (HPK.out x).mono ?_);rintro e w' ⟨v1, rfl, ho, hb⟩;exact hK _ _ hb ho
        intro A16 c16 F16 O16 hF16 hO16
        simp only [Act.put, List.setIfInBounds_toArray, List.set_cons_zero, List.set_cons_succ]
        repeat (first
          | (apply grow_val (by rfl); (focus (intro x; (go_simp; try with_reducible rfl); done)); simp only [Act.put, List.setIfInBounds_toArray, List.set_cons_zero, List.set_cons_succ])
          | (apply grow_skip (by rfl); simp only [Act.put, List.setIfInBounds_toArray, List.set_cons_zero, List.set_cons_succ]))
        apply grow_callG (by rfl)
        · intro x hF K Q hK
          have h16 := hF16 _ (hF 16 (by kernel_rfl))
          go_simp
          refine (rank_any _ _ sh (I1 k) _ (HRR.out x) h16.ints (HL1.out k)).mono ?_
          rintro e w' ⟨rfl, hb⟩
          rw [hrk.out]
          exact hK _ hb
        simp only [Act.put, List.setIfInBounds_toArray, List.set_cons_zero, List.set_cons_succ]
        repeat (first
          | (apply grow_val (by rfl); (focus (intro x; (go_simp; try with_reducible rfl); done)); simp only [Act.put, List.setIfInBounds_toArray, List.set_cons_zero, List.set_cons_succ])
          | (apply grow_skip (by rfl); simp only [Act.put, List.setIfInBounds_toArray, List.set_cons_zero, List.set_cons_succ]))
        refine grow_nil ?_
        rintro ⟨w8, hb8⟩ hF hS
        have hb8 : Below wr.heap.size wr w8 := hb8
        have H8 := hid (HH.out.nx hb8)
        clear hF hS hF16 hO16 qx0 qx1 qy0 qxv x0 x1 y0 xv hb8 HH
        go_wp2
        go_roundg 0
        case measure => omega
        case rel => exact ⟨1, .inr ⟨rfl, rfl, rfl⟩, rfl, H8.out⟩
      · have ho := HOO.out.ext HH.out.below
        have hix := HH.out.ints 5 rfl
        have hsp := HH.out.ints 2 rfl
        have hbx := HH.out.blk 3 rfl
        have HPK := hid (fun x : ExtW wr => picked_any (.slice A7 5 c7) (.slice Ao O.length co) (idx k) O x.v (hix.ext x.h).ints (ho.ext x.h) (by rw [HIL.out]; exact HOB.out) (by have := HOL.out; omega))
        rw [HI2.out] at HPK
        have HRR := hid (fun x : ExtW wr => (hsp.ext x.h).ints)
        obtain ⟨a, ha⟩ : ∃ a, at_ k = a := ⟨_, rfl⟩
        have hr2 := HR2.out k hlt
        have hvs := HVS.out k
        rw [ha] at hr2 hvs
        rw [HVX.out] at hvs
        have hrk := hid hr2.1
        have ham : a < M := hr2.2
        have HVSK := hid hvs
        clear ho hix hsp ha hr2 hvs
        go_upto_region 13 with fail
        have qz := fun x : ExtW wr => (x.at_ hbx).all2.1
        refine region_mk 6 (by kernel_rfl) (by kernel_rfl) ?_
        apply Exists.intro
        simp only [List.take_succ_cons, List.take_zero, List.drop_succ_cons, List.drop_zero]
        repeat (first
          | (apply grow_val (by rfl); (focus (intro x; (go_simp; try with_reducible rfl); done)); simp only [Act.put, List.setIfInBounds_toArray, List.set_cons_zero, List.set_cons_succ])
          | (apply grow_skip (by rfl); simp only [Act.put, List.setIfInBounds_toArray, List.set_cons_zero, List.set_cons_succ]))
        apply grow_ints (I2 k) (by rfl)
        · intro x hF K Q hK
          go_simp
          go_at_call 167;(with_reducible refine (HPK.out x).mono ?_);rintro e w' ⟨v1, rfl, ho, hb⟩;exact hK _ _ hb ho
        intro A4 c4 F4 O4 hF4 hO4
        simp only [Act.put, List.setIfInBounds_toArray, List.set_cons_zero, List.set_cons_succ]
        repeat (first
          | (apply grow_val (by rfl); (focus (intro x; (go_simp; try with_reducible rfl); done)); simp only [Act.put, List.setIfInBounds_toArray, List.set_cons_zero, List.set_cons_succ])
          | (apply grow_skip (by rfl); simp only [Act.put, List.setIfInBounds_toArray, List.set_cons_zero, List.set_cons_succ]))
        apply grow_callG (by rfl)
        · intro x hF K Q hK
          have h4 := hF4 _ (hF 4 (by kernel_rfl))
          go_simp
          refine (rank_any _ _ S' (I2 k) _ (HRR.out x) h4.ints (HL2.out k)).mono ?_
          rintro e w' ⟨rfl, hb⟩
          rw [hrk.out]
          exact hK _ hb
        simp only [Act.put, List.setIfInBounds_toArray, List.set_cons_zero, List.set_cons_succ]
        refine grow_nil ?_
        rintro ⟨w8, hb8⟩ hF hS
        have hb8 : Below wr.heap.size wr w8 := hb8
        have H8 := hid (HH.out.nx hb8)
        clear hF hS hF4 hO4 qz hb8 HH HPK HRR hbx
        go_upto_region 14 with fail
        have hbx := H8.out.blk 3 rfl
        obtain ⟨y, hy⟩ : ∃ y, (V k).getD a 0 = y := ⟨_, rfl⟩
        have hak : a < (V k).length := by rw [HVL.out]; exact ham
        have hyc : w8.cell? ⟨gv, a, none⟩ = some (.int .i64 y) := by
          rw [(H8.out.ints 4 rfl).cell a hak, ← hy]; simp [hak]
        have hva := HVSK.out
        rw [hy] at hva
        have HVA := hid hva
        have hai : (a : Int) < (M : Int) := by omega
        have ha0 : (0 : Int) ≤ (a : Int) := by omega
        clear hy hak hva
        have qz := fun x : ExtW w8 => (x.at_ hbx).all2.1
        have qy := fun x : ExtW w8 => (x.h.cell (p := ⟨gv, a, none⟩) (World.block_lt_of_cell? _ _ hyc)).trans hyc
        refine region_mk 11 (by kernel_rfl) (by kernel_rfl) ?_
        apply Exists.intro
        simp only [List.take_succ_cons, List.take_zero, List.drop_succ_cons, List.drop_zero]
        repeat (first
          | (apply grow_val (by rfl); (focus (intro x; (go_simp; try with_reducible rfl); done)); simp only [Act.put, List.setIfInBounds_toArray, List.set_cons_zero, List.set_cons_succ])
          | (apply grow_skip (by rfl); simp only [Act.put, List.setIfInBounds_toArray, List.set_cons_zero, List.set_cons_succ]))
        refine grow_nil ?_
        rintro ⟨w9, hb9⟩ hF hS
        have hb9 : Below w8.heap.size w8 w9 := hb9
        have H9 := hid (H8.out.nx hb9)
        clear hF hS qz qy hb9 H8 hbx
        have hyc := (H9.out.ints 4 rfl).cell a (by rw [HVL.out]; exact ham)
        have hyf := (H9.out.ints 4 rfl).free a
        have H10 := H9.out.put 4 rfl a (wrap64 (y + X))
        rw [← HVA.out] at H10
        have H11 := hid (H10.pick [0, 1, 2, 3, 4] (by decide))
        have HFIN : Hid (Hp w.heap.size w (w9.setCell ⟨gv, a, none⟩ (.int .i64 (wrap64 (y + X)))) [.blk w.heap.size 75 #[.slice none 0 0, .slice none 0 0], .ints (.slice Aa 5 ca) AX, .ints (.slice As S'.length cs) S', .blk g11 75 #[.slice As S'.length cs, .slice (some ⟨gv, 0, none⟩) M M], .ints (.slice (some ⟨gv, 0, none⟩) M M) (V (k + 1))]) := H11
        have hwk : IntKind.i64.wrap ((k : Int) + 1) = (k : Int) + 1 := IntWalk.i64_in _ (by omega)
        clear H10 H11
        go_wp2
        go_roundg (vals.length - (k + 1))
        case measure => omega
        case rel => exact ⟨k + 1, by omega, rfl, by congr 1, HFIN.out⟩

set_option maxRecDepth 100000 in
set_option maxHeartbeats 6400000 in
theorem contracted_any (v vl vo ve : Value) (T : TL) (d : Nat) (w : World) (hv : TensorsV w v [T]) (hl : IntsS w vl [upI T.shape.length]) (ho : Ints w vo ((upI T.shape.length).eraseIdx d)) (he : Ints w ve (extS T.shape))
    (hT : isTensorL T = true) (hS : isShapeL (sdS T d) = true) :
    Calls Try.prog 180 #[v, vl, vo, ve] w (RetTensor w (sdT T d)) := by
  have hs4 := (shape_ext (isTensorL_and hT).1).1
  have hE5 := extS_len hs4
  have hOl : ((upI T.shape.length).eraseIdx d).length ≤ 4 := Nat.le_trans (List.length_eraseIdx_le _ _) (by rw [upI_length]; exact hs4)
  have hPX : spX (extS T.shape) = T.shape ++ List.replicate (5 - T.shape.length) 1 := spX_ext (isTensorL_and hT).1
  have hXl : (spX (extS T.shape)).length = 5 := by simp [spX, hE5]
  have hXB : ∀ x ∈ spX (extS T.shape), 0 < T.values.length → 1 ≤ x ∧ x ≤ 60 := fun x hx hn => by
    rw [hPX] at hx
    rcases List.mem_append.1 hx with hx | hx
    · exact (unr_in hT hn).2.1 x hx
    · rw [(List.mem_replicate.1 hx).2]; omega
  have hpN : prodW (spX (extS T.shape)) = (T.values.length : Int) := by
    rw [hPX, prodW_ones (isTensorL_and hT).1, (isTensorL_and hT).2.1, (shape_prod (isTensorL_and hT).1).1]
  have hN60 : T.values.length ≤ 60 := by
    have a := shape_prod (isTensorL_and hT).1
    have b := (isTensorL_and hT).2.1
    rw [a.1] at b
    omega
  have hPO : takenL (extS T.shape) ((upI T.shape.length).eraseIdx d) = sdS T d := by rw [taken_erase (by omega), extS_take]; rfl
  have hIU : ∀ k : Nat, takenL (unr (spX (extS T.shape)) k) (upI T.shape.length) = unr T.shape k := fun k => by rw [taken_up (by rw [unr_length]; omega), hPX, unr_ones]
  have hIO : ∀ k : Nat, takenL (unr (spX (extS T.shape)) k) ((upI T.shape.length).eraseIdx d) = sdI T d k := fun k => by rw [taken_erase (by rw [unr_length]; omega), hPX, unr_ones]; rfl
  obtain ⟨M, hM, hM60⟩ : ∃ M : Nat, prodW (sdS T d) = (M : Int) ∧ M ≤ 60 := by
    have := shape_prod hS
    exact ⟨(prodI (sdS T d)).toNat, by rw [this.1]; omega, by omega⟩
  refine contracted_core v vl vo ve T.shape T.values (upI T.shape.length) ((upI T.shape.length).eraseIdx d) (extS T.shape) (spX (extS T.shape)) (sdS T d) (fun k => unr (spX (extS T.shape)) k) (fun k => unr T.shape k) (fun k => sdI T d k) (sdV T d) (sdAt T d) M w hv hl ho he
    (hid hE5) (hid (upI_length _)) (hid hOl) hs4 (hid rfl) (hid hXl) (hid hpN) hN60 (hid hXB) (hid hPO) (hid fun _ => rfl) (hid fun k => by rw [unr_length]; exact hXl) (hid hIU) (hid hIO) (hid fun k => (unr_length _ _).symm)
    (hid fun k => by simp only [sdS, sdI, List.length_eraseIdx, unr_length]) (hid fun i hi => ?_) (hid fun i hi => ?_) (hid fun k hk => rank_unr hT hk) (hid fun k hk => ?_) (hid hM) hM60 (hid ?_) (hid fun k => ?_) (hid (isTensorL_and hT).2.2) (hid fun k => rfl)
  · have := upI_in' i hi
    omega
  · have := upI_in i hi
    omega
  · have h := sdAt_in hT hS hk
    exact ⟨h.1, by have := h.2.1; omega⟩
  · show List.replicate (prodW (sdS T d)).toNat 0 = _
    rw [hM]; rfl
  · rw [sdV_len, hM]; rfl

end Go.Proofs.Ytldblcolnjkcaaa
