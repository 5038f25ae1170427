/- Contracts: DropOnes, both. No conditions. -/
import Derived.Test.YtpcahfdpbbcapaaV7
import Derived.Test.YtpcahfdpbbcapaaD2
import Derived.Deep.RegionLaw
import Derived.Deep.LoopGhost
import Derived.Deep.CutRange
import Derived.Outline
namespace Go.Proofs.Ytpcahfdpbbcapaa
open Go.RowKit

def keepUp (shape : List Int) (k : Nat) : List Nat := (List.range k).filter fun i => shape.getD i 0 != 1
theorem keepUp_yes {shape : List Int} {k : Nat} (h : k < shape.length) (h1 : shape[k] ≠ 1) : keepUp shape (k + 1) = keepUp shape k ++ [k] := by
  simp [keepUp, List.range_succ, List.filter_append, h, h1]
theorem keepUp_no {shape : List Int} {k : Nat} (h : k < shape.length) (h1 : shape[k] = 1) : keepUp shape (k + 1) = keepUp shape k := by
  simp [keepUp, List.range_succ, List.filter_append, h, h1]
theorem keepUp_len (shape : List Int) (k : Nat) : (keepUp shape k).length ≤ k := by
  unfold keepUp
  have := List.length_filter_le (fun i => shape.getD i 0 != 1) (List.range k)
  simpa using this
def dropV (V : VL) (k : Nat) : VL := ⟨V.base, pickN V.shape (keepUp V.shape k), pickN V.strides (keepUp V.shape k)⟩
def dropL (V : VL) : VL := if isViewL V then dropV V V.shape.length else VL.zero
theorem dropL_len (V : VL) : (dropL V).shape.length ≤ 60 ∧ (dropL V).strides.length ≤ 60 := by
  unfold dropL
  split
  · rename_i h
    have := (isViewL_lens h).1
    have := keepUp_len V.shape V.shape.length
    simp [dropV, pickN_length]; omega
  · simp [VL.zero]
/-- What a round of either function does to what is collected. -/
theorem dropV_yes {V : VL} {k : Nat} (h : k < V.shape.length) (ht : k < V.strides.length) (h1 : V.shape[k] ≠ 1) :
    (dropV V (k + 1)).shape = (dropV V k).shape ++ [V.shape[k]] ∧ (dropV V (k + 1)).strides = (dropV V k).strides ++ [V.strides[k]] := by
  simp only [dropV, keepUp_yes h h1]
  exact ⟨pickN_snoc _ _ _ h, pickN_snoc _ _ _ ht⟩
theorem dropV_no {V : VL} {k : Nat} (h : k < V.shape.length) (h1 : V.shape[k] = 1) : dropV V (k + 1) = dropV V k := by
  simp only [dropV, keepUp_no h h1]
theorem dropV_len (V : VL) (k : Nat) : (dropV V k).shape.length ≤ k ∧ (dropV V k).strides.length ≤ k := by
  have := keepUp_len V.shape k
  simp [dropV, pickN_length]; omega

/-- What stands between the statements of a round. -/
def Mid (w wx : World) (B g N : Nat) (b0 : Int) (sA tA : Value) (bA : Int) (xs ys : List Int) : Prop :=
  ∃ s' t' : Value, GrowView B wx g b0 s' t' xs ys ∧ Below w.heap.size w wx ∧ Blk wx w.heap.size 36 #[.int .i64 bA, sA, tA] ∧ Blk wx (w.heap.size + 1) 36 #[.int .i64 0, .slice none 0 0, .slice none 0 0] ∧ N ≤ wx.heap.size
theorem Mid.of_s {w wr W w1 : World} {B g N : Nat} {b0 bA : Int} {sA tA sv tv s' : Value} {xs ys zs : List Int} (h : GrowView B wr g b0 sv tv xs ys) (hW : Below wr.heap.size wr W) (ho : Own w1 B s' zs) (hg : W.grownBy w1 sv.ownBlock)
    (hat : s'.ownBlock = sv.ownBlock ∨ s'.ownBlock = some W.heap.size) (h0 : Below w.heap.size w wr) (hBB : w.heap.size + 2 ≤ B) (hgB : B ≤ g) (hN : N ≤ wr.heap.size) (_hBs : B ≤ wr.heap.size)
    (hA : Blk wr w.heap.size 36 #[.int .i64 bA, sA, tA]) (hR : Blk wr (w.heap.size + 1) 36 #[.int .i64 0, .slice none 0 0, .slice none 0 0]) :
    Mid w (w1.setCell ⟨g, 1, none⟩ s') B g N b0 sA tA bA zs ys := by
  have hsz := hW.size
  have hs1 := hg.size
  have hne : ∀ j, j < B → some j ≠ sv.ownBlock := fun j hj e => by have := (h.s.lt j e.symm).1; omega
  refine ⟨s', tv, h.pushS hW ho hg hat, (Own.underB h.s hW hg (by omega) h0.size h0).setCell (by show w.heap.size ≤ g; omega) s', ?_, ?_, by simp; omega⟩
  · exact Blk.far ((hg.block _ (hA.nx hW).lt (hne _ (by omega))).trans (hA.nx hW)) (by show w.heap.size ≠ g; omega) s'
  · exact Blk.far ((hg.block _ (hR.nx hW).lt (hne _ (by omega))).trans (hR.nx hW)) (by show w.heap.size + 1 ≠ g; omega) s'
theorem Mid.of_t {w wr W w1 : World} {B g N : Nat} {b0 bA : Int} {sA tA sv tv t' : Value} {xs ys zs : List Int} (h : GrowView B wr g b0 sv tv xs ys) (hW : Below wr.heap.size wr W) (ho : Own w1 B t' zs) (hg : W.grownBy w1 tv.ownBlock)
    (hat : t'.ownBlock = tv.ownBlock ∨ t'.ownBlock = some W.heap.size) (h0 : Below w.heap.size w wr) (hBB : w.heap.size + 2 ≤ B) (hgB : B ≤ g) (hN : N ≤ wr.heap.size) (_hBs : B ≤ wr.heap.size)
    (hA : Blk wr w.heap.size 36 #[.int .i64 bA, sA, tA]) (hR : Blk wr (w.heap.size + 1) 36 #[.int .i64 0, .slice none 0 0, .slice none 0 0]) :
    Mid w (w1.setCell ⟨g, 2, none⟩ t') B g N b0 sA tA bA xs zs := by
  have hsz := hW.size
  have hs1 := hg.size
  have hne : ∀ j, j < B → some j ≠ tv.ownBlock := fun j hj e => by have := (h.t.lt j e.symm).1; omega
  refine ⟨sv, t', h.pushT hW ho hg hat, (Own.underB h.t hW hg (by omega) h0.size h0).setCell (by show w.heap.size ≤ g; omega) t', ?_, ?_, by simp; omega⟩
  · exact Blk.far ((hg.block _ (hA.nx hW).lt (hne _ (by omega))).trans (hA.nx hW)) (by show w.heap.size ≠ g; omega) t'
  · exact Blk.far ((hg.block _ (hR.nx hW).lt (hne _ (by omega))).trans (hR.nx hW)) (by show w.heap.size + 1 ≠ g; omega) t'

set_option maxRecDepth 100000 in
set_option maxHeartbeats 6400000 in
theorem sDropOnes_any (v : Value) (V : VL) (w : World) (hv : ViewV w v V) :
    Calls Try.prog 44 #[v] w (RetView w (dropL V)) := by
  have hv0 := hv
  obtain ⟨sv, tv, rfl, hsv, htv⟩ := hv
  obtain ⟨As, cs, es⟩ := hsv.form
  subst es
  obtain ⟨At, ct, et⟩ := htv.form
  subst et
  have hA := (Blk.new w 36 #[.int .i64 V.base, .slice As V.shape.length cs, .slice At V.strides.length ct]).alloc (.cells #[.int .i64 0, .slice none 0 0, .slice none 0 0] 36)
  have hR := Blk.new (w.alloc (.cells #[.int .i64 V.base, .slice As V.shape.length cs, .slice At V.strides.length ct] 36)) 36 #[.int .i64 0, .slice none 0 0, .slice none 0 0]
  have hW : Below w.heap.size w ((w.alloc (.cells #[.int .i64 V.base, .slice As V.shape.length cs, .slice At V.strides.length ct] 36)).alloc (.cells #[.int .i64 0, .slice none 0 0, .slice none 0 0] 36)) := ((Below.refl _ _).alloc (Nat.le_refl _) _).alloc (by simp) _
  simp only [World.size_alloc] at hR
  have hn0 := hA.lt
  have hn1 := hR.lt
  cases c1 : isViewL V
  · have HQ := hid (show dropL V = VL.zero by simp [dropL, c1])
    have HC1 := hid c1
    clear c1
    go_enter Try.func44, Try.ntmps44
    go_wp2_with fail
    generalize (w.alloc (.cells #[.int .i64 V.base, .slice As V.shape.length cs, .slice At V.strides.length ct] 36)).alloc (.cells #[.int .i64 0, .slice none 0 0, .slice none 0 0] 36) = W1 at *
    refine (validView_any _ V _ (hv0.ext hW)).mono ?_; rintro e w1 ⟨rfl, hb1⟩
    rw [HC1.out]
    obtain ⟨⟨r0, r1, r2⟩, rf0, rf1, rf2⟩ := (hR.nx hb1).all3
    have hD := hW.nx hb1 hW.size
    go_wp2
    refine bodyPost_ret (v := .agg #[.int .i64 0, .slice none 0 0, .slice none 0 0]) (by simp [results, Try.results44, go_sem, r0, r1, r2]) rfl ?_
    rw [HQ.out]
    exact ⟨_, _, rfl, Own.nil _ _, Own.nil _ _, Sep.none_left _, below3 hD (by omega) _ _ _⟩
  · have HQ := hid (show dropL V = dropV V V.shape.length by simp [dropL, c1])
    have HC1 := hid c1
    have hl4 := (isViewL_lens c1).1
    have HTL := hid (isViewL_and c1).2.1
    clear c1
    have hrs := hsv
    have hrt := htv
    go_enter Try.func44, Try.ntmps44
    go_wp2_with fail
    generalize (w.alloc (.cells #[.int .i64 V.base, .slice As V.shape.length cs, .slice At V.strides.length ct] 36)).alloc (.cells #[.int .i64 0, .slice none 0 0, .slice none 0 0] 36) = W1 at *
    refine (validView_any _ V _ (hv0.ext hW)).mono ?_; rintro e w1 ⟨rfl, hb1⟩
    rw [HC1.out]
    have hz1 := hb1.size
    have hD := hW.nx hb1 hW.size
    have hA1 := hA.nx hb1
    have hR1 := hR.nx hb1
    obtain ⟨⟨q0, q1, q2⟩, -⟩ := id hA1.all3
    have hL1 := Own.empty w1 (B := w1.heap.size) rfl (Nat.le_refl _)
    have hL2 : Own ((w1.alloc (.cells #[] 3)).alloc (.cells #[] 3)) w1.heap.size (.slice (some ⟨w1.heap.size + 1, 0, none⟩) 0 0) [] := Own.empty (w1.alloc (.cells #[] 3)) (by simp) (by omega)
    have hBx : Blk (((w1.alloc (.cells #[] 3)).alloc (.cells #[] 3)).alloc (.cells #[.int .i64 V.base, .slice (some ⟨w1.heap.size, 0, none⟩) 0 0, .slice (some ⟨w1.heap.size + 1, 0, none⟩) 0 0] 36)) (w1.heap.size + 2) 36 #[.int .i64 V.base, .slice (some ⟨w1.heap.size, 0, none⟩) 0 0, .slice (some ⟨w1.heap.size + 1, 0, none⟩) 0 0] := by
      have := Blk.new ((w1.alloc (.cells #[] 3)).alloc (.cells #[] 3)) 36 #[.int .i64 V.base, .slice (some ⟨w1.heap.size, 0, none⟩) 0 0, .slice (some ⟨w1.heap.size + 1, 0, none⟩) 0 0]
      simpa using this
    have hW2 : Below w1.heap.size w1 (((w1.alloc (.cells #[] 3)).alloc (.cells #[] 3)).alloc (.cells #[.int .i64 V.base, .slice (some ⟨w1.heap.size, 0, none⟩) 0 0, .slice (some ⟨w1.heap.size + 1, 0, none⟩) 0 0] 36)) := (((Below.refl _ _).alloc (Nat.le_refl _) _).alloc (by simp) _).alloc (by simp; omega) _
    have hG0 : GrowView w1.heap.size (((w1.alloc (.cells #[] 3)).alloc (.cells #[] 3)).alloc (.cells #[.int .i64 V.base, .slice (some ⟨w1.heap.size, 0, none⟩) 0 0, .slice (some ⟨w1.heap.size + 1, 0, none⟩) 0 0] 36)) (w1.heap.size + 2) V.base (.slice (some ⟨w1.heap.size, 0, none⟩) 0 0) (.slice (some ⟨w1.heap.size + 1, 0, none⟩) 0 0) (dropV V 0).shape (dropV V 0).strides :=
      ⟨hBx, (hL1.alloc _).alloc _, hL2.alloc _, fun k hk => by simp [Value.ownBlock] at hk; omega, fun k hk => by simp [Value.ownBlock] at hk; omega, fun k h1 h2 => by simp [Value.ownBlock] at h1 h2; omega⟩
    have hzW : w1.heap.size + 3 ≤ (((w1.alloc (.cells #[] 3)).alloc (.cells #[] 3)).alloc (.cells #[.int .i64 V.base, .slice (some ⟨w1.heap.size, 0, none⟩) 0 0, .slice (some ⟨w1.heap.size + 1, 0, none⟩) 0 0] 36)).heap.size := by simp
    clear hL1 hL2 hBx
    go_wp2_with fail
    generalize ((w1.alloc (.cells #[] 3)).alloc (.cells #[] 3)).alloc (.cells #[.int .i64 V.base, .slice (some ⟨w1.heap.size, 0, none⟩) 0 0, .slice (some ⟨w1.heap.size + 1, 0, none⟩) 0 0] 36) = w2 at *
    have hD2 := hD.nx hW2 hD.size
    have hA2 := hA1.nx hW2
    have hR2 := hR1.nx hW2
    clear q0 q1 q2
    obtain ⟨B, hB⟩ : ∃ B, B = w1.heap.size := ⟨_, rfl⟩
    rw [← hB] at hG0 hzW
    have hB1 : B ≤ w1.heap.size := by omega
    have hB2 : w.heap.size + 2 ≤ B := by omega
    rw [← hB]
    clear hB
    have HT0 := hid hG0
    clear hG0
    have HB2 := hid hB2
    clear hB2 hB1
    go_loopg [4] V.shape.length (fun m i wr => ∃ k : Nat, k ≤ V.shape.length ∧ m = V.shape.length - k ∧ i = .int .i64 k ∧ Mid w wr B (B + 2) (B + 3) V.base (.slice As V.shape.length cs) (.slice At V.strides.length ct) V.base (dropV V k).shape (dropV V k).strides)
    case atStart => exact ⟨0, Nat.zero_le _, rfl, rfl, _, _, HT0.out, hD2, hA2, hR2, hzW⟩
    case round =>
      obtain ⟨k, hk, hm, rfl, s', t', hG, hb, hAr, hRr, hzr⟩ := hrel
      have HM := hid hm
      clear hm
      have HZ := hid hzr
      clear hzr
      obtain ⟨⟨q0, q1, q2⟩, -⟩ := id hAr.all3
      by_cases hlt : k < V.shape.length
      · have hltt : k < V.strides.length := by have := HTL.out; omega
        obtain ⟨A', c', e', -, hm1, hr1⟩ := hsv
        simp only [Value.slice.injEq, true_and] at e'
        obtain ⟨rfl, rfl⟩ := e'
        obtain ⟨bs, os, rfl, hbs, hcs⟩ := hr1 (by omega)
        obtain ⟨A', c', e', -, hm2, hr2⟩ := htv
        simp only [Value.slice.injEq, true_and] at e'
        obtain ⟨rfl, rfl⟩ := e'
        obtain ⟨bt, ot, rfl, hbt, hct⟩ := hr2 (by omega)
        have hxs := (hb.cell (p := ⟨bs, os + k, none⟩) hbs).trans (hcs k V.shape[k] (by simp [hlt]))
        unfold maxLen at hm1 hm2
        clear hr1 hr2 hcs
        have hki : (k : Int) < (V.shape.length : Int) := by omega
        have hki2 : (k : Int) < (V.strides.length : Int) := by omega
        by_cases h1 : V.shape[k] = 1
        · have hE := hid (dropV_no hlt h1)
          have HG := hid hG
          clear hG
          go_wp2
          go_roundg (V.shape.length - (k + 1))
          case measure => have := HM.out; omega
          case rel => exact ⟨k + 1, by omega, rfl, by go_num, by rw [hE.out]; exact ⟨_, _, HG.out, hb, hAr, hRr, HZ.out⟩⟩
        · obtain ⟨hE1, hE2⟩ := dropV_yes hlt hltt h1
          have HE1 := hid hE1
          have HE2 := hid hE2
          have HLN := hid (show (dropV V k).shape.length ≤ 1000000000000 by have := dropV_len V k; omega)
          have HLM := hid (show (dropV V k).strides.length ≤ 1000000000000 by have := dropV_len V k; omega)
          clear hE1 hE2
          have hne : (V.shape[k] != 1) = true := by simpa using h1
          obtain ⟨Sa, Sc, eS⟩ := hG.s.form
          obtain ⟨Ta, Tc, eT⟩ := hG.t.form
          subst eS eT
          have hxt1 := hct k V.strides[k] (by simp [hltt])
          have HCT := hid hct
          clear hct
          have HH := hid (HB2.out)
          have hWo : Below wr.heap.size wr (wr.alloc (.cells #[.int .i64 V.shape[k]] 3)).drew := (below_lit1 wr _).drew
          have hWc : (wr.alloc (.cells #[.int .i64 V.shape[k]] 3)).drew.cell? ⟨wr.heap.size, 0, none⟩ = some (.int .i64 V.shape[k]) := cell_new1 wr _ _
          have hWB : B ≤ (wr.alloc (.cells #[.int .i64 V.shape[k]] 3)).drew.heap.size := by have := HZ.out; simp; omega
          obtain ⟨⟨g0, g1, g2⟩, -⟩ := id hG.box.all3
          obtain ⟨⟨gg0, gg1, gg2⟩, -⟩ := (hG.box.alloc (.cells #[.int .i64 V.shape[k]] 3)).all3
          obtain ⟨⟨qq0, qq1, qq2⟩, -⟩ := (hAr.alloc (.cells #[.int .i64 V.shape[k]] 3)).all3
          have hxs' : (wr.alloc (.cells #[.int .i64 V.shape[k]] 3)).cell? ⟨bs, os + k, none⟩ = some (.int .i64 V.shape[k]) := ((hb.nx (below_alloc wr _) hb.size).cell (p := ⟨bs, os + k, none⟩) hbs).trans (by have := hb.cell (p := ⟨bs, os + k, none⟩) hbs; rw [← this]; exact hxs)
          go_upto_region 8 with fail
          go_cut [4] from 14 to 46 (fun v4 wx => v4 = .int .i64 k ∧ Mid w wx B (B + 2) (B + 3) V.base (.slice (some ⟨bs, os, none⟩) V.shape.length cs) (.slice (some ⟨bt, ot, none⟩) V.strides.length ct) V.base ((dropV V k).shape ++ [V.shape[k]]) (dropV V k).strides)
          case first =>
            go_region_law (refine step1 _ (by rfl) _ _ (by rfl) B _ _ (by rfl) (hG.s.nx hWo) ⟨wr.heap.size, 0, none⟩ 1 V.shape[k] (by rfl) hWc HLN.out hWB ?_; intro s1 w1 ho1 hg1 hat1; have hB1 := hG.boxS hWo hg1; obtain ⟨⟨b0, b1, b2⟩, bf0, bf1, bf2⟩ := id hB1.all3; obtain ⟨As1, cs1, es1⟩ := ho1.form; subst es1)
            all_goals (go_wp2_with fail; go_meet; simp only [List.length_append, List.length_cons, List.length_nil, Nat.zero_add] at ho1 hat1; exact ⟨rfl, Mid.of_s hG hWo ho1 hg1 hat1 hb HH.out (by omega) HZ.out (by have := HZ.out; omega) hAr hRr⟩)
          case rest =>
            obtain ⟨rfl, s2, t2, hG, hb, hAr, hRr, hzr⟩ := hcut
            clear hxs' hWc hWB hWo
            obtain ⟨Sa2, Sc2, eS⟩ := hG.s.form
            obtain ⟨Ta2, Tc2, eT⟩ := hG.t.form
            subst eS eT
            have HZ2 := hid hzr
            clear hzr
            have hxt := (hb.cell (p := ⟨bt, ot + k, none⟩) hbt).trans hxt1
            have hWo : Below wc.heap.size wc (wc.alloc (.cells #[.int .i64 V.strides[k]] 3)).drew := (below_lit1 wc _).drew
            have hWc : (wc.alloc (.cells #[.int .i64 V.strides[k]] 3)).drew.cell? ⟨wc.heap.size, 0, none⟩ = some (.int .i64 V.strides[k]) := cell_new1 wc _ _
            have hWB : B ≤ (wc.alloc (.cells #[.int .i64 V.strides[k]] 3)).drew.heap.size := by have := HZ2.out; simp; omega
            obtain ⟨⟨q0, q1, q2⟩, -⟩ := id hAr.all3
            obtain ⟨⟨g0, g1, g2⟩, -⟩ := id hG.box.all3
            obtain ⟨⟨gg0, gg1, gg2⟩, -⟩ := (hG.box.alloc (.cells #[.int .i64 V.strides[k]] 3)).all3
            obtain ⟨⟨qq0, qq1, qq2⟩, -⟩ := (hAr.alloc (.cells #[.int .i64 V.strides[k]] 3)).all3
            have hxt' : (wc.alloc (.cells #[.int .i64 V.strides[k]] 3)).cell? ⟨bt, ot + k, none⟩ = some (.int .i64 V.strides[k]) := ((hb.nx (below_alloc wc _) hb.size).cell (p := ⟨bt, ot + k, none⟩) hbt).trans (by have := hb.cell (p := ⟨bt, ot + k, none⟩) hbt; rw [← this]; exact hxt)
            go_upto_region 9 with fail
            go_region_law (refine step1 _ (by rfl) _ _ (by rfl) B _ _ (by rfl) (hG.t.nx hWo) ⟨wc.heap.size, 0, none⟩ 1 V.strides[k] (by rfl) hWc HLM.out hWB ?_; intro s1 w1 ho1 hg1 hat1; have hB1 := hG.boxT hWo hg1; obtain ⟨⟨b0, b1, b2⟩, bf0, bf1, bf2⟩ := id hB1.all3; obtain ⟨As1, cs1, es1⟩ := ho1.form; subst es1)
            all_goals
              have hM := Mid.of_t (N := B + 3) hG hWo ho1 hg1 hat1 hb HH.out (by omega) HZ2.out (by have := HZ2.out; omega) hAr hRr
              have HMM := hid hM
              clear hM hWc hWB hWo hxt' ho1 hat1 hB1 b0 b1 b2 bf0 bf1 bf2
              go_wp2_with fail
              go_roundg (V.shape.length - (k + 1))
              case measure => have := HM.out; omega
              case rel => exact ⟨k + 1, by omega, rfl, by go_num, by rw [HE1.out, HE2.out]; simpa using HMM.out⟩
      · have hkl : k = V.shape.length := by omega
        subst hkl
        obtain ⟨Sa, Sc, eS⟩ := hG.s.form
        obtain ⟨Ta, Tc, eT⟩ := hG.t.form
        subst eS eT
        obtain ⟨⟨g0, g1, g2⟩, gf0, gf1, gf2⟩ := id hG.box.all3
        obtain ⟨⟨r0, r1, r2⟩, rf0, rf1, rf2⟩ := id hRr.all3
        have HG := hid hG
        clear hG
        have hBn := HB2.out
        go_wp2
        refine bodyPost_ret (v := .agg #[.int .i64 V.base, .slice Sa (dropV V V.shape.length).shape.length Sc, .slice Ta (dropV V V.shape.length).strides.length Tc]) (by simp [results, Try.results44, go_sem, r0, r1, r2]) rfl ?_
        rw [HQ.out]
        exact ⟨_, _, rfl, (own3b HG.out.s (show w.heap.size + 1 < B by omega) _ _ _).mono (by omega), (own3b HG.out.t (show w.heap.size + 1 < B by omega) _ _ _).mono (by omega), HG.out.sep, below3 hb (by omega) _ _ _⟩

end Go.Proofs.Ytpcahfdpbbcapaa
