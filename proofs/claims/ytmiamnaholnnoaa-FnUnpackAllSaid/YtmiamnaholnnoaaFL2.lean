/- Contract: a drawn format with the bytes of items. No conditions. -/
import Derived.Test.YtmiamnaholnnoaaFJ1
namespace Go.Proofs.Ytmiamnaholnnoaa
open Go.RowKit

/-- The same, and the numbers lie in blocks of the draw's own. -/
def RetDrawFN (w : World) (m : Nat) (e : Ending) (w' : World) : Prop := ∃ (F : FL) (sv vv : Value) (vs : List Int), e = .returned (.tuple #[.agg #[sv, .bool F.big, .bool F.aligned], vv]) ∧ F.sizes.length ≤ 5 ∧
  Ints w' sv F.sizes ∧ Ints w' vv vs ∧ vs.length ≤ m ∧ (∀ k, sv.ownBlock = some k ∨ vv.ownBlock = some k → w.heap.size ≤ k) ∧ Below w.heap.size w w'
theorem four4 (r : Nat) (hr : r < [(2 : Int), 3, 1, 0].length) : ∃ y : Nat, [(2 : Int), 3, 1, 0][r] = (y : Int) ∧ y ≤ 3 := by
  match r, hr with
  | 0, _ => exact ⟨2, rfl, by omega⟩
  | 1, _ => exact ⟨3, rfl, by omega⟩
  | 2, _ => exact ⟨1, rfl, by omega⟩
  | 3, _ => exact ⟨0, rfl, by omega⟩
set_option maxRecDepth 100000 in
set_option maxHeartbeats 6400000 in
theorem DrawUnpackAll_any (v : Value) (n : Nat) (w : World) (h : BytesV w v n) :
    Calls Try.prog 30 #[v] w (RetDrawFN w 120) := by
  have hb0 := below_alloc w (.cells #[.slice none 0 0, .bool false, .bool false] 25)
  have hZ := Blk.new w 25 #[.slice none 0 0, .bool false, .bool false]
  have h1 := h.ext hb0
  have hz0 : w.heap.size + 1 ≤ (w.alloc (.cells #[.slice none 0 0, .bool false, .bool false] 25)).heap.size := by simp
  go_enter Try.func30, Try.ntmps30
  go_wp2_with fail
  generalize (w.alloc (.cells #[.slice none 0 0, .bool false, .bool false] 25)) = w0 at *
  refine (newReader_any _ n _ h1).mono ?_; rintro e w1 ⟨rfl, hR, hb1, hlt⟩
  go_wp2_with fail
  refine (someFormat_any _ _ _ _ hR (by omega)).mono ?_; rintro e w2 ⟨F, sv, q, rfl, hl, hx, hO, hq, hR2, hG2⟩
  have hz1 := hb1.size
  have hz2 := hG2.size
  have hZ2 := (hZ.nx hb1).grown hG2 (by omega)
  have hB2 : Below w.heap.size w w2 := (hb0.nx hb1 hb0.size).trans (Own.below hG2 (by omega) (fun k e => by injection e with e; omega))
  obtain ⟨A, c, rfl⟩ := hO.form
  have hS2 : IntsN w0.heap.size w2 (.slice A F.sizes.length c) F.sizes := IntsN.of_own hO (by omega)
  have hb3 := below_alloc w2 (.cells #[.slice A F.sizes.length c, .bool F.big, .bool F.aligned] 25)
  have hX := Blk.new w2 25 #[.slice A F.sizes.length c, .bool F.big, .bool F.aligned]
  have hz3 : w2.heap.size + 1 ≤ (w2.alloc (.cells #[.slice A F.sizes.length c, .bool F.big, .bool F.aligned] 25)).heap.size := by simp
  have HR3 := hid (hR2.nx hb3)
  have HZ3 := hid (hZ2.nx hb3)
  have HS3 := hid (hS2.nx hb3)
  have HB3 := hid (hB2.nx hb3 hB2.size)
  have hsb : ∀ k, (Value.slice A F.sizes.length c).ownBlock = some k → w.heap.size < k := fun k e => by have := (hO.lt k e).1; omega
  have HSB := hid hsb
  clear hZ hZ2 hb0 hb1 hG2 hR2 hB2 hO hx hS2 hb3 hR h1 hsb
  have HL := hid hl
  clear hl
  go_upto_region 3 with fail
  generalize (w2.alloc (.cells #[.slice A F.sizes.length c, .bool F.big, .bool F.aligned] 25)) = w3 at *
  obtain ⟨⟨p0, p1, p2⟩, pf0, pf1, pf2⟩ := HZ3.out.all3
  obtain ⟨⟨q0, q1, q2⟩, -⟩ := id hX.all3
  have HRa := hid (HR3.out.nx (below_drew w3))
  have HZa := hid (HZ3.out.nx (below_drew w3))
  have HXa := hid (hX.nx (below_drew w3))
  have HSa := hid (HS3.out.nx (below_drew w3))
  have hL4 : Own (w3.alloc (.cells #[.int .i64 2, .int .i64 3, .int .i64 1, .int .i64 0] 3)).drew w3.heap.size (.slice (some ⟨w3.heap.size, 0, none⟩) 4 4) [2, 3, 1, 0] := (own_lit w3 [2, 3, 1, 0] (by simp)).drew
  have hbl := (below_alloc w3 (.cells #[.int .i64 2, .int .i64 3, .int .i64 1, .int .i64 0] 3)).drew
  have HBl := hid (HB3.out.nx hbl HB3.out.size)
  have HRl := hid (HR3.out.nx hbl)
  have HZl := hid (HZ3.out.nx hbl)
  have HXl := hid (hX.nx hbl)
  have HSl := hid (HS3.out.nx hbl)
  obtain ⟨⟨l0, l1, l2⟩, -⟩ := id HXl.out.all3
  have HL4 := hid hL4
  have hne : ∀ i, (Value.slice (some ⟨w3.heap.size, 0, none⟩) 4 4).ownBlock = some i → i ≠ w0.heap.size := fun i e => by simp [Value.ownBlock] at e; omega
  have HNE := hid hne
  clear hbl hL4 hne
  go_region_law (first
    | (rw [if_pos (wanted_of (by rfl))]; go_simp; go_at_call 57; refine (one_any _ _ q _ _ _ _ HRl.out (by omega) HL4.out (by simp) HNE.out).mono ?_; rintro e w4 ⟨r, hr, rfl, hR4, hG4⟩
       obtain ⟨many, hm, hm3⟩ := four4 r hr
       rw [hm]
       have HB4 := hid (HBl.out.trans (Own.below hG4 HBl.out.size (fun k e => by injection e with e; omega)))
       have HZ4 := hid (HZl.out.grown hG4 (by omega)); have HX4 := hid (HXl.out.grown hG4 (by omega)); have HS4 := hid (HSl.out.grown hG4); have HR4 := hid hR4
       obtain ⟨⟨x0, x1, x2⟩, -⟩ := id HX4.out.all3
       have HG4 := hid hG4.size
       clear hG4 hR4 hm
       go_simp)
    | (rw [if_pos (wanted_of (by rfl))]; go_simp; go_at_call 53; refine (someBytes_any _ _ (q + 1) many _ F w4 HR4.out (by omega) HS4.out hm3).mono ?_; rintro e w5 ⟨u, xs, q5, rfl, hl5, hI5, hb5, hq5, hR5, hG5⟩
       have HZ5 := hid (HZ4.out.grown hG5 (by omega)); obtain ⟨⟨s0, s1, s2⟩, sf0, sf1, sf2⟩ := id HZ5.out.all3; obtain ⟨⟨y0, y1, y2⟩, -⟩ := (HX4.out.grown hG5 (by omega)).all3
       have HB5 := hid (HB4.out.trans (Own.below hG5 HB4.out.size (fun k e => by injection e with e; omega)))
       have HI5 := hid hI5; have HS5 := hid (HS4.out.grown hG5); have HR5 := hid hb5
       clear hG5 hI5 hR5 hb5
       go_simp))
  all_goals
    obtain ⟨⟨t0, t1, t2⟩, -⟩ := (HZ5.out.store3 (.slice A F.sizes.length c) (.bool F.big) (.bool F.aligned)).all3
    clear p0 p1 p2 pf0 pf1 pf2 q0 q1 q2 s0 s1 s2 sf0 sf1 sf2 x0 x1 x2 y0 y1 y2 l0 l1 l2 hX
    go_wp2
    refine bodyPost_ret (v := .tuple #[.agg #[.slice A F.sizes.length c, .bool F.big, .bool F.aligned], u]) (by simp [results, Try.results30, go_sem, t0, t1, t2]) rfl ?_
    have hg4 : w3.heap.size + 1 ≤ w4.heap.size := by simpa using HG4.out
    have hub : ∀ k, u.ownBlock = some k → w.heap.size < k := fun k e => by have := HR5.out k e; omega
    exact ⟨F, _, u, xs, rfl, HL.out, ints3 HS5.out.1 (fun k e => by have := HSB.out k e; omega) _ _ _, ints3 HI5.out.1 (fun k e => by have := hub k e; omega) _ _ _, hl5, fun k e => e.elim (fun e => Nat.le_of_lt (HSB.out k e)) (fun e => Nat.le_of_lt (hub k e)), below3 HB5.out (Nat.le_refl _) _ _ _⟩

set_option maxRecDepth 100000 in
set_option maxHeartbeats 6400000 in
theorem DrawSwapBytes_any (v : Value) (n : Nat) (w : World) (h : BytesV w v n) :
    Calls Try.prog 34 #[v] w (RetDrawFN w 120) := by
  have hb0 := below_alloc w (.cells #[.slice none 0 0, .bool false, .bool false] 25)
  have hZ := Blk.new w 25 #[.slice none 0 0, .bool false, .bool false]
  have h1 := h.ext hb0
  have hz0 : w.heap.size + 1 ≤ (w.alloc (.cells #[.slice none 0 0, .bool false, .bool false] 25)).heap.size := by simp
  go_enter Try.func34, Try.ntmps34
  go_wp2_with fail
  generalize (w.alloc (.cells #[.slice none 0 0, .bool false, .bool false] 25)) = w0 at *
  refine (DrawUnpackAll_any _ n _ h1).mono ?_; rintro e w1 ⟨F, sv, vv, vs, rfl, hl, hS, hV, hvl, hfar, hb1⟩
  obtain ⟨A, c, rfl⟩ := hS.form
  have hZ1 := hZ.nx hb1
  have HB := hid (hb0.nx hb1 hb0.size)
  have HF := hid (show ∀ k, (Value.slice A F.sizes.length c).ownBlock = some k ∨ vv.ownBlock = some k → w.heap.size < k from fun k e => by have := hfar k e; omega)
  have HS := hid hS
  have HV := hid hV
  have HL := hid (And.intro hl hvl)
  clear hb0 hb1 hfar hS hV hl hvl hZ
  obtain ⟨⟨s0, s1, s2⟩, sf0, sf1, sf2⟩ := id hZ1.all3
  obtain ⟨⟨t0, t1, t2⟩, -⟩ := (hZ1.store3 (.slice A F.sizes.length c) (.bool F.big) (.bool F.aligned)).all3
  clear hZ1
  go_wp2
  refine bodyPost_ret (v := .tuple #[.agg #[.slice A F.sizes.length c, .bool F.big, .bool F.aligned], vv]) (by simp [results, Try.results34, go_sem, t0, t1, t2]) rfl ?_
  exact ⟨F, _, vv, vs, rfl, HL.out.1, ints3 HS.out (fun k e => by have := HF.out k (.inl e); omega) _ _ _, ints3 HV.out (fun k e => by have := HF.out k (.inr e); omega) _ _ _, HL.out.2, fun k e => Nat.le_of_lt (HF.out k e), below3 HB.out (Nat.le_refl _) _ _ _⟩

end Go.Proofs.Ytmiamnaholnnoaa
