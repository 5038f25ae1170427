/- Contracts: drawn slices. No conditions. -/
import Derived.Test.YtldblcolnjkcaaaDD
import Derived.Test.YtldblcolnjkcaaaY5
import Derived.Deep.DeepCutAuto
import Derived.Deep.Cut
import Derived.Deep.LoopGhost
namespace Go.Proofs.Ytldblcolnjkcaaa
open Go.RowKit

/-- What stands while a struct is drawn: the reader, the result's box (at w's end), the struct's box t. -/
def DBox (N g : Nat) (w : World) (T : TypeId) (z : Array Value) (t : Nat) (wx : World) (q : Nat) (cs : Array Value) : Prop :=
  (g < w.heap.size ∧ w.heap.size < t) ∧ Rd N wx g q ∧ w.grownBy wx (some g) ∧ Blk wx w.heap.size T z ∧ Blk wx t T cs
/-- The same, ahead of the struct's box. -/
def DRes (N g : Nat) (w : World) (T : TypeId) (z : Array Value) (wx : World) (q : Nat) : Prop :=
  g < w.heap.size ∧ Rd N wx g q ∧ w.grownBy wx (some g) ∧ Blk wx w.heap.size T z
section
variable {N g t q p : Nat} {w wx wy : World} {T : TypeId} {z cs : Array Value}
theorem DRes.rd (h : DRes N g w T z wx q) : Rd N wx g q := h.2.1
theorem DRes.nx (h : DRes N g w T z wx q) (hb : Below wx.heap.size wx wy) : DRes N g w T z wy q :=
  ⟨h.1, h.2.1.nx hb, h.2.2.1.andThen (grown_of (row := none) hb) (fun j e => by cases e), h.2.2.2.nx hb⟩
theorem DRes.ate (h : DRes N g w T z wx q) (hR : Rd N wy g p) (hG : wx.grownBy wy (some g)) : DRes N g w T z wy p :=
  ⟨h.1, hR, h.2.2.1.trans hG, h.2.2.2.grown hG (by have := h.1; omega)⟩
theorem DRes.start (hR : Rd N w g q) (T : TypeId) (z : Array Value) : DRes N g w T z (w.alloc (.cells z T)) q :=
  ⟨hR.lt.2, hR.nx (below_alloc _ _), grown_of (below_alloc _ _), Blk.new w T z⟩
theorem DRes.box (h : DRes N g w T z wx q) (cs : Array Value) : DBox N g w T z wx.heap.size (wx.alloc (.cells cs T)) q cs := by
  have h2 := h.nx (below_alloc wx (.cells cs T))
  exact ⟨⟨h.1, h.2.2.2.lt⟩, h2.2.1, h2.2.2.1, h2.2.2.2, Blk.new wx T cs⟩
theorem DBox.rd (h : DBox N g w T z t wx q cs) : Rd N wx g q := h.2.1
theorem DBox.blk (h : DBox N g w T z t wx q cs) : Blk wx t T cs := h.2.2.2.2
theorem DBox.res (h : DBox N g w T z t wx q cs) : Blk wx w.heap.size T z := h.2.2.2.1
theorem DBox.nx (h : DBox N g w T z t wx q cs) (hb : Below wx.heap.size wx wy) : DBox N g w T z t wy q cs :=
  ⟨h.1, h.2.1.nx hb, h.2.2.1.andThen (grown_of (row := none) hb) (fun j e => by cases e), h.2.2.2.1.nx hb, h.2.2.2.2.nx hb⟩
theorem DBox.ate (h : DBox N g w T z t wx q cs) (hR : Rd N wy g p) (hG : wx.grownBy wy (some g)) : DBox N g w T z t wy p cs :=
  ⟨h.1, hR, h.2.2.1.trans hG, h.2.2.2.1.grown hG (by have := h.1; omega), h.2.2.2.2.grown hG (by have := h.1; omega)⟩
theorem DBox.put (h : DBox N g w T z t wx q cs) (i : Nat) (u : Value) : DBox N g w T z t (wx.setCell ⟨t, i, none⟩ u) q (cs.setIfInBounds i u) := by
  have h0 := h.1
  have hN := h.2.1.lt
  exact ⟨h.1, h.2.1.put (by show N ≤ t; omega) (by show t ≠ g; omega) u, h.2.2.1.andThen (grown_set wx ⟨t, i, none⟩ u) (fun j e => .inl (by injection e with e; subst e; show w.heap.size ≤ t; omega)),
    h.2.2.2.1.far (by show w.heap.size ≠ t; omega) u, h.2.2.2.2.set_ i u⟩
/-- A store into the result's box. -/
theorem DBox.fin (hR : Rd N wx g q) (hg : g < w.heap.size) (hG : w.grownBy wx (some g)) (i : Nat) (u : Value) : Rd N (wx.setCell ⟨w.heap.size, i, none⟩ u) g q ∧ w.grownBy (wx.setCell ⟨w.heap.size, i, none⟩ u) (some g) := by
  have hN := hR.lt
  exact ⟨hR.put (by show N ≤ w.heap.size; omega) (by show w.heap.size ≠ g; omega) u, hG.andThen (grown_set wx ⟨w.heap.size, i, none⟩ u) (fun j e => .inl (by injection e with e; subst e; exact Nat.le_refl _))⟩
end
/-- A slice's cells. -/
def slC (S : SL) : Array Value := #[.int .i64 S.from_, .int .i64 S.to_, .int .i64 S.by_, .bool S.hasFrom, .bool S.hasTo]
def slZ : Array Value := #[.int .i64 0, .int .i64 0, .int .i64 0, .bool false, .bool false]
def slBd (S : SL) : Prop := (-101 ≤ S.from_ ∧ S.from_ ≤ 101) ∧ (-101 ≤ S.to_ ∧ S.to_ ≤ 101) ∧ (-201 ≤ S.by_ ∧ S.by_ ≤ 201)
theorem Blk.store5 {w : World} {g : Nat} {t : TypeId} {a b c d e : Value} (h : Blk w g t #[a, b, c, d, e]) (x y z u v : Value) : Blk (((((w.setCell ⟨g, 0, none⟩ x).setCell ⟨g, 1, none⟩ y).setCell ⟨g, 2, none⟩ z).setCell ⟨g, 3, none⟩ u).setCell ⟨g, 4, none⟩ v) g t #[x, y, z, u, v] := by
  have := ((((h.set_ 0 x).set_ 1 y).set_ 2 z).set_ 3 u).set_ 4 v
  simpa using this
/-- What drawing a slice leaves. -/
def RetSliceR (N g p : Nat) (w : World) (e : Ending) (w' : World) : Prop := ∃ (S : SL) (q : Nat), e = .returned S.val ∧ slBd S ∧ q ≤ p + 10 ∧ Rd N w' g q ∧ w.grownBy w' (some g)
theorem slice_fin {N g p q : Nat} {w wx : World} {T : TypeId} {z cs : Array Value} {t : Nat} (h : DBox N g w T z t wx q cs) (S : SL) (hb : slBd S) (hq : q ≤ p + 10) (a b c d e : Value) :
    RetSliceR N g p w (.returned S.val) (((((wx.setCell ⟨w.heap.size, 0, none⟩ a).setCell ⟨w.heap.size, 1, none⟩ b).setCell ⟨w.heap.size, 2, none⟩ c).setCell ⟨w.heap.size, 3, none⟩ d).setCell ⟨w.heap.size, 4, none⟩ e) := by
  have hg := h.1.1
  obtain ⟨r1, g1⟩ := DBox.fin h.rd hg h.2.2.1 0 a
  obtain ⟨r2, g2⟩ := DBox.fin r1 hg g1 1 b
  obtain ⟨r3, g3⟩ := DBox.fin r2 hg g2 2 c
  obtain ⟨r4, g4⟩ := DBox.fin r3 hg g3 3 d
  obtain ⟨r5, g5⟩ := DBox.fin r4 hg g4 4 e
  exact ⟨S, q, rfl, hb, hq, r5, g5⟩

set_option maxRecDepth 100000 in
set_option maxHeartbeats 6400000 in
theorem someSlice_any (N g p : Nat) (w : World) (h : Rd N w g p) (hp : p ≤ 900000) :
    Calls Try.prog 98 #[.pointer (some ⟨g, 0, none⟩)] w (RetSliceR N g p w) := by
  have HM0 := hid (DRes.start h 33 slZ)
  obtain ⟨m, hm⟩ : ∃ m, m = w.heap.size := ⟨_, rfl⟩
  have HMm := hid hm
  go_enter Try.func98, Try.ntmps98
  go_upto_region 1 with fail
  rw [← hm]
  clear hm h
  unfold slZ at HM0
  generalize w.alloc (.cells #[.int .i64 0, .int .i64 0, .int .i64 0, .bool false, .bool false] 33) = w0 at *
  have hL : Own (w0.alloc (.cells #[.int .i64 1, .int .i64 2, .int .i64 (-1), .int .i64 3, .int .i64 (-2), .int .i64 1, .int .i64 5] 3)) w0.heap.size (.slice (some ⟨w0.heap.size, 0, none⟩) 7 7) [1, 2, -1, 3, -2, 1, 5] := own_lit w0 [1, 2, -1, 3, -2, 1, 5] (by simp)
  have HA := hid (HM0.out.nx (below_alloc w0 (.cells #[.int .i64 1, .int .i64 2, .int .i64 (-1), .int .i64 3, .int .i64 (-2), .int .i64 1, .int .i64 5] 3)))
  have HE := hid (HM0.out.rd.lit 7 7)
  go_wp2_with fail
  refine (one_any _ _ (p) _ _ _ _ HA.out.rd (by omega) hL (by simp) HE.out).mono ?_; rintro e w1 ⟨r, hr, rfl, hR, hG⟩
  have HM1 := hid (HA.out.ate hR hG)
  obtain ⟨y, ey, hy⟩ : ∃ y : Int, [1, 2, -1, 3, -2, 1, 5][r] = y ∧ y ∈ ([1, 2, -1, 3, -2, 1, 5] : List Int) := ⟨_, rfl, List.getElem_mem hr⟩
  rw [ey]
  clear hR hG ey hr hL HA HE
  have hyb : -2 ≤ y ∧ y ≤ 5 := by simp at hy; omega
  have HY := hid hyb
  clear hy hyb
  have HB := hid (HM1.out.box #[.int .i64 0, .int .i64 0, .int .i64 y, .bool false, .bool false])
  obtain ⟨t, ht⟩ : ∃ t, t = w1.heap.size := ⟨_, rfl⟩
  go_upto_region 2 with fail
  rw [← ht] at HB ⊢
  clear ht HM0 HM1
  generalize w1.alloc (.cells #[.int .i64 0, .int .i64 0, .int .i64 y, .bool false, .bool false] 33) = w2 at *
  have HM2 := HB
  go_wp2_with fail
  refine (pick_any _ _ (p + 1) 2 _ HM2.out.rd (by omega) (by omega)).mono ?_; rintro e w3 ⟨r, rfl, hr, hR, hG⟩
  have HM3 := hid (HM2.out.ate hR hG)
  clear hR hG
  go_upto_if 10 with fail
  go_cut [] (fun wx => ∃ (f : Int) (b : Bool) (q : Nat), (-30 ≤ f ∧ f ≤ 30) ∧ q ≤ p + 4 ∧ Hid (DBox N g w 33 #[.int .i64 0, .int .i64 0, .int .i64 0, .bool false, .bool false] t wx q #[.int .i64 f, .int .i64 0, .int .i64 y, .bool b, .bool false]))
  case first =>
    by_cases h0 : r = 0
    · have h0i : ((r : Int) == 0) = true := by simp [h0]
      clear h0
      obtain ⟨⟨q0, q1, q2, q3, q4⟩, f0, f1, f2, f3, f4⟩ := HM3.out.blk.all5
      have HM4 := hid (HM3.out.put 3 (.bool true))
      go_upto_region 4 with fail
      simp only [List.setIfInBounds_toArray, List.set_cons_zero, List.set_cons_succ] at HM4
      clear q0 q1 q2 q3 q4 f0 f1 f2 f3 f4
      generalize w3.setCell ⟨t, 3, none⟩ (.bool true) = w4 at *
      go_wp2_with fail
      refine (pick_any _ _ (p + 2) 12 _ HM4.out.rd (by omega) (by omega)).mono ?_; rintro e w5 ⟨r2, rfl, hr2, hR, hG⟩
      have HM5 := hid (HM4.out.ate hR hG)
      clear hR hG
      have hL : Own (w5.alloc (.cells #[.int .i64 1, .int .i64 2, .int .i64 0, .int .i64 (-1), .int .i64 (-3), .int .i64 (r2 : Int), .int .i64 30, .int .i64 (-30)] 3)) w5.heap.size (.slice (some ⟨w5.heap.size, 0, none⟩) 8 8) [1, 2, 0, -1, -3, (r2 : Int), 30, -30] := own_lit w5 [1, 2, 0, -1, -3, (r2 : Int), 30, -30] (by simp)
      have HA := hid (HM5.out.nx (below_alloc w5 (.cells #[.int .i64 1, .int .i64 2, .int .i64 0, .int .i64 (-1), .int .i64 (-3), .int .i64 (r2 : Int), .int .i64 30, .int .i64 (-30)] 3)))
      have HE := hid (HM5.out.rd.lit 8 8)
      go_wp2_with fail
      refine (one_any _ _ (p + 3) _ _ _ _ HA.out.rd (by omega) hL (by simp) HE.out).mono ?_; rintro e w6 ⟨r, hr, rfl, hR, hG⟩
      have HM6 := hid (HA.out.ate hR hG)
      obtain ⟨f, ey, hf⟩ : ∃ y : Int, [1, 2, 0, -1, -3, (r2 : Int), 30, -30][r] = y ∧ y ∈ ([1, 2, 0, -1, -3, (r2 : Int), 30, -30] : List Int) := ⟨_, rfl, List.getElem_mem hr⟩
      rw [ey]
      clear hR hG ey hr hL HA HE
      have hf : -30 ≤ f ∧ f ≤ 30 := by simp at hf; omega
      obtain ⟨⟨q0, q1, q2, q3, q4⟩, f0, f1, f2, f3, f4⟩ := HM6.out.blk.all5
      have HM7 := hid (HM6.out.put 0 (.int .i64 f))
      simp only [List.setIfInBounds_toArray, List.set_cons_zero] at HM7
      go_wp2_with fail
      go_meet
      exact ⟨f, true, p + 3 + 1, hf, by omega, HM7⟩
    · have h0i : ((r : Int) == 0) = false := by simp; omega
      go_wp2_with fail
      go_meet
      exact ⟨0, false, p + 1 + 1, by omega, by omega, HM3⟩
  case rest =>
    obtain ⟨f1, b1, q1, hf1, hq1, HM4⟩ := hcut
    obtain ⟨w4, rfl⟩ : ∃ w4, w4 = wc := ⟨_, rfl⟩
    have HF1 := hid hf1
    clear hf1 HM3 HM2 HB
    go_wp2_with fail
    refine (pick_any _ _ (q1) 2 _ HM4.out.rd (by omega) (by omega)).mono ?_; rintro e w5 ⟨r5, rfl, hr5, hR, hG⟩
    have HM5 := hid (HM4.out.ate hR hG)
    clear hR hG
    go_upto_if 20 with fail
    go_cut [] (fun wx => ∃ (f : Int) (b : Bool) (q : Nat), (-30 ≤ f ∧ f ≤ 30) ∧ q ≤ p + 7 ∧ Hid (DBox N g w 33 #[.int .i64 0, .int .i64 0, .int .i64 0, .bool false, .bool false] t wx q #[.int .i64 f1, .int .i64 f, .int .i64 y, .bool b1, .bool b]))
    case first =>
      by_cases h0 : r5 = 0
      · have h0i : ((r5 : Int) == 0) = true := by simp [h0]
        clear h0
        obtain ⟨⟨q0, q1x, q2, q3, q4⟩, f0, f1x, f2, f3, f4⟩ := HM5.out.blk.all5
        have HM6 := hid (HM5.out.put 4 (.bool true))
        go_upto_region 7 with fail
        simp only [List.setIfInBounds_toArray, List.set_cons_zero, List.set_cons_succ] at HM6
        clear q0 q1x q2 q3 q4 f0 f1x f2 f3 f4
        generalize w5.setCell ⟨t, 4, none⟩ (.bool true) = w6 at *
        go_wp2_with fail
        refine (pick_any _ _ (q1 + 1) 12 _ HM6.out.rd (by omega) (by omega)).mono ?_; rintro e w7 ⟨r2, rfl, hr2, hR, hG⟩
        have HM7 := hid (HM6.out.ate hR hG)
        clear hR hG
        have hL : Own (w7.alloc (.cells #[.int .i64 4, .int .i64 3, .int .i64 (-1), .int .i64 (-2), .int .i64 0, .int .i64 (r2 : Int), .int .i64 30, .int .i64 (-30)] 3)) w7.heap.size (.slice (some ⟨w7.heap.size, 0, none⟩) 8 8) [4, 3, -1, -2, 0, (r2 : Int), 30, -30] := own_lit w7 [4, 3, -1, -2, 0, (r2 : Int), 30, -30] (by simp)
        have HA := hid (HM7.out.nx (below_alloc w7 (.cells #[.int .i64 4, .int .i64 3, .int .i64 (-1), .int .i64 (-2), .int .i64 0, .int .i64 (r2 : Int), .int .i64 30, .int .i64 (-30)] 3)))
        have HE := hid (HM7.out.rd.lit 8 8)
        go_wp2_with fail
        refine (one_any _ _ (q1 + 2) _ _ _ _ HA.out.rd (by omega) hL (by simp) HE.out).mono ?_; rintro e w8 ⟨r, hr, rfl, hR, hG⟩
        have HM8 := hid (HA.out.ate hR hG)
        obtain ⟨f, ey, hf⟩ : ∃ y : Int, [4, 3, -1, -2, 0, (r2 : Int), 30, -30][r] = y ∧ y ∈ ([4, 3, -1, -2, 0, (r2 : Int), 30, -30] : List Int) := ⟨_, rfl, List.getElem_mem hr⟩
        rw [ey]
        clear hR hG ey hr hL HA HE
        have hf : -30 ≤ f ∧ f ≤ 30 := by simp at hf; omega
        obtain ⟨⟨q0, q1', q2, q3, q4⟩, f0, f1', f2, f3, f4⟩ := HM8.out.blk.all5
        have HM9 := hid (HM8.out.put 1 (.int .i64 f))
        simp only [List.setIfInBounds_toArray, List.set_cons_zero, List.set_cons_succ] at HM9
        go_wp2_with fail
        go_meet
        exact ⟨f, true, q1 + 2 + 1, hf, by omega, HM9⟩
      · have h0i : ((r5 : Int) == 0) = false := by simp; omega
        go_wp2_with fail
        go_meet
        exact ⟨0, false, q1 + 1, by omega, by omega, HM5⟩
    case rest =>
      obtain ⟨f2, b2, q2, hf2, hq2, HM6⟩ := hcut
      obtain ⟨w6, rfl⟩ : ∃ w6, w6 = wc := ⟨_, rfl⟩
      have HF2 := hid hf2
      clear hf2 HM5 HM4
      go_wp2_with fail
      refine (pick_any _ _ (q2) 24 _ HM6.out.rd (by omega) (by omega)).mono ?_; rintro e w7 ⟨r, rfl, hr, hR, hG⟩
      have HM7 := hid (HM6.out.ate hR hG)
      clear hR hG
      by_cases h0 : r = 0
      · have h0i : ((r : Int) == 0) = true := by simp [h0]
        clear h0
        have hL : Own (w7.alloc (.cells #[.int .i64 0, .int .i64 201] 3)) w7.heap.size (.slice (some ⟨w7.heap.size, 0, none⟩) 2 2) [0, 201] := own_lit w7 [0, 201] (by simp)
        have HA := hid (HM7.out.nx (below_alloc w7 (.cells #[.int .i64 0, .int .i64 201] 3)))
        have HE := hid (HM7.out.rd.lit 2 2)
        go_wp2_with fail
        refine (one_any _ _ (q2 + 1) _ _ _ _ HA.out.rd (by omega) hL (by simp) HE.out).mono ?_; rintro e w8 ⟨r, hr, rfl, hR, hG⟩
        have HM8 := hid (HA.out.ate hR hG)
        obtain ⟨y2, ey, hy2⟩ : ∃ y : Int, [0, 201][r] = y ∧ y ∈ ([0, 201] : List Int) := ⟨_, rfl, List.getElem_mem hr⟩
        rw [ey]
        clear hR hG ey hr hL HA HE
        have hy2 : 0 ≤ y2 ∧ y2 ≤ 201 := by simp at hy2; omega
        have HY2 := hid hy2
        obtain ⟨⟨c0, c1, c2, c3, c4⟩, cf0, cf1, cf2, cf3, cf4⟩ := HM8.out.blk.all5
        have HM9 := hid (HM8.out.put 2 (.int .i64 y2))
        simp only [List.setIfInBounds_toArray, List.set_cons_zero, List.set_cons_succ] at HM9
        go_upto_region 15 with fail
        clear c0 c1 c2 c3 c4 cf0 cf1 cf2 cf3 cf4 hy2
        generalize w8.setCell ⟨t, 2, none⟩ (.int .i64 y2) = w9 at *
        obtain ⟨⟨c0, c1, c2, c3, c4⟩, -⟩ := id HM9.out.blk.all5
        have hres := HM9.out.res
        rw [← HMm.out] at hres
        obtain ⟨⟨s0, s1, s2, s3, s4⟩, sf0, sf1, sf2, sf3, sf4⟩ := id hres.all5
        obtain ⟨⟨t0, t1, t2, t3, t4⟩, -⟩ := (hres.store5 (.int .i64 f1) (.int .i64 f2) (.int .i64 y2) (.bool b1) (.bool b2)).all5
        clear hres
        go_wp2
        refine bodyPost_ret (v := .agg #[.int .i64 f1, .int .i64 f2, .int .i64 y2, .bool b1, .bool b2]) (by simp [results, Try.results98, go_sem, t0, t1, t2, t3, t4]) rfl ?_
        rw [HMm.out]
        exact slice_fin HM9.out ⟨f1, f2, y2, b1, b2⟩ (by have := HF1.out; have := HF2.out; have := HY2.out; refine ⟨?_, ?_, ?_⟩ <;> simp only <;> omega) (by omega) _ _ _ _ _
      · have h0i : ((r : Int) == 0) = false := by simp; omega
        by_cases h1 : r = 1
        · have h1i : ((r : Int) == 1) = true := by simp [h1]
          clear h0 h1
          obtain ⟨⟨c0, c1, c2, c3, c4⟩, cf0, cf1, cf2, cf3, cf4⟩ := HM7.out.blk.all5
          have HM9 := hid (HM7.out.put 0 (.int .i64 101))
          simp only [List.setIfInBounds_toArray, List.set_cons_zero] at HM9
          go_upto_region 15 with fail
          clear c0 c1 c2 c3 c4 cf0 cf1 cf2 cf3 cf4
          generalize w7.setCell ⟨t, 0, none⟩ (.int .i64 101) = w9 at *
          obtain ⟨⟨c0, c1, c2, c3, c4⟩, -⟩ := id HM9.out.blk.all5
          have hres := HM9.out.res
          rw [← HMm.out] at hres
          obtain ⟨⟨s0, s1, s2, s3, s4⟩, sf0, sf1, sf2, sf3, sf4⟩ := id hres.all5
          obtain ⟨⟨t0, t1, t2, t3, t4⟩, -⟩ := (hres.store5 (.int .i64 101) (.int .i64 f2) (.int .i64 y) (.bool b1) (.bool b2)).all5
          clear hres
          go_wp2
          refine bodyPost_ret (v := .agg #[.int .i64 101, .int .i64 f2, .int .i64 y, .bool b1, .bool b2]) (by simp [results, Try.results98, go_sem, t0, t1, t2, t3, t4]) rfl ?_
          rw [HMm.out]
          exact slice_fin HM9.out ⟨101, f2, y, b1, b2⟩ (by have := HF1.out; have := HF2.out; have := HY.out; refine ⟨?_, ?_, ?_⟩ <;> simp only <;> omega) (by omega) _ _ _ _ _
        · have h1i : ((r : Int) == 1) = false := by simp; omega
          by_cases h2 : r = 2
          · have h2i : ((r : Int) == 2) = true := by simp [h2]
            clear h0 h1 h2
            have hL : Own (w7.alloc (.cells #[.int .i64 1, .int .i64 (-101)] 3)) w7.heap.size (.slice (some ⟨w7.heap.size, 0, none⟩) 2 2) [1, -101] := own_lit w7 [1, -101] (by simp)
            have HA := hid (HM7.out.nx (below_alloc w7 (.cells #[.int .i64 1, .int .i64 (-101)] 3)))
            have HE := hid (HM7.out.rd.lit 2 2)
            go_wp2_with fail
            refine (one_any _ _ (q2 + 1) _ _ _ _ HA.out.rd (by omega) hL (by simp) HE.out).mono ?_; rintro e w8 ⟨r, hr, rfl, hR, hG⟩
            have HM8 := hid (HA.out.ate hR hG)
            obtain ⟨f3, ey, hf3⟩ : ∃ y : Int, [1, -101][r] = y ∧ y ∈ ([1, -101] : List Int) := ⟨_, rfl, List.getElem_mem hr⟩
            rw [ey]
            clear hR hG ey hr hL HA HE
            have hf3 : -101 ≤ f3 ∧ f3 ≤ 1 := by simp at hf3; omega
            have HF3 := hid hf3
            obtain ⟨⟨c0, c1, c2, c3, c4⟩, cf0, cf1, cf2, cf3, cf4⟩ := HM8.out.blk.all5
            have HM9 := hid (HM8.out.put 1 (.int .i64 f3))
            simp only [List.setIfInBounds_toArray, List.set_cons_zero, List.set_cons_succ] at HM9
            go_upto_region 15 with fail
            clear c0 c1 c2 c3 c4 cf0 cf1 cf2 cf3 cf4 hf3
            generalize w8.setCell ⟨t, 1, none⟩ (.int .i64 f3) = w9 at *
            obtain ⟨⟨c0, c1, c2, c3, c4⟩, -⟩ := id HM9.out.blk.all5
            have hres := HM9.out.res
            rw [← HMm.out] at hres
            obtain ⟨⟨s0, s1, s2, s3, s4⟩, sf0, sf1, sf2, sf3, sf4⟩ := id hres.all5
            obtain ⟨⟨t0, t1, t2, t3, t4⟩, -⟩ := (hres.store5 (.int .i64 f1) (.int .i64 f3) (.int .i64 y) (.bool b1) (.bool b2)).all5
            clear hres
            go_wp2
            refine bodyPost_ret (v := .agg #[.int .i64 f1, .int .i64 f3, .int .i64 y, .bool b1, .bool b2]) (by simp [results, Try.results98, go_sem, t0, t1, t2, t3, t4]) rfl ?_
            rw [HMm.out]
            exact slice_fin HM9.out ⟨f1, f3, y, b1, b2⟩ (by have := HF1.out; have := HF3.out; have := HY.out; refine ⟨?_, ?_, ?_⟩ <;> simp only <;> omega) (by omega) _ _ _ _ _
          · have h2i : ((r : Int) == 2) = false := by simp; omega
            clear h0 h1 h2
            go_upto_region 15 with fail
            obtain ⟨⟨c0, c1, c2, c3, c4⟩, -⟩ := id HM7.out.blk.all5
            have hres := HM7.out.res
            rw [← HMm.out] at hres
            obtain ⟨⟨s0, s1, s2, s3, s4⟩, sf0, sf1, sf2, sf3, sf4⟩ := id hres.all5
            obtain ⟨⟨t0, t1, t2, t3, t4⟩, -⟩ := (hres.store5 (.int .i64 f1) (.int .i64 f2) (.int .i64 y) (.bool b1) (.bool b2)).all5
            clear hres
            go_wp2
            refine bodyPost_ret (v := .agg #[.int .i64 f1, .int .i64 f2, .int .i64 y, .bool b1, .bool b2]) (by simp [results, Try.results98, go_sem, t0, t1, t2, t3, t4]) rfl ?_
            rw [HMm.out]
            exact slice_fin HM7.out ⟨f1, f2, y, b1, b2⟩ (by have := HF1.out; have := HF2.out; have := HY.out; refine ⟨?_, ?_, ?_⟩ <;> simp only <;> omega) (by omega) _ _ _ _ _

end Go.Proofs.Ytldblcolnjkcaaa
