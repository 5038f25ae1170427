/- Contracts: the law's helpers on acts. No conditions. -/
import Derived.Test.YtmoejdnodhmglaaDoorFA6
import Derived.Test.YtmoejdnodhmglaaDoorL1va
namespace Go.Proofs.YtmoejdnodhmglaaDoor
open Go.RowKit

set_option maxRecDepth 100000 in
set_option maxHeartbeats 6400000 in
theorem szAct_ok (v : Value) (k : Int) (ns : List Int) (left D : Nat) (w : World) (hv : ActV w v k ns) (hl : ns.length ≤ left) (h2 : left ≤ 1048576) (hD : left - ns.length = D) :
    Calls Tryd.prog 4 #[v, .int .i64 left] w fun e w' => e = .returned (.int .i64 (D : Int)) ∧ Below w.heap.size w w' := by
  obtain ⟨s, rfl, hs⟩ := hv
  have hb0 := below_alloc w (.cells #[.int .i64 k, s] 24)
  have hZ := Blk.new w 24 #[.int .i64 k, s]
  have HI := hid (hs.ext hb0)
  have HB0 := hid hb0
  have HD := hid hD
  have HL := hid (And.intro hl h2)
  clear hD hl h2
  have hp : ¬ (D : Int) < 0 := by omega
  go_enter Tryd.func4, Tryd.ntmps4
  go_upto_region 1 with fail
  clear hs hb0
  generalize (w.alloc (.cells #[.int .i64 k, s] 24)) = w0 at *
  obtain ⟨⟨q0, q1⟩, -⟩ := blk2 hZ
  go_wp2_with fail
  refine (szIntS_ok _ ns left _ HI.out HL.out.1 HL.out.2).mono ?_; rintro e w' ⟨rfl, rfl⟩
  rw [HD.out]
  go_wp2
  go_ret
  exact ⟨rfl, HB0.out⟩
set_option maxRecDepth 100000 in
set_option maxHeartbeats 6400000 in
theorem szAct_no (v : Value) (k : Int) (ns : List Int) (left : Nat) (w : World) (hv : ActV w v k ns) (hl : left < ns.length) (h2 : left ≤ 1048576) :
    Calls Tryd.prog 4 #[v, .int .i64 left] w fun e w' => e = .returned (.int .i64 (-1)) ∧ Below w.heap.size w w' := by
  obtain ⟨s, rfl, hs⟩ := hv
  have hb0 := below_alloc w (.cells #[.int .i64 k, s] 24)
  have hZ := Blk.new w 24 #[.int .i64 k, s]
  have HI := hid (hs.ext hb0)
  have HB0 := hid hb0
  go_enter Tryd.func4, Tryd.ntmps4
  go_upto_region 1 with fail
  clear hs hb0
  generalize (w.alloc (.cells #[.int .i64 k, s] 24)) = w0 at *
  obtain ⟨⟨q0, q1⟩, -⟩ := blk2 hZ
  go_wp2_with fail
  refine (szIntS_no _ ns left _ HI.out hl h2).mono ?_; rintro e w' ⟨rfl, rfl⟩
  go_wp2
  go_ret
  exact ⟨rfl, HB0.out⟩

/-- A new act. -/
def RetAct (w : World) (k : Int) (ns : List Int) (e : Ending) (w' : World) : Prop := ∃ A c, e = .returned (.agg #[.int .i64 k, .slice A ns.length c]) ∧ Ints w' (.slice A ns.length c) ns ∧ Below w.heap.size w w'
set_option maxRecDepth 100000 in
set_option maxHeartbeats 6400000 in
theorem toAct_any (v : Value) (k : Int) (ns : List Int) (w : World) (hv : ActV w v k ns) (hl : ns.length ≤ 1048576) :
    Calls Tryd.prog 6 #[v] w (RetAct w k ns) := by
  obtain ⟨s, rfl, hs⟩ := hv
  have HS := hid hs
  have hb1 := below_alloc w (.cells #[.int .i64 k, s] 24)
  have z1 := World.size_alloc w (.cells #[.int .i64 k, s] 24)
  have b1 := Blk.new w 24 #[.int .i64 k, s]
  go_enter Tryd.func6, Tryd.ntmps6
  go_upto_region 1 with fail
  obtain ⟨g, hg⟩ : ∃ g, w.heap.size = g := ⟨_, rfl⟩
  have HG := hid hg
  rw [hg] at hb1 z1 b1 ⊢
  generalize (w.alloc (.cells #[.int .i64 k, s] 24)) = w1 at *
  have hb2 := below_alloc w1 (.cells #[.int .i64 0, .slice none 0 0] 27)
  have z2 := World.size_alloc w1 (.cells #[.int .i64 0, .slice none 0 0] 27)
  have r2 := Blk.new w1 27 #[.int .i64 0, .slice none 0 0]
  have b2 := Blk.ext b1 hb2 b1.lt
  have hB := hb1.trans (hb2.mono (by omega))
  rw [z1] at r2 z2
  clear hb1 hb2 b1 hg hs
  generalize (w1.alloc (.cells #[.int .i64 0, .slice none 0 0] 27)) = w2 at *
  have hb3 := below_alloc w2 (.cells #[.int .i64 0, .slice none 0 0] 27)
  have z3 := World.size_alloc w2 (.cells #[.int .i64 0, .slice none 0 0] 27)
  have x3 := Blk.new w2 27 #[.int .i64 0, .slice none 0 0]
  have b3 := Blk.ext b2 hb3 b2.lt
  have r3 := Blk.ext r2 hb3 r2.lt
  have hB := hB.trans (hb3.mono (by omega))
  have hz2 : w2.heap.size = g + 2 := by omega
  have HZ2 := hid hz2
  rw [hz2] at x3 z3
  clear hb3 b2 r2 z1 z2
  go_upto_region 2 with fail
  clear hz2
  generalize (w2.alloc (.cells #[.int .i64 0, .slice none 0 0] 27)) = w3 at *
  obtain ⟨⟨q0, q1⟩, -⟩ := blk2 b3
  obtain ⟨⟨x0, x1⟩, xf0, xf1⟩ := blk2 x3
  have x4 := x3.set_ 0 (.int .i64 k)
  have b4 := b3.far (p := ⟨g + 2, 0, none⟩) (by show g ≠ g + 2; omega) (.int .i64 k)
  have r4 := r3.far (p := ⟨g + 2, 0, none⟩) (by show g + 1 ≠ g + 2; omega) (.int .i64 k)
  have hB4 := hB.setCell (p := ⟨g + 2, 0, none⟩) (by show g ≤ g + 2; omega) (.int .i64 k)
  have z4 : (w3.setCell ⟨g + 2, 0, none⟩ (.int .i64 k)).heap.size = g + 2 + 1 := by rw [← z3]; simp
  simp only [List.setIfInBounds_toArray, List.set_cons_zero] at x4
  have HX := hid x4
  have HB := hid b4
  have HR := hid r4
  have HBB := hid hB4
  have HZ := hid z4
  clear x3 b3 r3 hB z3 x4 b4 r4 hB4 z4
  go_upto_region 3 with fail
  clear q0 q1 x0 x1 xf0 xf1
  generalize (w3.setCell ⟨g + 2, 0, none⟩ (.int .i64 k)) = w4 at *
  obtain ⟨⟨q0, q1⟩, -⟩ := blk2 HB.out
  have HSI := hid (HS.out.ext (by rw [HG.out]; exact HBB.out))
  go_wp2_with fail
  refine (toIntS_any _ ns _ HSI.out hl).mono ?_; rintro e w5 ⟨u, rfl, ho, hb⟩
  obtain ⟨A5, c5, e5⟩ := ho.form
  subst e5
  have hz4 := HZ.out
  have x5 := Blk.ext HX.out hb (by omega)
  have r5 := Blk.ext HR.out hb (by omega)
  have hB5 := HBB.out.trans (hb.mono (by omega))
  have x6 := x5.set_ 1 (.slice A5 ns.length c5)
  have r6 := r5.far (p := ⟨g + 2, 1, none⟩) (by show g + 1 ≠ g + 2; omega) (.slice A5 ns.length c5)
  have hB6 := hB5.setCell (p := ⟨g + 2, 1, none⟩) (by show g ≤ g + 2; omega) (.slice A5 ns.length c5)
  have ho6 := ho.far (p := ⟨g + 2, 1, none⟩) (by show g + 2 < w4.heap.size; omega) (.slice A5 ns.length c5)
  simp only [List.setIfInBounds_toArray, List.set_cons_zero, List.set_cons_succ] at x6
  obtain ⟨⟨y0, y1⟩, yf0, yf1⟩ := blk2 x5
  have HX6 := hid x6
  have HR6 := hid r6
  have HB6 := hid hB6
  have HO6 := hid ho6
  clear q0 q1 ho hb x5 r5 hB5 x6 r6 hB6 ho6
  go_upto_region 4 with fail
  clear y0 y1 yf0 yf1
  generalize (w5.setCell ⟨g + 2, 1, none⟩ (.slice A5 ns.length c5)) = w6 at *
  obtain ⟨⟨y0, y1⟩, -⟩ := blk2 HX6.out
  obtain ⟨⟨z0, z1⟩, zf0, zf1⟩ := blk2 HR6.out
  have r7 := (HR6.out.set_ 0 (.int .i64 k)).set_ 1 (.slice A5 ns.length c5)
  simp only [List.setIfInBounds_toArray, List.set_cons_zero, List.set_cons_succ] at r7
  obtain ⟨⟨r0, r1⟩, -⟩ := blk2 r7
  have HF := hid ((HB6.out.setCell (p := ⟨g + 1, 0, none⟩) (by show g ≤ g + 1; omega) (.int .i64 k)).setCell (p := ⟨g + 1, 1, none⟩) (by show g ≤ g + 1; omega) (.slice A5 ns.length c5))
  have HO := hid ((HO6.out.far (p := ⟨g + 1, 0, none⟩) (by show g + 1 < w4.heap.size; omega) (.int .i64 k)).far (p := ⟨g + 1, 1, none⟩) (by show g + 1 < w4.heap.size; omega) (.slice A5 ns.length c5)).ints
  clear r7 hz4
  go_wp2
  refine bodyPost_ret (v := .agg #[.int .i64 k, .slice A5 ns.length c5]) (by simp [results, Tryd.results6, go_sem, r0, r1]) rfl ?_
  exact ⟨A5, c5, rfl, HO.out, by rw [HG.out]; exact HF.out⟩

set_option maxRecDepth 100000 in
set_option maxHeartbeats 6400000 in
theorem eqAct_yes (v v' : Value) (k : Int) (ns : List Int) (w : World) (hv : ActV w v k ns) (hv' : ActV w v' k ns) :
    Calls Tryd.prog 8 #[v, v'] w fun e w' => e = .returned (.bool true) ∧ Below w.heap.size w w' := by
  obtain ⟨s, rfl, hs⟩ := hv
  obtain ⟨s', rfl, hs'⟩ := hv'
  have hb1 := below_alloc w (.cells #[.int .i64 k, s] 27)
  have b1 := Blk.new w 27 #[.int .i64 k, s]
  have z1 := World.size_alloc w (.cells #[.int .i64 k, s] 27)
  go_enter Tryd.func8, Tryd.ntmps8
  go_upto_region 1 with fail
  obtain ⟨g, hg⟩ : ∃ g, w.heap.size = g := ⟨_, rfl⟩
  have HG := hid hg
  rw [hg] at hb1 z1 b1 ⊢
  have hI := hs.ext (by rw [hg]; exact hb1)
  have hI' := hs'.ext (by rw [hg]; exact hb1)
  generalize (w.alloc (.cells #[.int .i64 k, s] 27)) = w1 at *
  have hb2 := below_alloc w1 (.cells #[.int .i64 k, s'] 27)
  have r2 := Blk.new w1 27 #[.int .i64 k, s']
  have b2 := Blk.ext b1 hb2 b1.lt
  have hI := hI.ext hb2
  have hI' := hI'.ext hb2
  have hB := hb1.trans (hb2.mono (by omega))
  rw [z1] at r2
  have HB := hid hB
  have HI := hid hI
  have HI' := hid hI'
  clear hb1 hb2 b1 hg hs hs' hI hI' hB
  generalize (w1.alloc (.cells #[.int .i64 k, s'] 27)) = w2 at *
  obtain ⟨⟨q0, q1⟩, -⟩ := blk2 b2
  obtain ⟨⟨x0, x1⟩, -⟩ := blk2 r2
  clear z1
  go_wp2_with fail
  refine (eqIntS_yes _ _ ns _ HI.out HI'.out).mono ?_; rintro e w3 ⟨rfl, hb⟩
  have HF := hid (show Below w.heap.size w w3 by
    rw [HG.out]
    exact HB.out.trans (hb.mono (by have := HB.out.size; have := HG.out; omega)))
  clear hb
  go_wp2
  go_ret
  exact ⟨rfl, HF.out⟩

set_option maxRecDepth 100000 in
set_option maxHeartbeats 6400000 in
theorem FnExactFormatAct_walk (v : Value) (k : Int) (ns : List Int) (w : World) (hv : ActV w v k ns) (ht : Tabs w) :
    Calls Tryd.prog 3 #[v] w fun e w' => e = .returned (.bool true) ∧ Below w.heap.size w w' := by
  have hv0 := hv
  obtain ⟨s, rfl, hs⟩ := hv
  obtain ⟨A, c, rfl, hnc, hcm⟩ := hs.form
  have hb0 := below_alloc w (.cells #[.int .i64 k, .slice A ns.length c] 24)
  have hZ := Blk.new w 24 #[.int .i64 k, .slice A ns.length c]
  have HV := hid (hv0.ext hb0)
  have HT := hid (ht.ext hb0)
  have HB0 := hid hb0
  go_enter Tryd.func3, Tryd.ntmps3
  go_upto_region 1 with fail
  clear hs hb0 hv0 ht
  generalize (w.alloc (.cells #[.int .i64 k, .slice A ns.length c] 24)) = w0 at *
  obtain ⟨⟨q0, q1⟩, -⟩ := blk2 hZ
  have HZ := hid hZ
  clear hZ
  by_cases hbig : 1048576 < ns.length
  · have HBIG := hid hbig
    clear hbig
    go_wp2_with fail
    refine (szAct_no _ k ns 1048576 _ HV.out HBIG.out (Nat.le_refl _)).mono ?_; rintro e w1 ⟨rfl, hb⟩
    have HF := hid (HB0.out.trans (hb.mono HB0.out.size))
    clear hb
    go_wp2
    go_ret
    exact ⟨rfl, HF.out⟩
  · have HS := hid (show ns.length ≤ 1048576 by omega)
    obtain ⟨D, hD⟩ : ∃ D, 1048576 - ns.length = D := ⟨_, rfl⟩
    have HD := hid hD
    clear hbig hD
    have hD0 : ¬ (D : Int) < 0 := by omega
    go_wp2_with fail
    refine (szAct_ok _ k ns 1048576 D _ HV.out HS.out (Nat.le_refl _) HD.out).mono ?_; rintro e w1 ⟨rfl, hb⟩
    have HB1 := hid hb
    clear hb q0 q1
    obtain ⟨⟨q0, q1⟩, -⟩ := blk2 (Blk.ext HZ.out HB1.out HZ.out.lt)
    go_wp2_with fail
    refine (toAct_any _ k ns _ (HV.out.ext HB1.out) HS.out).mono ?_; rintro e w2 ⟨A2, c2, rfl, hI2, hb⟩
    have HB2 := hid (HB1.out.trans (hb.mono HB1.out.size))
    have HI2 := hid hI2
    clear hb q0 q1 hI2 HB1
    go_wp2_with fail
    refine (sFormatAct_any _ k ns _ ⟨_, rfl, HI2.out⟩).mono ?_; rintro e w3 ⟨rfl, hb⟩
    have HB3 := hid (HB2.out.trans (hb.mono HB2.out.size))
    clear hb HB2 HI2
    obtain ⟨⟨q0, q1⟩, -⟩ := blk2 (Blk.ext HZ.out HB3.out HZ.out.lt)
    go_wp2_with fail
    refine (toAct_any _ k ns _ (HV.out.ext HB3.out) HS.out).mono ?_; rintro e w4 ⟨A4, c4, rfl, hI4, hb⟩
    have HB4 := hid (HB3.out.trans (hb.mono HB3.out.size))
    have HI4 := hid hI4
    clear hb q0 q1 hI4 HB3
    have hb5 := below_alloc w4 (.cells #[.int .i64 k, .slice A4 ns.length c4] 27)
    have HX5 := hid (Blk.new w4 27 #[.int .i64 k, .slice A4 ns.length c4])
    have HI5 := hid (HI4.out.ext hb5)
    have HB5 := hid (HB4.out.trans (hb5.mono HB4.out.size))
    clear hb5 HI4
    go_upto_region 7 with fail
    generalize (w4.alloc (.cells #[.int .i64 k, .slice A4 ns.length c4] 27)) = w5 at *
    generalize w4.heap.size = g5 at *
    obtain ⟨⟨x0, x1⟩, -⟩ := blk2 HX5.out
    go_wp2_with fail
    refine (FormatAct_any _ k ns _ ⟨_, rfl, HI5.out⟩ (HT.out.ext HB5.out)).mono ?_; rintro e w6 ⟨rfl, hb⟩
    have HB6 := hid (HB5.out.trans (hb.mono HB5.out.size))
    have HX6 := hid (Blk.ext HX5.out hb HX5.out.lt)
    have HI6 := hid (HI5.out.ext hb)
    clear hb x0 x1 HX5 HI5 HB5
    go_upto_region 10 with fail
    obtain ⟨⟨q0, q1⟩, -⟩ := blk2 (Blk.ext HZ.out HB6.out HZ.out.lt)
    obtain ⟨⟨x0, x1⟩, -⟩ := blk2 HX6.out
    have HAd := hid ((HV.out.ext HB6.out).ext (below_drew w6))
    go_region_law (first
      | (rw [if_pos (wantedA (by rfl))]; go_simp; go_at_call 6; refine (toAct_any _ k ns _ HAd.out HS.out).mono ?_; rintro e w7 ⟨A7, c7, rfl, hI7, hb⟩
         have HB7 := hid ((below_drew w6).trans (hb.mono (below_drew w6).size))
         have HI7 := hid hI7
         obtain ⟨⟨z0, z1⟩, -⟩ := blk2 (Blk.ext HX6.out HB7.out HX6.out.lt)
         clear hb hI7
         go_simp)
      | (rw [if_pos (wantedA (by rfl))]; go_simp; go_at_call 8; refine (eqAct_yes _ _ k ns _ ⟨_, rfl, HI6.out.ext HB7.out⟩ ⟨_, rfl, HI7.out⟩).mono ?_; rintro e w8 ⟨rfl, hb⟩
         have HB8 := hid (HB7.out.trans (hb.mono HB7.out.size))
         clear hb
         go_simp))
    all_goals
      have HF := hid (HB0.out.trans ((HB6.out.trans (HB8.out.mono HB6.out.size)).mono HB0.out.size))
      go_wp2
      go_ret
      exact ⟨rfl, HF.out⟩

end Go.Proofs.YtmoejdnodhmglaaDoor
