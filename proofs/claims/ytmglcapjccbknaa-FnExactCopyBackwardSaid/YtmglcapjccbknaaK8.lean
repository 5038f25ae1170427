/- Contracts: copies of views. No conditions. -/
import Derived.Test.YtmglcapjccbknaaK6
import Derived.Test.YtmglcapjccbknaaC7
import Derived.Outline
import Derived.Deep.RegionHeld3
namespace Go.Proofs.Ytmglcapjccbknaa
open Go.RowKit

def okCopy (mem : List Int) (T F : VL) : Bool := holdL mem T && holdL mem F && eqL T.shape F.shape
def copyL (mem : List Int) (T F : VL) : List Int := if okCopy mem T F then putW mem (offs T) (takenL mem (offs F)) else []
theorem okCopy_and {mem : List Int} {T F : VL} (h : okCopy mem T F = true) : holdL mem T = true ∧ holdL mem F = true ∧ T.shape = F.shape ∧ (takenL mem (offs F)).length = (offs T).length := by
  simp only [okCopy, Bool.and_eq_true, eqL, decide_eq_true_eq] at h
  refine ⟨h.1.1, h.1.2, h.2, ?_⟩
  simp [takenL, offs, h.2]
theorem copyL_len (mem : List Int) (T F : VL) : (copyL mem T F).length ≤ 60 := by
  unfold copyL
  split
  · rename_i h
    rw [putW_length]; exact (isMemL_and (holdL_and (okCopy_and h).1).1).1
  · simp

set_option maxRecDepth 100000 in
set_option maxHeartbeats 1600000 in
theorem canCopy_any (m v f : Value) (mem : List Int) (T F : VL) (w : World) (hm : Ints w m mem) (hv : ViewV w v T) (hf : ViewV w f F) :
    Calls Try.prog 71 #[m, v, f] w fun e w' => e = .returned (.bool (okCopy mem T F)) ∧ Below w.heap.size w w' := by
  have hv0 := hv
  have hf0 := hf
  obtain ⟨sv, tv, rfl, hsv, htv⟩ := hv
  obtain ⟨sf, tf, rfl, hsf, htf⟩ := hf
  have hA := (Blk.new w 28 #[.int .i64 T.base, sv, tv]).alloc (.cells #[.int .i64 F.base, sf, tf] 28)
  have hR := Blk.new (w.alloc (.cells #[.int .i64 T.base, sv, tv] 28)) 28 #[.int .i64 F.base, sf, tf]
  have hW : Below w.heap.size w ((w.alloc (.cells #[.int .i64 T.base, sv, tv] 28)).alloc (.cells #[.int .i64 F.base, sf, tf] 28)) := ((Below.refl _ _).alloc (Nat.le_refl _) _).alloc (by simp) _
  simp only [World.size_alloc] at hR
  cases c1 : holdL mem T
  · have HQ := hid (show okCopy mem T F = false by simp [okCopy, c1])
    go_enter Try.func71, Try.ntmps71
    go_wp2_with fail
    generalize (w.alloc (.cells #[.int .i64 T.base, sv, tv] 28)).alloc (.cells #[.int .i64 F.base, sf, tf] 28) = W1 at *
    refine (canHold_any _ _ mem T _ (hm.ext hW) (hv0.ext hW)).mono ?_; rintro e w1 ⟨rfl, hb1⟩
    have hb01 := bstep hW hb1 hW.size
    go_wp2
    go_ret
    exact ⟨ret_bool HQ.out.symm, hb01⟩
  cases c2 : holdL mem F
  · have HQ := hid (show okCopy mem T F = false by simp [okCopy, c2])
    go_enter Try.func71, Try.ntmps71
    go_wp2_with fail
    generalize (w.alloc (.cells #[.int .i64 T.base, sv, tv] 28)).alloc (.cells #[.int .i64 F.base, sf, tf] 28) = W1 at *
    refine (canHold_any _ _ mem T _ (hm.ext hW) (hv0.ext hW)).mono ?_; rintro e w1 ⟨rfl, hb1⟩
    have hb01 := bstep hW hb1 hW.size
    obtain ⟨⟨q0, q1, q2⟩, -⟩ := (hA.ext hb1 hA.lt).all3
    obtain ⟨⟨r0, r1, r2⟩, -⟩ := (hR.ext hb1 hR.lt).all3
    go_wp2_with fail
    refine (canHold_any _ _ mem F _ (hm.ext hb01) (hf0.ext hb01)).mono ?_; rintro e w2 ⟨rfl, hb2⟩
    have hb02 := bstep hb01 hb2 hb01.size
    go_wp2
    go_ret
    exact ⟨ret_bool HQ.out.symm, hb02⟩
  · have HQ := hid (show okCopy mem T F = eqL T.shape F.shape by simp [okCopy, c1, c2])
    go_enter Try.func71, Try.ntmps71
    go_wp2_with fail
    generalize (w.alloc (.cells #[.int .i64 T.base, sv, tv] 28)).alloc (.cells #[.int .i64 F.base, sf, tf] 28) = W1 at *
    refine (canHold_any _ _ mem T _ (hm.ext hW) (hv0.ext hW)).mono ?_; rintro e w1 ⟨rfl, hb1⟩
    have hb01 := bstep hW hb1 hW.size
    obtain ⟨⟨q0, q1, q2⟩, -⟩ := (hA.ext hb1 hA.lt).all3
    obtain ⟨⟨r0, r1, r2⟩, -⟩ := (hR.ext hb1 hR.lt).all3
    go_wp2_with fail
    refine (canHold_any _ _ mem F _ (hm.ext hb01) (hf0.ext hb01)).mono ?_; rintro e w2 ⟨rfl, hb2⟩
    have hb02 := bstep hb01 hb2 hb01.size
    clear q0 q1 q2 r0 r1 r2
    obtain ⟨⟨q0, q1, q2⟩, -⟩ := ((hA.ext hb1 hA.lt).ext hb2 (hA.ext hb1 hA.lt).lt).all3
    obtain ⟨⟨r0, r1, r2⟩, -⟩ := ((hR.ext hb1 hR.lt).ext hb2 (hR.ext hb1 hR.lt).lt).all3
    go_wp2_with fail
    refine (Equal_any _ _ T.shape F.shape _ (hsv.ext hb02) (hsf.ext hb02)).mono ?_; rintro e w3 ⟨rfl, hb3⟩
    go_wp2
    go_ret
    exact ⟨ret_bool HQ.out.symm, bstep hb02 hb3 hb02.size⟩

set_option maxRecDepth 100000 in
set_option maxHeartbeats 1600000 in
theorem pair_any (m v f : Value) (mem : List Int) (T F : VL) (w : World) (hm : Ints w m mem) (hv : ViewV w v T) (hf : ViewV w f F) :
    Calls Try.prog 70 #[m, v, f] w fun e w' => e = .returned (.bool (okCopy mem T F)) ∧ Below w.heap.size w w' := by
  have hv0 := hv
  have hf0 := hf
  obtain ⟨sv, tv, rfl, hsv, htv⟩ := hv
  obtain ⟨sf, tf, rfl, hsf, htf⟩ := hf
  have hA := (Blk.new w 28 #[.int .i64 T.base, sv, tv]).alloc (.cells #[.int .i64 F.base, sf, tf] 28)
  have hR := Blk.new (w.alloc (.cells #[.int .i64 T.base, sv, tv] 28)) 28 #[.int .i64 F.base, sf, tf]
  have hW : Below w.heap.size w ((w.alloc (.cells #[.int .i64 T.base, sv, tv] 28)).alloc (.cells #[.int .i64 F.base, sf, tf] 28)) := ((Below.refl _ _).alloc (Nat.le_refl _) _).alloc (by simp) _
  simp only [World.size_alloc] at hR
  cases c1 : holdL mem T
  · have HQ := hid (show okCopy mem T F = false by simp [okCopy, c1])
    go_enter Try.func70, Try.ntmps70
    go_wp2_with fail
    generalize (w.alloc (.cells #[.int .i64 T.base, sv, tv] 28)).alloc (.cells #[.int .i64 F.base, sf, tf] 28) = W1 at *
    refine (sees_any _ _ mem T _ (hm.ext hW) (hv0.ext hW)).mono ?_; rintro e w1 ⟨rfl, hb1⟩
    have hb01 := bstep hW hb1 hW.size
    go_wp2
    go_ret
    exact ⟨ret_bool HQ.out.symm, hb01⟩
  cases c2 : holdL mem F
  · have HQ := hid (show okCopy mem T F = false by simp [okCopy, c2])
    go_enter Try.func70, Try.ntmps70
    go_wp2_with fail
    generalize (w.alloc (.cells #[.int .i64 T.base, sv, tv] 28)).alloc (.cells #[.int .i64 F.base, sf, tf] 28) = W1 at *
    refine (sees_any _ _ mem T _ (hm.ext hW) (hv0.ext hW)).mono ?_; rintro e w1 ⟨rfl, hb1⟩
    have hb01 := bstep hW hb1 hW.size
    obtain ⟨⟨q0, q1, q2⟩, -⟩ := (hA.ext hb1 hA.lt).all3
    obtain ⟨⟨r0, r1, r2⟩, -⟩ := (hR.ext hb1 hR.lt).all3
    go_wp2_with fail
    refine (sees_any _ _ mem F _ (hm.ext hb01) (hf0.ext hb01)).mono ?_; rintro e w2 ⟨rfl, hb2⟩
    have hb02 := bstep hb01 hb2 hb01.size
    go_wp2
    go_ret
    exact ⟨ret_bool HQ.out.symm, hb02⟩
  · have HQ := hid (show okCopy mem T F = eqL T.shape F.shape by simp [okCopy, c1, c2])
    go_enter Try.func70, Try.ntmps70
    go_wp2_with fail
    generalize (w.alloc (.cells #[.int .i64 T.base, sv, tv] 28)).alloc (.cells #[.int .i64 F.base, sf, tf] 28) = W1 at *
    refine (sees_any _ _ mem T _ (hm.ext hW) (hv0.ext hW)).mono ?_; rintro e w1 ⟨rfl, hb1⟩
    have hb01 := bstep hW hb1 hW.size
    obtain ⟨⟨q0, q1, q2⟩, -⟩ := (hA.ext hb1 hA.lt).all3
    obtain ⟨⟨r0, r1, r2⟩, -⟩ := (hR.ext hb1 hR.lt).all3
    go_wp2_with fail
    refine (sees_any _ _ mem F _ (hm.ext hb01) (hf0.ext hb01)).mono ?_; rintro e w2 ⟨rfl, hb2⟩
    have hb02 := bstep hb01 hb2 hb01.size
    clear q0 q1 q2 r0 r1 r2
    obtain ⟨⟨q0, q1, q2⟩, -⟩ := ((hA.ext hb1 hA.lt).ext hb2 (hA.ext hb1 hA.lt).lt).all3
    obtain ⟨⟨r0, r1, r2⟩, -⟩ := ((hR.ext hb1 hR.lt).ext hb2 (hR.ext hb1 hR.lt).lt).all3
    go_wp2_with fail
    refine (sameInts_any _ _ T.shape F.shape _ (hsv.ext hb02) (hsf.ext hb02)).mono ?_; rintro e w3 ⟨rfl, hb3⟩
    go_wp2
    go_ret
    exact ⟨ret_bool HQ.out.symm, bstep hb02 hb3 hb02.size⟩

set_option maxRecDepth 100000 in
set_option maxHeartbeats 1600000 in
theorem CopyView_any (m v f : Value) (mem : List Int) (T F : VL) (w : World) (hm : Ints w m mem) (hv : ViewV w v T) (hf : ViewV w f F) :
    Calls Try.prog 34 #[m, v, f] w (RetOwnB w (copyL mem T F) (okCopy mem T F)) := by
  have hv0 := hv
  have hf0 := hf
  obtain ⟨sv, tv, rfl, hsv, htv⟩ := hv
  obtain ⟨sf, tf, rfl, hsf, htf⟩ := hf
  have hA := (Blk.new w 28 #[.int .i64 T.base, sv, tv]).alloc (.cells #[.int .i64 F.base, sf, tf] 28)
  have hR := Blk.new (w.alloc (.cells #[.int .i64 T.base, sv, tv] 28)) 28 #[.int .i64 F.base, sf, tf]
  have hW : Below w.heap.size w ((w.alloc (.cells #[.int .i64 T.base, sv, tv] 28)).alloc (.cells #[.int .i64 F.base, sf, tf] 28)) := ((Below.refl _ _).alloc (Nat.le_refl _) _).alloc (by simp) _
  simp only [World.size_alloc] at hR
  cases c : okCopy mem T F
  · have HQ := hid (show copyL mem T F = [] by simp [copyL, c])
    go_enter Try.func34, Try.ntmps34
    go_wp2_with fail
    generalize (w.alloc (.cells #[.int .i64 T.base, sv, tv] 28)).alloc (.cells #[.int .i64 F.base, sf, tf] 28) = W1 at *
    refine (canCopy_any _ _ _ mem T F _ (hm.ext hW) (hv0.ext hW) (hf0.ext hW)).mono ?_; rintro e w1 ⟨rfl, hb1⟩
    have hb01 := bstep hW hb1 hW.size
    go_wp2
    go_ret2
    exact ⟨_, by rfl, by rw [HQ.out]; exact Own.nil _ _, hb01⟩
  · have HQ := hid (show copyL mem T F = putW mem (offs T) (takenL mem (offs F)) by simp [copyL, c])
    have HS := hid (okCopy_and c)
    go_enter Try.func34, Try.ntmps34
    go_wp2_with fail
    generalize (w.alloc (.cells #[.int .i64 T.base, sv, tv] 28)).alloc (.cells #[.int .i64 F.base, sf, tf] 28) = W1 at *
    refine (canCopy_any _ _ _ mem T F _ (hm.ext hW) (hv0.ext hW) (hf0.ext hW)).mono ?_; rintro e w1 ⟨rfl, hb1⟩
    have hb01 := bstep hW hb1 hW.size
    have hA1 := hA.ext hb1 hA.lt
    have hR1 := hR.ext hb1 hR.lt
    obtain ⟨⟨q0, q1, q2⟩, -⟩ := id hA1.all3
    obtain ⟨⟨r0, r1, r2⟩, -⟩ := id hR1.all3
    have hD := hb01.drew
    have hDz : w.heap.size ≤ w1.drew.heap.size := hb01.size
    go_wp2_with fail
    go_region_held3 (fun w' => w'.cell? ⟨w.heap.size, 0, none⟩ = some (.int .i64 T.base) ∧ w'.cell? ⟨w.heap.size, 1, none⟩ = some sv ∧ w'.cell? ⟨w.heap.size, 2, none⟩ = some tv ∧ w'.cell? ⟨w.heap.size + 1, 0, none⟩ = some (.int .i64 F.base) ∧ w'.cell? ⟨w.heap.size + 1, 1, none⟩ = some sf ∧ w'.cell? ⟨w.heap.size + 1, 2, none⟩ = some tf)
      (first | go_keep | exact hK1 | exact hK2)
      (first
        | (go_at_call 59; refine (loadView_any _ _ mem F _ (hm.ext hD) (hf0.ext hD) HS.out.2.1).mono ?_; rintro e w2 ⟨u, rfl, ho1, hb2⟩; have hA2 := (Blk.ext hA1 (below_drew w1) hA1.lt).ext hb2 hA1.lt; have hR2 := (Blk.ext hR1 (below_drew w1) hR1.lt).ext hb2 hR1.lt; have hK1 := six_cells hA2 hR2; have hb02 := bstep hD hb2 hDz)
        | (go_at_call 69; refine (storeView_any _ _ _ mem T _ _ (hm.ext hb02) (hv0.ext hb02) ho1.ints HS.out.1 HS.out.2.2.2).mono ?_; rintro e w3 ⟨r, rfl, ho, hb3⟩; have hA3 := hA2.ext hb3 hA2.lt; have hR3 := hR2.ext hb3 hR2.lt; have hK2 := six_cells hA3 hR3))
    go_wp2
    go_ret2
    exact ⟨_, by rfl, by rw [HQ.out]; exact ho.mono hb02.size, bstep hb02 hb3 hb02.size⟩

set_option maxRecDepth 100000 in
set_option maxHeartbeats 1600000 in
theorem sCopyView_any (m v f : Value) (mem : List Int) (T F : VL) (w : World) (hm : Ints w m mem) (hv : ViewV w v T) (hf : ViewV w f F) :
    Calls Try.prog 33 #[m, v, f] w (RetOwnB w (copyL mem T F) (okCopy mem T F)) := by
  have hv0 := hv
  have hf0 := hf
  obtain ⟨sv, tv, rfl, hsv, htv⟩ := hv
  obtain ⟨sf, tf, rfl, hsf, htf⟩ := hf
  have hA := (Blk.new w 28 #[.int .i64 T.base, sv, tv]).alloc (.cells #[.int .i64 F.base, sf, tf] 28)
  have hR := Blk.new (w.alloc (.cells #[.int .i64 T.base, sv, tv] 28)) 28 #[.int .i64 F.base, sf, tf]
  have hW : Below w.heap.size w ((w.alloc (.cells #[.int .i64 T.base, sv, tv] 28)).alloc (.cells #[.int .i64 F.base, sf, tf] 28)) := ((Below.refl _ _).alloc (Nat.le_refl _) _).alloc (by simp) _
  simp only [World.size_alloc] at hR
  cases c : okCopy mem T F
  · have HQ := hid (show copyL mem T F = [] by simp [copyL, c])
    go_enter Try.func33, Try.ntmps33
    go_wp2_with fail
    generalize (w.alloc (.cells #[.int .i64 T.base, sv, tv] 28)).alloc (.cells #[.int .i64 F.base, sf, tf] 28) = W1 at *
    refine (pair_any _ _ _ mem T F _ (hm.ext hW) (hv0.ext hW) (hf0.ext hW)).mono ?_; rintro e w1 ⟨rfl, hb1⟩
    have hb01 := bstep hW hb1 hW.size
    go_wp2
    go_ret2
    exact ⟨_, by rfl, by rw [HQ.out]; exact Own.nil _ _, hb01⟩
  · have HQ := hid (show copyL mem T F = putW mem (offs T) (takenL mem (offs F)) by simp [copyL, c])
    have HS := hid (okCopy_and c)
    go_enter Try.func33, Try.ntmps33
    go_wp2_with fail
    generalize (w.alloc (.cells #[.int .i64 T.base, sv, tv] 28)).alloc (.cells #[.int .i64 F.base, sf, tf] 28) = W1 at *
    refine (pair_any _ _ _ mem T F _ (hm.ext hW) (hv0.ext hW) (hf0.ext hW)).mono ?_; rintro e w1 ⟨rfl, hb1⟩
    have hb01 := bstep hW hb1 hW.size
    have hA1 := hA.ext hb1 hA.lt
    have hR1 := hR.ext hb1 hR.lt
    obtain ⟨⟨q0, q1, q2⟩, -⟩ := id hA1.all3
    obtain ⟨⟨r0, r1, r2⟩, -⟩ := id hR1.all3
    have hD := hb01.drew
    have hDz : w.heap.size ≤ w1.drew.heap.size := hb01.size
    go_wp2_with fail
    go_region_held3 (fun w' => w'.cell? ⟨w.heap.size, 0, none⟩ = some (.int .i64 T.base) ∧ w'.cell? ⟨w.heap.size, 1, none⟩ = some sv ∧ w'.cell? ⟨w.heap.size, 2, none⟩ = some tv ∧ w'.cell? ⟨w.heap.size + 1, 0, none⟩ = some (.int .i64 F.base) ∧ w'.cell? ⟨w.heap.size + 1, 1, none⟩ = some sf ∧ w'.cell? ⟨w.heap.size + 1, 2, none⟩ = some tf)
      (first | go_keep | exact hK1 | exact hK2)
      (first
        | (go_at_call 57; refine (load_any _ _ mem F _ (hm.ext hD) (hf0.ext hD) HS.out.2.1).mono ?_; rintro e w2 ⟨u, rfl, ho1, hb2⟩; have hA2 := (Blk.ext hA1 (below_drew w1) hA1.lt).ext hb2 hA1.lt; have hR2 := (Blk.ext hR1 (below_drew w1) hR1.lt).ext hb2 hR1.lt; have hK1 := six_cells hA2 hR2; have hb02 := bstep hD hb2 hDz)
        | (go_at_call 68; refine (put_any _ _ _ mem T _ _ (hm.ext hb02) (hv0.ext hb02) ho1.ints HS.out.1 HS.out.2.2.2).mono ?_; rintro e w3 ⟨r, rfl, ho, hb3⟩; have hA3 := hA2.ext hb3 hA2.lt; have hR3 := hR2.ext hb3 hR2.lt; have hK2 := six_cells hA3 hR3))
    go_wp2
    go_ret2
    exact ⟨_, by rfl, by rw [HQ.out]; exact ho.mono hb02.size, bstep hb02 hb3 hb02.size⟩

end Go.Proofs.Ytmglcapjccbknaa
