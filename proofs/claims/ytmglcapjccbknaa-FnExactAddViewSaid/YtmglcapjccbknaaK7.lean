/- Contracts: StoreView, both. No conditions. -/
import Derived.Test.YtmglcapjccbknaaK6
import Derived.Outline
namespace Go.Proofs.Ytmglcapjccbknaa
open Go.RowKit

set_option maxRecDepth 100000 in
set_option maxHeartbeats 1600000 in
theorem StoreView_any (m v u : Value) (mem : List Int) (V : VL) (vals : List Int) (w : World) (hm : Ints w m mem) (hv : ViewV w v V) (hu : Ints w u vals) :
    Calls Try.prog 32 #[m, v, u] w (RetOwnB w (storeL mem V vals) (okStore mem V vals)) := by
  have hv0 := hv
  obtain ⟨sv, tv, rfl, hsv, htv⟩ := hv
  have hB := Blk.new w 28 #[.int .i64 V.base, sv, tv]
  have hW := below_alloc w (.cells #[.int .i64 V.base, sv, tv] 28)
  cases c : okStore mem V vals
  · have HQ := hid (show storeL mem V vals = [] by simp [storeL, c])
    go_enter Try.func32, Try.ntmps32
    go_wp2_with fail
    refine (canStore_any _ _ _ mem V vals _ (hm.ext hW) (hv0.ext hW) (hu.ext hW)).mono ?_; rintro e w1 ⟨rfl, hb1⟩
    go_wp2
    go_ret2
    exact ⟨_, by rfl, by rw [HQ.out]; exact Own.nil _ _, bstep hW hb1 hW.size⟩
  · have HQ := hid (show storeL mem V vals = putW mem (offs V) vals by simp [storeL, c])
    have HS := hid (okStore_and c)
    go_enter Try.func32, Try.ntmps32
    go_wp2_with fail
    refine (canStore_any _ _ _ mem V vals _ (hm.ext hW) (hv0.ext hW) (hu.ext hW)).mono ?_; rintro e w1 ⟨rfl, hb1⟩
    obtain ⟨⟨q0, q1, q2⟩, -⟩ := (hB.ext hb1 (by simp)).all3
    have hb01 := bstep hW hb1 hW.size
    go_wp2_with fail
    refine (storeView_any _ _ _ mem V vals _ (hm.ext hb01) (hv0.ext hb01) (hu.ext hb01) HS.out.1 HS.out.2).mono ?_; rintro e w2 ⟨r, rfl, ho, hb2⟩
    go_wp2
    go_ret2
    exact ⟨_, by rfl, by rw [HQ.out]; exact ho.mono hb01.size, bstep hb01 hb2 hb01.size⟩

set_option maxRecDepth 100000 in
set_option maxHeartbeats 1600000 in
theorem sStoreView_any (m v u : Value) (mem : List Int) (V : VL) (vals : List Int) (w : World) (hm : Ints w m mem) (hv : ViewV w v V) (hu : Ints w u vals) :
    Calls Try.prog 31 #[m, v, u] w (RetOwnB w (storeL mem V vals) (okStore mem V vals)) := by
  have hv0 := hv
  have hu0 := hu
  obtain ⟨sv, tv, rfl, hsv, htv⟩ := hv
  obtain ⟨A, c, rfl, hk, hmx, -⟩ := hu
  unfold maxLen at hmx
  have hB := Blk.new w 28 #[.int .i64 V.base, sv, tv]
  have hW := below_alloc w (.cells #[.int .i64 V.base, sv, tv] 28)
  cases c1 : holdL mem V
  · have HQ := hid (show okStore mem V vals = false ∧ storeL mem V vals = [] by simp [storeL, okStore, c1])
    go_enter Try.func31, Try.ntmps31
    go_wp2_with fail
    refine (sees_any _ _ mem V _ (hm.ext hW) (hv0.ext hW)).mono ?_; rintro e w1 ⟨rfl, hb1⟩
    go_wp2
    go_ret2
    exact ⟨_, by rw [HQ.out.1]; rfl, by rw [HQ.out.2]; exact Own.nil _ _, bstep hW hb1 hW.size⟩
  by_cases c2 : (vals.length : Int) = prodW V.shape
  · have c3 : ((vals.length : Int) != prodW V.shape) = false := by simp [c2]
    cases c4 : vals.all (inR · 0 255)
    · have HQ := hid (show okStore mem V vals = false ∧ storeL mem V vals = [] by simp [storeL, okStore, c1, c4])
      have HA := hid c4
      clear c4
      go_enter Try.func31, Try.ntmps31
      go_wp2_with fail
      refine (sees_any _ _ mem V _ (hm.ext hW) (hv0.ext hW)).mono ?_; rintro e w1 ⟨rfl, hb1⟩
      obtain ⟨⟨q0, q1, q2⟩, -⟩ := (hB.ext hb1 (by simp)).all3
      have hb01 := bstep hW hb1 hW.size
      go_wp2_with fail
      refine (count_any _ V.shape _ (hsv.ext hb01)).mono ?_; rintro e w1' ⟨rfl, rfl⟩
      go_wp2_with fail
      refine (allIn_any _ vals 0 255 _ (hu0.ext hb01)).mono ?_; rintro e w1' ⟨rfl, rfl⟩
      rw [HA.out]
      go_wp2
      go_ret2
      exact ⟨_, by rw [HQ.out.1]; rfl, by rw [HQ.out.2]; exact Own.nil _ _, hb01⟩
    · have HC := hid (show okStore mem V vals = true by simp only [okStore, c1, c2, c4]; simp)
      have HQ := hid (show storeL mem V vals = putW mem (offs V) vals by simp only [storeL, HC.out]; rfl)
      have HS := hid (okStore_and HC.out)
      have HA := hid c4
      clear c4
      go_enter Try.func31, Try.ntmps31
      go_wp2_with fail
      refine (sees_any _ _ mem V _ (hm.ext hW) (hv0.ext hW)).mono ?_; rintro e w1 ⟨rfl, hb1⟩
      obtain ⟨⟨q0, q1, q2⟩, -⟩ := (hB.ext hb1 (by simp)).all3
      have hb01 := bstep hW hb1 hW.size
      go_wp2_with fail
      refine (count_any _ V.shape _ (hsv.ext hb01)).mono ?_; rintro e w1' ⟨rfl, rfl⟩
      go_wp2_with fail
      refine (allIn_any _ vals 0 255 _ (hu0.ext hb01)).mono ?_; rintro e w1' ⟨rfl, rfl⟩
      rw [HA.out]
      go_wp2_with fail
      refine (put_any _ _ _ mem V vals _ (hm.ext hb01) (hv0.ext hb01) (hu0.ext hb01) HS.out.1 HS.out.2).mono ?_; rintro e w2 ⟨r, rfl, ho, hb2⟩
      go_wp2
      go_ret2
      exact ⟨_, by rw [HC.out]; rfl, by rw [HQ.out]; exact ho.mono hb01.size, bstep hb01 hb2 hb01.size⟩
  · have HQ := hid (show okStore mem V vals = false ∧ storeL mem V vals = [] by simp [storeL, okStore, c2])
    have c3 : ((vals.length : Int) != prodW V.shape) = true := by simp [c2]
    go_enter Try.func31, Try.ntmps31
    go_wp2_with fail
    refine (sees_any _ _ mem V _ (hm.ext hW) (hv0.ext hW)).mono ?_; rintro e w1 ⟨rfl, hb1⟩
    obtain ⟨⟨q0, q1, q2⟩, -⟩ := (hB.ext hb1 (by simp)).all3
    have hb01 := bstep hW hb1 hW.size
    go_wp2_with fail
    refine (count_any _ V.shape _ (hsv.ext hb01)).mono ?_; rintro e w1' ⟨rfl, rfl⟩
    go_wp2
    go_ret2
    exact ⟨_, by rw [HQ.out.1]; rfl, by rw [HQ.out.2]; exact Own.nil _ _, hb01⟩

end Go.Proofs.Ytmglcapjccbknaa
