/- Contracts: the laws' own comparison of views; numbers from 0 on. No conditions. -/
import Derived.Test.YtldblcolnjkcaaaLEa
import Derived.Test.YtldblcolnjkcaaaNVp
namespace Go.Proofs.Ytldblcolnjkcaaa
open Go.RowKit

set_option maxRecDepth 100000 in
set_option maxHeartbeats 6400000 in
theorem equalView_same (v u : Value) (V : VL) (w : World) (h : ViewV w v V) (k : ViewV w u V) :
    Calls Try.prog 31 #[v, u] w fun e w' => e = .returned (.bool true) ∧ Below w.heap.size w w' := by
  obtain ⟨s1, t1, rfl, hs1, ht1⟩ := h
  obtain ⟨s2, t2, rfl, hs2, ht2⟩ := k
  obtain ⟨A1, c1, rfl⟩ := hs1.form
  obtain ⟨A2, c2, rfl⟩ := ht1.form
  obtain ⟨A3, c3, rfl⟩ := hs2.form
  obtain ⟨A4, c4, rfl⟩ := ht2.form
  have hA := (Blk.new w 43 #[.int .i64 V.base, .slice A1 V.shape.length c1, .slice A2 V.strides.length c2]).alloc (.cells #[.int .i64 V.base, .slice A3 V.shape.length c3, .slice A4 V.strides.length c4] 43)
  have hB := Blk.new (w.alloc (.cells #[.int .i64 V.base, .slice A1 V.shape.length c1, .slice A2 V.strides.length c2] 43)) 43 #[.int .i64 V.base, .slice A3 V.shape.length c3, .slice A4 V.strides.length c4]
  simp only [World.size_alloc] at hB
  have hW : Below w.heap.size w ((w.alloc (.cells #[.int .i64 V.base, .slice A1 V.shape.length c1, .slice A2 V.strides.length c2] 43)).alloc (.cells #[.int .i64 V.base, .slice A3 V.shape.length c3, .slice A4 V.strides.length c4] 43)) := ((Below.refl _ _).alloc (Nat.le_refl _) _).alloc (by simp) _
  go_enter Try.func31, Try.ntmps31
  go_upto_region 1 with fail
  generalize ((w.alloc (.cells #[.int .i64 V.base, .slice A1 V.shape.length c1, .slice A2 V.strides.length c2] 43)).alloc (.cells #[.int .i64 V.base, .slice A3 V.shape.length c3, .slice A4 V.strides.length c4] 43)) = W1 at *
  obtain ⟨⟨q0, q1, q2⟩, -⟩ := id hA.all3
  obtain ⟨⟨r0, r1, r2⟩, -⟩ := id hB.all3
  have hs1 := hs1.ext hW
  have ht1 := ht1.ext hW
  have hs2 := hs2.ext hW
  have ht2 := ht2.ext hW
  have hbb : (V.base == V.base) = true := by simp
  go_wp2_with fail
  refine (equalInts_same _ _ _ _ hs1 hs2).mono ?_; rintro e w1 ⟨rfl, hb⟩
  have hA := hA.nx hb
  have hB := hB.nx hb
  have ht1 := ht1.nx hb
  have ht2 := ht2.nx hb
  have hW := hW.nx hb hW.size
  clear hb q0 q1 q2 r0 r1 r2
  obtain ⟨⟨q0, q1, q2⟩, -⟩ := id hA.all3
  obtain ⟨⟨r0, r1, r2⟩, -⟩ := id hB.all3
  go_wp2_with fail
  refine (equalInts_same _ _ _ _ ht1 ht2).mono ?_; rintro e w2 ⟨rfl, hb⟩
  go_wp2
  go_ret
  exact ⟨rfl, hW.nx hb hW.size⟩

set_option maxRecDepth 100000 in
set_option maxHeartbeats 6400000 in
theorem lupTo_any (n : Nat) (w : World) (hn : n ≤ 1000000) :
    Calls Try.prog 35 #[.int .i64 n] w (RetOwn w (upI n)) := by
  go_enter Try.func35, Try.ntmps35
  go_wp2_with fail
  go_loopg [3, 4] n (fun m out i wr => ∃ k : Nat, k ≤ n ∧ m = n - k ∧ i = .int .i64 k ∧ Own wr w.heap.size out (upI k) ∧ Below w.heap.size w wr)
  case atStart => exact ⟨0, Nat.zero_le _, rfl, rfl, Own.empty w rfl (Nat.le_refl _), below_alloc w _⟩
  case round =>
    obtain ⟨k, hk, hm, rfl, ho, hB⟩ := hrel
    have HM := hid hm
    have HO := hid ho
    obtain ⟨A, c, e⟩ := ho.form
    subst e
    have hsz := hB.size
    clear hm ho
    by_cases hlt : k < n
    · have hki : (k : Int) < (n : Int) := by omega
      have HL1 := hid (show (upI k).length ≤ 1000000000000 by rw [upI_length]; omega)
      have HU := hid (upI_succ k)
      go_wp2_with (at_builtin; refine app1 _ rfl _ _ rfl w.heap.size _ (upI k) rfl (HO.out.alloc _) ⟨wr.heap.size, 0, none⟩ 1 k rfl (cell_new1 _ _ _) HL1.out (le_alloc hsz _) ?_)
      intro v1 w1 ho1 hg1 hat1
      have hq := hB.trans (((below_alloc wr (.cells #[.int .i64 (k : Int)] 3)).mono hsz).trans ((HO.out.alloc _).under hg1 (le_alloc hsz _)))
      clear hg1 hat1
      go_wp2
      go_roundg (n - (k + 1))
      case measure => have := HM.out; omega
      case rel => exact ⟨k + 1, by omega, rfl, by go_num, by rw [HU.out]; exact ho1, hq⟩
    · have hki : ¬ (k : Int) < (n : Int) := by omega
      obtain rfl : k = n := by omega
      go_wp2
      go_ret
      exact ⟨_, rfl, HO.out, hB⟩

end Go.Proofs.Ytldblcolnjkcaaa
