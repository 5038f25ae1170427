/- Contracts of the laws' own helpers over rows of Tensors. No conditions. -/
import Derived.Test.YtldblcolnjkcaaaGw
import Derived.Test.YtldblcolnjkcaaaGr
import Derived.Test.YtldblcolnjkcaaaRR2
import Derived.Test.YtldblcolnjkcaaaRT
import Derived.Test.YtldblcolnjkcaaaL1
import Derived.Test.YtldblcolnjkcaaaL3
import Derived.Test.YtldblcolnjkcaaaL5
import Derived.Deep.Cut
import Derived.Deep.LoopGhost
namespace Go.Proofs.Ytldblcolnjkcaaa
open Go.RowKit

set_option maxRecDepth 100000 in
set_option maxHeartbeats 6400000 in
theorem markTensorS_any (v : Value) (us : List Value) (xs : List TL) (k0 B lo hi : Nat) (w : World) (h : OwnC 75 2 w B v xs.length us (flatR encT xs)) (hs : SegL v us lo hi) (hl : szR lenT xs ≤ 1048576) (hk0 : k0 ≤ 10000000) :
    Calls Try.prog 76 #[v, .int .i64 k0] w fun e w' => e = .returned (.int .i64 ((k0 + wTo lenT xs xs.length : Nat) : Int)) ∧ Chg lo hi w w' := by
  obtain ⟨A, c, rfl⟩ := h.form
  obtain ⟨A', c', e', hk, hm⟩ := h.seen.form
  simp only [Value.slice.injEq, true_and] at e'
  obtain ⟨rfl, rfl⟩ := e'
  have hle : xs.length ≤ 1048576 := by unfold szR at hl; omega
  have htot : wTo lenT xs xs.length ≤ 1048576 := by unfold szR at hl; omega
  clear hl
  go_enter Try.func76, Try.ntmps76
  go_wp2_with fail
  go_loopg [1, 5] xs.length (fun g q i wr => ∃ (k : Nat) (us : List Value) (ds : List Cl), k ≤ xs.length ∧ g = xs.length - k ∧ i = .int .i64 k ∧ q = .int .i64 ((k0 + wTo lenT xs k : Nat) : Int) ∧
    OwnC 75 2 wr B (.slice A xs.length c) xs.length us ds ∧ SameC (flatR encT xs) ds ∧ SegL (.slice A xs.length c) us lo hi ∧ Chg lo hi w wr)
  case atStart => exact ⟨0, us, _, Nat.zero_le _, rfl, rfl, by simp [wTo], h, SameC.refl _, hs, Chg.refl lo hi w⟩
  case round =>
    obtain ⟨k, vs, ds, hk1, rfl, rfl, rfl, hown, hsm, hsg, hch⟩ := hrel
    clear h hs
    by_cases hlt : k < xs.length
    · obtain ⟨g, rfl, -, hgB, hgl⟩ := hown.head (by omega)
      obtain ⟨hglo, hghi⟩ := hsg.1 g rfl
      have hki : (k : Int) < (xs.length : Int) := by omega
      have hE := fun (j : Nat) (c : Cl) (hj : j < 2) (hc : (encT xs[k])[j]? = some c) => (flatR_get encT_len xs k j hlt hj).trans hc
      have hrl := wTo_le lenT hlt
      have hf : lenT xs[k] = xs[k].shape.length + xs[k].values.length := rfl
      have HS := hid (wTo_succ lenT xs k hlt)
      obtain ⟨m0, hm0⟩ : ∃ m : Nat, m = k0 + wTo lenT xs k := ⟨_, rfl⟩
      rw [← hm0]
      have hb00 : m0 ≤ 20000000 := by omega
      have HM00 := hid hm0
      have HF := hid hf
      have hszb : xs[k].shape.length + xs[k].values.length ≤ 1048576 := by omega
      clear hm0 hf hrl
      have hE0 : (flatR encT xs)[k * 2]? = some (.row xs[k].shape) := hE 0 (.row xs[k].shape) (by omega) rfl
      obtain ⟨u0, ys0, hu0, hx0, hl0, ho0⟩ := hown.rowAt hsm hE0
      obtain ⟨a0, c0, e0⟩ := ho0.form
      subst e0
      have HL0 := hid hl0
      have HU0 := hid hu0
      clear hl0 hu0
      go_wp2_with fail
      refine (markIntS_any _ ys0 m0 B _ ho0 (by have := HL0.out; omega) (by omega)).mono ?_; rintro e w1 ⟨rfl, hp0, hg0⟩
      have H0 := hown.set HU0.out hp0 hg0
      have S0 := hsm.row (ys := marks m0 ys0.length) hE0 (by rw [marks_length]; exact HL0.out)
      have C0 := hch.trans (Chg.of_grown hg0 (hsg.2 _ (List.mem_of_getElem? HU0.out)))
      obtain ⟨m1, hm0⟩ : ∃ m : Nat, m = m0 + ys0.length := ⟨_, rfl⟩
      rw [← hm0]
      have HM0 := hid hm0
      have hb0 : m1 ≤ m0 + 1048576 := by have := HL0.out; omega
      clear hm0 hx0 ho0 hp0 hg0 hown hch hsm
      have hE1 : (flatR encT xs)[k * 2 + 1]? = some (.row xs[k].values) := hE 1 (.row xs[k].values) (by omega) rfl
      obtain ⟨u1, ys1, hu1, hx1, hl1, ho1⟩ := H0.rowAt S0 hE1
      obtain ⟨a1, c1, e1⟩ := ho1.form
      subst e1
      have HL1 := hid hl1
      have HU1 := hid hu1
      clear hl1 hu1
      go_wp2_with fail
      refine (markIntS_any _ ys1 m1 B _ ho1 (by have := HL1.out; omega) (by omega)).mono ?_; rintro e w2 ⟨rfl, hp1, hg1⟩
      have H1 := H0.set HU1.out hp1 hg1
      have S1 := S0.row (ys := marks m1 ys1.length) hE1 (by rw [marks_length]; exact HL1.out)
      have C1 := C0.trans (Chg.of_grown hg1 (hsg.2 _ (List.mem_of_getElem? HU1.out)))
      obtain ⟨m2, hm1⟩ : ∃ m : Nat, m = m1 + ys1.length := ⟨_, rfl⟩
      rw [← hm1]
      have HM1 := hid hm1
      have hb1 : m2 ≤ m1 + 1048576 := by have := HL1.out; omega
      clear hm1 hx1 ho1 hp1 hg1 H0 C0 S0
      have HO := hid (And.intro H1 (And.intro S1 (And.intro hsg C1)))
      clear H1 S1 hsg C1 hE
      have HFIN := hid (show m2 = k0 + wTo lenT xs (k + 1) by rw [HS.out, HF.out]; have := HM00.out; have := HM0.out; have := HL0.out; have := HM1.out; have := HL1.out; omega)
      go_wp2
      go_roundg (xs.length - (k + 1))
      case rel => exact ⟨k + 1, _, _, by omega, rfl, by go_num, by rw [HFIN.out], HO.out⟩
      case measure => omega
    · obtain rfl : xs.length = k := by omega
      clear hown
      go_wp2
      go_ret
      exact ⟨rfl, hch⟩

end Go.Proofs.Ytldblcolnjkcaaa
