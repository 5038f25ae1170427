/- Contracts of the laws' own helpers over rows of Views. No conditions. -/
import Derived.Test.YtldblcolnjkcaaaGw
import Derived.Test.YtldblcolnjkcaaaGr
import Derived.Test.YtldblcolnjkcaaaRR2
import Derived.Test.YtldblcolnjkcaaaRV
import Derived.Test.YtldblcolnjkcaaaL1
import Derived.Test.YtldblcolnjkcaaaL2v
import Derived.Deep.Cut
import Derived.Deep.LoopGhost
namespace Go.Proofs.Ytldblcolnjkcaaa
open Go.RowKit

set_option maxRecDepth 100000 in
set_option maxHeartbeats 6400000 in
theorem markViewS_any (v : Value) (us : List Value) (xs : List VL) (k0 B lo hi : Nat) (w : World) (h : OwnC 43 3 w B v xs.length us (flatR encV xs)) (hs : SegL v us lo hi) (hl : szR lenV xs ≤ 1048576) (hk0 : k0 ≤ 10000000) :
    Calls Try.prog 57 #[v, .int .i64 k0] w fun e w' => e = .returned (.int .i64 ((k0 + 1 * xs.length + wTo lenV xs xs.length : Nat) : Int)) ∧ Chg lo hi w w' := by
  obtain ⟨A, c, rfl⟩ := h.form
  obtain ⟨A', c', e', hk, hm⟩ := h.seen.form
  simp only [Value.slice.injEq, true_and] at e'
  obtain ⟨rfl, rfl⟩ := e'
  have hle : xs.length ≤ 1048576 := by unfold szR at hl; omega
  have htot : wTo lenV xs xs.length ≤ 1048576 := by unfold szR at hl; omega
  clear hl
  go_enter Try.func57, Try.ntmps57
  go_wp2_with fail
  go_loopg [1, 5] xs.length (fun g q i wr => ∃ (k : Nat) (us : List Value) (ds : List Cl), k ≤ xs.length ∧ g = xs.length - k ∧ i = .int .i64 k ∧ q = .int .i64 ((k0 + 1 * k + wTo lenV xs k : Nat) : Int) ∧
    OwnC 43 3 wr B (.slice A xs.length c) xs.length us ds ∧ SameC (flatR encV xs) ds ∧ SegL (.slice A xs.length c) us lo hi ∧ Chg lo hi w wr)
  case atStart => exact ⟨0, us, _, Nat.zero_le _, rfl, rfl, by simp [wTo], h, SameC.refl _, hs, Chg.refl lo hi w⟩
  case round =>
    obtain ⟨k, vs, ds, hk1, rfl, rfl, rfl, hown, hsm, hsg, hch⟩ := hrel
    clear h hs
    by_cases hlt : k < xs.length
    · obtain ⟨g, rfl, -, hgB, hgl⟩ := hown.head (by omega)
      obtain ⟨hglo, hghi⟩ := hsg.1 g rfl
      have hki : (k : Int) < (xs.length : Int) := by omega
      have hE := fun (j : Nat) (c : Cl) (hj : j < 3) (hc : (encV xs[k])[j]? = some c) => (flatR_get encV_len xs k j hlt hj).trans hc
      have hrl := wTo_le lenV hlt
      have hf : lenV xs[k] = xs[k].shape.length + xs[k].strides.length := rfl
      have HS := hid (wTo_succ lenV xs k hlt)
      obtain ⟨m0, hm0⟩ : ∃ m : Nat, m = k0 + 1 * k + wTo lenV xs k := ⟨_, rfl⟩
      rw [← hm0]
      have hb00 : m0 ≤ 20000000 := by omega
      have HM00 := hid hm0
      have HF := hid hf
      have hszb : xs[k].shape.length + xs[k].strides.length ≤ 1048576 := by omega
      clear hm0 hf hrl
      have hE0 : (flatR encV xs)[k * 3]? = some (.num xs[k].base) := hE 0 (.num xs[k].base) (by omega) rfl
      obtain ⟨u0, -, hx0⟩ := hown.cellAt hsm hE0
      have hf0 := hown.free (k * 3)
      have H0 := hown.putN (k * 3) (m0 : Int)
      have S0 := hsm.num (d := .num (m0 : Int)) hE0 (fun _ e => by cases e)
      have G0 := hsg.set (k * 3) (u := (.int .i64 (m0 : Int))) (Seg.num .i64 _ lo hi)
      have C0 := hch.trans (Chg.store (w := wr) (g := g) (i := k * 3) (.int .i64 (m0 : Int)) hglo hghi)
      obtain ⟨m1, hm0⟩ : ∃ m : Nat, m = m0 + 1 := ⟨_, rfl⟩
      have HM0 := hid hm0
      have hw0 : ((m0 : Int) + 1) = (m1 : Int) := by omega
      have HW0 := hid hw0
      have hb0 : m1 ≤ m0 + 1 := by omega
      clear hm0 hw0
      go_upto_region 6 with fail
      rw [HW0.out]
      clear hx0 hf0 hown hch hsm hsg
      generalize wr.setCell ⟨g, k * 3, none⟩ (.int .i64 (m0 : Int)) = w1 at *
      have hE1 : (flatR encV xs)[k * 3 + 1]? = some (.row xs[k].shape) := hE 1 (.row xs[k].shape) (by omega) rfl
      obtain ⟨u1, ys1, hu1, hx1, hl1, ho1⟩ := H0.rowAt S0 hE1
      obtain ⟨a1, c1, e1⟩ := ho1.form
      subst e1
      have HL1 := hid hl1
      have HU1 := hid hu1
      clear hl1 hu1
      go_wp2_with fail
      refine (markIntS_any _ ys1 m1 B _ ho1 (by have := HL1.out; omega) (by omega)).mono ?_; rintro e w2 ⟨rfl, hp1, hg1⟩
      have H1 := H0.set HU1.out hp1 hg1
      have S1 := S0.row (ys := marks m1 ys1.length) hE1 (by rw [marks_length]; exact HL1.out)
      have C1 := C0.trans (Chg.of_grown hg1 (G0.2 _ (List.mem_of_getElem? HU1.out)))
      obtain ⟨m2, hm1⟩ : ∃ m : Nat, m = m1 + ys1.length := ⟨_, rfl⟩
      rw [← hm1]
      have HM1 := hid hm1
      have hb1 : m2 ≤ m1 + 1048576 := by have := HL1.out; omega
      clear hm1 hx1 ho1 hp1 hg1 H0 C0 S0
      have hE2 : (flatR encV xs)[k * 3 + 2]? = some (.row xs[k].strides) := hE 2 (.row xs[k].strides) (by omega) rfl
      obtain ⟨u2, ys2, hu2, hx2, hl2, ho2⟩ := H1.rowAt S1 hE2
      obtain ⟨a2, c2, e2⟩ := ho2.form
      subst e2
      have HL2 := hid hl2
      have HU2 := hid hu2
      clear hl2 hu2
      go_wp2_with fail
      refine (markIntS_any _ ys2 m2 B _ ho2 (by have := HL2.out; omega) (by omega)).mono ?_; rintro e w3 ⟨rfl, hp2, hg2⟩
      have H2 := H1.set HU2.out hp2 hg2
      have S2 := S1.row (ys := marks m2 ys2.length) hE2 (by rw [marks_length]; exact HL2.out)
      have C2 := C1.trans (Chg.of_grown hg2 (G0.2 _ (List.mem_of_getElem? HU2.out)))
      obtain ⟨m3, hm2⟩ : ∃ m : Nat, m = m2 + ys2.length := ⟨_, rfl⟩
      rw [← hm2]
      have HM2 := hid hm2
      have hb2 : m3 ≤ m2 + 1048576 := by have := HL2.out; omega
      clear hm2 hx2 ho2 hp2 hg2 H1 C1 S1
      have HO := hid (And.intro H2 (And.intro S2 (And.intro G0 C2)))
      clear H2 S2 G0 C2 hE
      have HFIN := hid (show m3 = k0 + 1 * (k + 1) + wTo lenV xs (k + 1) by rw [HS.out, HF.out]; have := HM00.out; have := HM0.out; have := HM1.out; have := HL1.out; have := HM2.out; have := HL2.out; omega)
      go_wp2
      go_roundg (xs.length - (k + 1))
      case rel => exact ⟨k + 1, _, _, by omega, rfl, by go_num, by rw [HFIN.out], HO.out⟩
      case measure => omega
    · obtain rfl : xs.length = k := by omega
      clear hown
      go_wp2
      go_ret
      exact ⟨rfl, hch⟩

end Go.Proofs.Ytldblcolnjkcaaa
