/- Contracts of the laws' own helpers over rows of Exports. No conditions. -/
import Derived.Test.YtfiphjifnjnmbaaGw
import Derived.Test.YtfiphjifnjnmbaaGr
import Derived.Test.YtfiphjifnjnmbaaRR2
import Derived.Test.YtfiphjifnjnmbaaRE
import Derived.Test.YtfiphjifnjnmbaaL1
import Derived.Test.YtfiphjifnjnmbaaLX1
import Derived.Deep.Cut
import Derived.Deep.LoopGhost
namespace Go.Proofs.Ytfiphjifnjnmbaa
open Go.RowKit

set_option maxRecDepth 100000 in
set_option maxHeartbeats 6400000 in
theorem markExportS_any (v : Value) (us : List Value) (xs : List EL) (k0 B lo hi : Nat) (w : World) (h : OwnC 70 5 w B v xs.length us (flatR encE xs)) (hs : SegL v us lo hi) (hl : szR lenE xs ≤ 1048576) (hk0 : k0 ≤ 10000000) :
    Calls Try.prog 55 #[v, .int .i64 k0] w fun e w' => e = .returned (.int .i64 ((k0 + 3 * xs.length + wTo lenE xs xs.length : Nat) : Int)) ∧ Chg lo hi w w' := by
  obtain ⟨A, c, rfl⟩ := h.form
  obtain ⟨A', c', e', hk, hm⟩ := h.seen.form
  simp only [Value.slice.injEq, true_and] at e'
  obtain ⟨rfl, rfl⟩ := e'
  have hle : xs.length ≤ 1048576 := by unfold szR at hl; omega
  have htot : wTo lenE xs xs.length ≤ 1048576 := by unfold szR at hl; omega
  clear hl
  go_enter Try.func55, Try.ntmps55
  go_wp2_with fail
  go_loopg [1, 5] xs.length (fun g q i wr => ∃ (k : Nat) (us : List Value) (ds : List Cl), k ≤ xs.length ∧ g = xs.length - k ∧ i = .int .i64 k ∧ q = .int .i64 ((k0 + 3 * k + wTo lenE xs k : Nat) : Int) ∧
    OwnC 70 5 wr B (.slice A xs.length c) xs.length us ds ∧ SameC (flatR encE xs) ds ∧ SegL (.slice A xs.length c) us lo hi ∧ Chg lo hi w wr)
  case atStart => exact ⟨0, us, _, Nat.zero_le _, rfl, rfl, by simp [wTo], h, SameC.refl _, hs, Chg.refl lo hi w⟩
  case round =>
    obtain ⟨k, vs, ds, hk1, rfl, rfl, rfl, hown, hsm, hsg, hch⟩ := hrel
    clear h hs
    by_cases hlt : k < xs.length
    · obtain ⟨g, rfl, -, hgB, hgl⟩ := hown.head (by omega)
      obtain ⟨hglo, hghi⟩ := hsg.1 g rfl
      have hki : (k : Int) < (xs.length : Int) := by omega
      have hE := fun (j : Nat) (c : Cl) (hj : j < 5) (hc : (encE xs[k])[j]? = some c) => (flatR_get encE_len xs k j hlt hj).trans hc
      have hrl := wTo_le lenE hlt
      have hf : lenE xs[k] = xs[k].view.shape.length + xs[k].view.strides.length := rfl
      have HS := hid (wTo_succ lenE xs k hlt)
      obtain ⟨m0, hm0⟩ : ∃ m : Nat, m = k0 + 3 * k + wTo lenE xs k := ⟨_, rfl⟩
      rw [← hm0]
      have hb00 : m0 ≤ 20000000 := by omega
      have HM00 := hid hm0
      have HF := hid hf
      have hszb : xs[k].view.shape.length + xs[k].view.strides.length ≤ 1048576 := by omega
      clear hm0 hf hrl
      have hE0 : (flatR encE xs)[k * 5]? = some (.num xs[k].parent) := hE 0 (.num xs[k].parent) (by omega) rfl
      obtain ⟨u0, -, hx0⟩ := hown.cellAt hsm hE0
      have hf0 := hown.free (k * 5)
      have H0 := hown.putN (k * 5) (m0 : Int)
      have S0 := hsm.num (d := .num (m0 : Int)) hE0 (fun _ e => by cases e)
      have G0 := hsg.set (k * 5) (u := (.int .i64 (m0 : Int))) (Seg.num .i64 _ lo hi)
      have C0 := hch.trans (Chg.store (w := wr) (g := g) (i := k * 5) (.int .i64 (m0 : Int)) hglo hghi)
      obtain ⟨m1, hm0⟩ : ∃ m : Nat, m = m0 + 1 := ⟨_, rfl⟩
      have HM0 := hid hm0
      have hw0 : ((m0 : Int) + 1) = (m1 : Int) := by omega
      have HW0 := hid hw0
      have hb0 : m1 ≤ m0 + 1 := by omega
      clear hm0 hw0
      go_upto_region 6 with fail
      rw [HW0.out]
      clear hx0 hf0 hown hch hsm hsg
      generalize wr.setCell ⟨g, k * 5, none⟩ (.int .i64 (m0 : Int)) = w1 at *
      have hE1 : (flatR encE xs)[k * 5 + 1]? = some (.num xs[k].view.base) := hE 1 (.num xs[k].view.base) (by omega) rfl
      obtain ⟨u1, -, hx1⟩ := H0.cellAt S0 hE1
      have hf1 := H0.free (k * 5 + 1)
      have H1 := H0.putN (k * 5 + 1) (m1 : Int)
      have S1 := S0.num (d := .num (m1 : Int)) hE1 (fun _ e => by cases e)
      have G1 := G0.set (k * 5 + 1) (u := (.int .i64 (m1 : Int))) (Seg.num .i64 _ lo hi)
      have C1 := C0.trans (Chg.store (w := w1) (g := g) (i := k * 5 + 1) (.int .i64 (m1 : Int)) hglo hghi)
      obtain ⟨m2, hm1⟩ : ∃ m : Nat, m = m1 + 1 := ⟨_, rfl⟩
      have HM1 := hid hm1
      have hw1 : ((m1 : Int) + 1) = (m2 : Int) := by omega
      have HW1 := hid hw1
      have hb1 : m2 ≤ m1 + 1 := by omega
      clear hm1 hw1
      go_upto_region 8 with fail
      rw [HW1.out]
      clear hx1 hf1 H0 C0 S0 G0
      generalize w1.setCell ⟨g, k * 5 + 1, none⟩ (.int .i64 (m1 : Int)) = w2 at *
      have hE2 : (flatR encE xs)[k * 5 + 2]? = some (.row xs[k].view.shape) := hE 2 (.row xs[k].view.shape) (by omega) rfl
      obtain ⟨u2, ys2, hu2, hx2, hl2, ho2⟩ := H1.rowAt S1 hE2
      obtain ⟨a2, c2, e2⟩ := ho2.form
      subst e2
      have HL2 := hid hl2
      have HU2 := hid hu2
      clear hl2 hu2
      go_wp2_with fail
      refine (markIntS_any _ ys2 m2 B _ ho2 (by have := HL2.out; omega) (by omega)).mono ?_; rintro e w3 ⟨rfl, hp2, hg2⟩
      have H2 := H1.set HU2.out hp2 hg2
      have S2 := S1.row (ys := marks m2 ys2.length) hE2 (by rw [marks_length]; exact HL2.out)
      have C2 := C1.trans (Chg.of_grown hg2 (G1.2 _ (List.mem_of_getElem? HU2.out)))
      obtain ⟨m3, hm2⟩ : ∃ m : Nat, m = m2 + ys2.length := ⟨_, rfl⟩
      rw [← hm2]
      have HM2 := hid hm2
      have hb2 : m3 ≤ m2 + 1048576 := by have := HL2.out; omega
      clear hm2 hx2 ho2 hp2 hg2 H1 C1 S1
      have hE3 : (flatR encE xs)[k * 5 + 3]? = some (.row xs[k].view.strides) := hE 3 (.row xs[k].view.strides) (by omega) rfl
      obtain ⟨u3, ys3, hu3, hx3, hl3, ho3⟩ := H2.rowAt S2 hE3
      obtain ⟨a3, c3, e3⟩ := ho3.form
      subst e3
      have HL3 := hid hl3
      have HU3 := hid hu3
      clear hl3 hu3
      go_wp2_with fail
      refine (markIntS_any _ ys3 m3 B _ ho3 (by have := HL3.out; omega) (by omega)).mono ?_; rintro e w4 ⟨rfl, hp3, hg3⟩
      have H3 := H2.set HU3.out hp3 hg3
      have S3 := S2.row (ys := marks m3 ys3.length) hE3 (by rw [marks_length]; exact HL3.out)
      have C3 := C2.trans (Chg.of_grown hg3 (G1.2 _ (List.mem_of_getElem? HU3.out)))
      obtain ⟨m4, hm3⟩ : ∃ m : Nat, m = m3 + ys3.length := ⟨_, rfl⟩
      rw [← hm3]
      have HM3 := hid hm3
      have hb3 : m4 ≤ m3 + 1048576 := by have := HL3.out; omega
      clear hm3 hx3 ho3 hp3 hg3 H2 C2 S2
      have hE4 : (flatR encE xs)[k * 5 + 4]? = some (.bit xs[k].opn) := hE 4 (.bit xs[k].opn) (by omega) rfl
      obtain ⟨u4, -, hx4⟩ := H3.cellAt S3 hE4
      have hf4 := H3.free (k * 5 + 4)
      have H4 := H3.putB (k * 5 + 4) (decide ((m4 : Int) % 3 = 0))
      have S4 := S3.num (d := .bit (decide ((m4 : Int) % 3 = 0))) hE4 (fun _ e => by cases e)
      have G4 := G1.set (k * 5 + 4) (u := (.bool (decide ((m4 : Int) % 3 = 0)))) (Seg.bit _ lo hi)
      have C4 := C3.trans (Chg.store (w := w4) (g := g) (i := k * 5 + 4) (.bool (decide ((m4 : Int) % 3 = 0))) hglo hghi)
      obtain ⟨m5, hm4⟩ : ∃ m : Nat, m = m4 + 1 := ⟨_, rfl⟩
      have HM4 := hid hm4
      have hw4 : ((m4 : Int) + 1) = (m5 : Int) := by omega
      have HW4 := hid hw4
      have hb4 : m5 ≤ m4 + 1 := by omega
      clear hm4 hw4
      clear H3 C3 S3 G1
      have HO := hid (And.intro H4 (And.intro S4 (And.intro G4 C4)))
      clear H4 S4 G4 C4 hE
      have HFIN := hid (show m5 = k0 + 3 * (k + 1) + wTo lenE xs (k + 1) by rw [HS.out, HF.out]; have := HM00.out; have := HM0.out; have := HM1.out; have := HM2.out; have := HL2.out; have := HM3.out; have := HL3.out; have := HM4.out; omega)
      go_wp2
      go_roundg (xs.length - (k + 1))
      case rel => exact ⟨k + 1, _, _, by omega, rfl, by go_num, by rw [HW4.out, HFIN.out], HO.out⟩
      case measure => omega
    · obtain rfl : xs.length = k := by omega
      clear hown
      go_wp2
      go_ret
      exact ⟨rfl, hch⟩

end Go.Proofs.Ytfiphjifnjnmbaa
