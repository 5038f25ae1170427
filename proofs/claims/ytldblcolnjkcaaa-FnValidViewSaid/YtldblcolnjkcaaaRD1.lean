/- Contract: the reader's numbers. No conditions. -/
import Derived.Test.YtldblcolnjkcaaaT0
import Derived.Laws.BitsLemmas
import Derived.Deep.Cut
import Derived.Deep.QuietTactic
import Derived.BigQuiet
namespace Go.Proofs.Ytldblcolnjkcaaa
open Go.RowKit

/-- A reader in block g, at place p; its bytes lie below N. -/
def Rd (N : Nat) (w : World) (g p : Nat) : Prop :=
  N ≤ g ∧ ∃ A n c, Blk w g 129 #[.slice A n c, .int .i64 p] ∧ n ≤ 2000 ∧ n ≤ c ∧ c ≤ 9223372036854775807 ∧
    (0 < n → ∃ b off, A = some ⟨b, off, none⟩ ∧ b < N ∧ ∀ j, j < n → ∃ x : Int, 0 ≤ x ∧ x ≤ 255 ∧ w.cell? ⟨b, off + j, none⟩ = some (.int .u8 x))
theorem Rd.keep {N : Nat} {w w' : World} {g p : Nat} (h : Rd N w g p) (hb : Below N w w') (hg : w'.heap[g]? = w.heap[g]?) : Rd N w' g p := by
  obtain ⟨h0, A, n, c, h1, h2, h3, h4, h5⟩ := h
  refine ⟨h0, A, n, c, hg.trans h1, h2, h3, h4, fun hn => ?_⟩
  obtain ⟨b, off, e, hlt, hc⟩ := h5 hn
  refine ⟨b, off, e, hlt, fun j hj => ?_⟩
  obtain ⟨x, hx0, hx1, hx⟩ := hc j hj
  exact ⟨x, hx0, hx1, (hb.cell (p := ⟨b, off + j, none⟩) hlt).trans hx⟩
theorem Rd.lt {N : Nat} {w : World} {g p : Nat} (h : Rd N w g p) : N ≤ g ∧ g < w.heap.size := by
  obtain ⟨h0, A, n, c, h1, -⟩ := h
  exact ⟨h0, h1.lt⟩
theorem Rd.nx {N : Nat} {w w' : World} {g p : Nat} (h : Rd N w g p) (hb : Below w.heap.size w w') : Rd N w' g p :=
  h.keep (hb.mono (by have := h.lt; omega)) (hb.block g h.lt.2)
theorem xor_i64 (a b : Nat) (ha : a < 2 ^ 62) (hb : b < 2 ^ 62) : 0 ≤ bits .xor .i64 (a : Int) (b : Int) ∧ bits .xor .i64 (a : Int) (b : Int) ≤ 4611686018427387903 := by
  have e : bits .xor .i64 (a : Int) (b : Int) = ((a ^^^ b : Nat) : Int) := by
    have ha' : a % 2 ^ 64 = a := Nat.mod_eq_of_lt (by omega)
    have hb' : b % 2 ^ 64 = b := Nat.mod_eq_of_lt (by omega)
    have hx := Nat.xor_lt_two_pow ha hb
    show IntKind.i64.wrap ((BitVec.ofInt 64 (a : Int) ^^^ BitVec.ofInt 64 (b : Int)).toNat : Int) = _
    rw [BitVec.toNat_xor, BitVec.ofInt_natCast, BitVec.ofInt_natCast, BitVec.toNat_ofNat, BitVec.toNat_ofNat, ha', hb']
    exact IntWalk.i64_in _ (by omega)
  have hx := Nat.xor_lt_two_pow ha hb
  rw [e]
  omega

set_option maxRecDepth 100000 in
set_option maxHeartbeats 6400000 in
theorem pick_any (N g p : Nat) (n : Nat) (w : World) (h : Rd N w g p) (hp : p ≤ 1000000) (hn : 1 ≤ n ∧ n ≤ 100000) :
    Calls Try.prog 89 #[.pointer (some ⟨g, 0, none⟩), .int .i64 n] w fun e w' =>
      ∃ r : Nat, e = .returned (.int .i64 r) ∧ r < n ∧ Rd N w' g (p + 1) ∧ w.grownBy w' (some g) := by
  obtain ⟨h0, A, L, c, h1, h2, h3, h4, h5⟩ := id h
  have hw1 := h1.set_ 1 (.int .i64 ((p : Int) + 1))
  simp only [List.setIfInBounds_toArray, List.set_cons_zero, List.set_cons_succ] at hw1
  have hgr := grown_set w ⟨g, 1, none⟩ (.int .i64 ((p : Int) + 1))
  have hb := (Below.refl N w).setCell (p := ⟨g, 1, none⟩) h0 (.int .i64 ((p : Int) + 1))
  obtain ⟨⟨q0, q1⟩, r0, r1⟩ := h1.all2
  have hnn : ¬ (n : Int) < 1 := by omega
  have hnz : ¬ n = 0 := by omega
  have hR : Rd N (w.setCell ⟨g, 1, none⟩ (.int .i64 ((p : Int) + 1))) g (p + 1) := by
    refine ⟨h0, A, L, c, by simpa using hw1, h2, h3, h4, fun hl => ?_⟩
    obtain ⟨b, off, e, hlt, hc⟩ := h5 hl
    refine ⟨b, off, e, hlt, fun j hj => ?_⟩
    obtain ⟨x, hx0, hx1, hx⟩ := hc j hj
    exact ⟨x, hx0, hx1, (hb.cell (p := ⟨b, off + j, none⟩) hlt).trans hx⟩
  have HR := hid hR
  have HG := hid hgr
  by_cases hl0 : L = 0
  · subst hl0
    clear hR hgr hb h5
    go_enter Try.func89, Try.ntmps89
    go_upto_region 2 with fail
    generalize w.setCell ⟨g, 1, none⟩ (.int .i64 ((p : Int) + 1)) = w1 at *
    clear q0 q1 r0 r1
    obtain ⟨⟨q0, q1⟩, r0, r1⟩ := hw1.all2
    go_wp2
    go_ret
    exact ⟨0, rfl, by omega, HR.out, HG.out⟩
  obtain ⟨b, off, rfl, hbN, hcc⟩ := h5 (by omega)
  have hlz : ¬ (L : Int) = 0 := by omega
  have hlzb : ((L : Int) == 0) = false := by simp; omega
  by_cases hpl : p < L
  · obtain ⟨x, hx0, hx1, hx⟩ := hcc p hpl
    have hxx := (hb.cell (p := ⟨b, off + p, none⟩) hbN).trans hx
    clear hR hgr hb h5 hcc hx
    go_enter Try.func89, Try.ntmps89
    go_upto_region 2 with fail
    generalize w.setCell ⟨g, 1, none⟩ (.int .i64 ((p : Int) + 1)) = w1 at *
    clear q0 q1 r0 r1
    obtain ⟨⟨q0, q1⟩, r0, r1⟩ := hw1.all2
    have hmn : 0 ≤ x % (n : Int) ∧ x % (n : Int) < (n : Int) := ⟨Int.emod_nonneg _ (by omega), Int.emod_lt_of_pos _ (by omega)⟩
    have HM := hid hmn
    clear hmn
    go_wp2
    go_ret
    exact ⟨(x % (n : Int)).toNat, ret_int (by have := HM.out; omega), by have := HM.out; omega, HR.out, HG.out⟩
  · obtain ⟨x1, hx1, hy1, hc1⟩ := hcc (p % L) (Nat.mod_lt _ (by omega))
    obtain ⟨x2, hx2, hy2, hc2⟩ := hcc ((p * 7 + 3) % L) (Nat.mod_lt _ (by omega))
    have hd1 := (hb.cell (p := ⟨b, off + p % L, none⟩) hbN).trans hc1
    have hd2 := (hb.cell (p := ⟨b, off + (p * 7 + 3) % L, none⟩) hbN).trans hc2
    have m1 : 0 ≤ (p : Int) % (L : Int) := Int.emod_nonneg _ (by omega)
    have m2 : (p : Int) % (L : Int) < (L : Int) := Int.emod_lt_of_pos _ (by omega)
    have m3 : 0 ≤ ((p : Int) * 7 + 3) % (L : Int) := Int.emod_nonneg _ (by omega)
    have m4 : ((p : Int) * 7 + 3) % (L : Int) < (L : Int) := Int.emod_lt_of_pos _ (by omega)
    have t1 : ((p : Int) % (L : Int)).toNat = p % L := by rw [← Int.natCast_emod]; exact Int.toNat_natCast _
    have t2 : (((p : Int) * 7 + 3) % (L : Int)).toNat = (p * 7 + 3) % L := by rw [show ((p : Int) * 7 + 3) = ((p * 7 + 3 : Nat) : Int) by omega, ← Int.natCast_emod]; exact Int.toNat_natCast _
    have d1 : 0 ≤ (p : Int) / (L : Int) := Int.ediv_nonneg (by omega) (by omega)
    have d2 : (p : Int) / (L : Int) ≤ (p : Int) := Int.ediv_le_self _ (by omega)
    have hpl2 : ¬ (p : Int) < (L : Int) := by omega
    clear hR hgr hb h5 hcc hc1 hc2
    go_enter Try.func89, Try.ntmps89
    go_upto_region 2 with fail
    generalize w.setCell ⟨g, 1, none⟩ (.int .i64 ((p : Int) + 1)) = w1 at *
    clear q0 q1 r0 r1
    obtain ⟨⟨q0, q1⟩, r0, r1⟩ := hw1.all2
    go_upto_region 7 with fail
    go_quiet (fail)
    go_upto_region 8 with fail
    have hYb : 0 ≤ x1 * 131 + x2 * 1117 + (p : Int) * 29 + (p : Int) / (L : Int) * 53 ∧ x1 * 131 + x2 * 1117 + (p : Int) * 29 + (p : Int) / (L : Int) * 53 ≤ 1000000000000 := by
      generalize (p : Int) / (L : Int) = D at *
      omega
    generalize x1 * 131 + x2 * 1117 + (p : Int) * 29 + (p : Int) / (L : Int) * 53 = Y at *
    obtain ⟨y, rfl⟩ := Int.eq_ofNat_of_zero_le hYb.1
    have hxr := xor_i64 y (y / 64) (by omega) (by omega)
    rw [show ((y / 64 : Nat) : Int) = (y : Int) / 64 by omega] at hxr
    go_upto_region 9 with fail
    generalize bits BinOp.xor IntKind.i64 (y : Int) ((y : Int) / 64) = Z at *
    have hmn : 0 ≤ Z % (n : Int) ∧ Z % (n : Int) < (n : Int) := ⟨Int.emod_nonneg _ (by omega), Int.emod_lt_of_pos _ (by omega)⟩
    have HM := hid hmn
    clear hmn
    go_wp2
    go_ret
    exact ⟨(Z % (n : Int)).toNat, ret_int (by have := HM.out; omega), by have := HM.out; omega, HR.out.nx (below_drewN w1 _), HG.out.trans ⟨rfl, rfl, rfl, Nat.le_refl _, fun _ _ _ => rfl⟩⟩

end Go.Proofs.Ytldblcolnjkcaaa
