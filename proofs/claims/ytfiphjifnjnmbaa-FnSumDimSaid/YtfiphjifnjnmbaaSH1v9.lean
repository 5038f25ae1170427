/- Contracts: drawn shapes. No conditions. -/
import Derived.Test.YtfiphjifnjnmbaaDD
import Derived.Test.YtfiphjifnjnmbaaS1
import Derived.Test.YtfiphjifnjnmbaaC3
namespace Go.Proofs.Ytfiphjifnjnmbaa
open Go.RowKit

theorem isShapeL_snoc {xs : List Int} {x : Int} (h : isShapeL xs = true) (hl : xs.length < 4) (hx : 0 ≤ x ∧ x ≤ 60) (hp : prodI xs * x ≤ 60) : isShapeL (xs ++ [x]) = true := by
  obtain ⟨h1, h2, -⟩ := shape_ext h
  have h2' : ∀ y ∈ xs ++ [x], 0 ≤ y ∧ y ≤ 60 := fun y hy => by
    rcases List.mem_append.1 hy with hy | hy
    · exact h2 y hy
    · simp at hy; subst hy; exact hx
  have b := prodW_eq (xs := xs ++ [x]) (by simp; omega) h2'
  simp only [isShapeL, Bool.and_eq_true, decide_eq_true_eq, List.all_eq_true, okExt, inR_iff]
  exact ⟨⟨by simp; omega, h2'⟩, by rw [b.1, prodI_snoc]; exact hp⟩
/-- What drawing a shape leaves. -/
def RetShapeR (N g p : Nat) (w : World) (e : Ending) (w' : World) : Prop := ∃ (u : Value) (xs : List Int) (q : Nat), e = .returned u ∧ isShapeL xs = true ∧ (∀ x ∈ xs, x ≤ 5) ∧ Own w' w.heap.size u xs ∧ q ≤ p + 5 ∧ Rd N w' g q ∧ w.grownBy w' (some g)

set_option maxRecDepth 100000 in
set_option maxHeartbeats 6400000 in
theorem goodShape_any (N g p : Nat) (w : World) (h : Rd N w g p) (hp : p ≤ 900000) :
    Calls Try.prog 59 #[.pointer (some ⟨g, 0, none⟩)] w (RetShapeR N g p w) := by
  have HM0 := hid (DMid.start h)
  go_enter Try.func59, Try.ntmps59
  go_upto_region 2 with fail
  obtain ⟨b0, hb0⟩ : ∃ b, b = w.heap.size := ⟨_, rfl⟩
  rw [← hb0] at HM0 ⊢
  have HB0 := hid hb0
  clear hb0
  generalize w.alloc (.cells #[] 3) = w0 at *
  have hL : Own (w0.alloc (.cells #[.int .i64 2, .int .i64 1, .int .i64 3, .int .i64 2, .int .i64 0, .int .i64 4] 3)) w0.heap.size (.slice (some ⟨w0.heap.size, 0, none⟩) 6 6) [2, 1, 3, 2, 0, 4] := own_lit w0 [2, 1, 3, 2, 0, 4] (by simp)
  have HA := hid (HM0.out.nx (below_alloc w0 (.cells #[.int .i64 2, .int .i64 1, .int .i64 3, .int .i64 2, .int .i64 0, .int .i64 4] 3)))
  have HE := hid (HM0.out.rd.lit 6 6)
  go_wp2_with fail
  refine (one_any _ _ (p) _ _ _ _ HA.out.rd (by omega) hL (by simp) HE.out).mono ?_; rintro e w1 ⟨r, hr, rfl, hR, hG⟩
  have HM1 := hid (HA.out.ate hR hG)
  obtain ⟨n, ey, hn⟩ : ∃ y : Int, [2, 1, 3, 2, 0, 4][r] = y ∧ y ∈ ([2, 1, 3, 2, 0, 4] : List Int) := ⟨_, rfl, List.getElem_mem hr⟩
  rw [ey]
  clear hR hG ey hr hL HA HE
  obtain ⟨k, hk, hk4⟩ : ∃ k : Nat, n = (k : Int) ∧ k ≤ 4 := ⟨n.toNat, by simp at hn; omega⟩
  subst hk
  clear hn
  go_wp2_with fail
  go_loopg [3, 4, 5] k (fun m' out z z5 wr => ∃ (j q : Nat) (xs : List Int), m' = j ∧ z = .int .i64 j ∧ q + j ≤ p + 5 ∧ xs.length + j ≤ 4 ∧ Hid (isShapeL xs = true) ∧ Hid (∀ x ∈ xs, x ≤ 5) ∧ DMid N g w b0 wr q out xs)
  case atStart => exact ⟨k, p + 1, [], rfl, rfl, by omega, by simp; omega, hid (by decide), hid (by simp), HM1.out⟩
  case round =>
    obtain ⟨j, q, xs, hm, rfl, hq, hxl, HS, H5, hM⟩ := hrel
    have HM := hid hm
    obtain ⟨Ao, co, eo⟩ := hM.own.form
    subst eo
    obtain ⟨w2, rfl⟩ : ∃ w2, w2 = wr := ⟨_, rfl⟩
    have HM2 := hid hM
    have HXL := hid hxl
    clear hm hM hxl HM0 HM1
    by_cases hj : 0 < j
    · have hji : (0 : Int) < (j : Int) := by omega
      have hL : Own (w2.alloc (.cells #[.int .i64 2, .int .i64 3, .int .i64 1, .int .i64 4, .int .i64 2, .int .i64 3, .int .i64 5, .int .i64 0] 3)) w2.heap.size (.slice (some ⟨w2.heap.size, 0, none⟩) 8 8) [2, 3, 1, 4, 2, 3, 5, 0] := own_lit w2 [2, 3, 1, 4, 2, 3, 5, 0] (by simp)
      have HA := hid (HM2.out.nx (below_alloc w2 (.cells #[.int .i64 2, .int .i64 3, .int .i64 1, .int .i64 4, .int .i64 2, .int .i64 3, .int .i64 5, .int .i64 0] 3)))
      have HE := hid (HM2.out.rd.lit 8 8)
      go_wp2_with fail
      refine (one_any _ _ (q) _ _ _ _ HA.out.rd (by omega) hL (by simp) HE.out).mono ?_; rintro e w3 ⟨r, hr, rfl, hR, hG⟩
      have HM3 := hid (HA.out.ate hR hG)
      obtain ⟨y, ey, hy⟩ : ∃ y : Int, [2, 3, 1, 4, 2, 3, 5, 0][r] = y ∧ y ∈ ([2, 3, 1, 4, 2, 3, 5, 0] : List Int) := ⟨_, rfl, List.getElem_mem hr⟩
      rw [ey]
      clear hR hG ey hr hL HA HE
      have hyb : 0 ≤ y ∧ y ≤ 5 := by simp at hy; omega
      have hsp := shape_prod HS.out
      go_wp2_with fail
      refine (count_any _ xs _ HM3.out.own.ints).mono ?_; rintro e w' ⟨rfl, rfl⟩
      rw [hsp.1]
      have hpb : 0 ≤ prodI xs * y ∧ prodI xs * y ≤ 300 := by
        have a := Int.mul_nonneg hsp.2.1 hyb.1
        have b := Int.mul_le_mul hsp.2.2 hyb.2 hyb.1 (by omega)
        omega
      have HPS := hid (fun (h1 : xs.length < 4) (h2 : prodI xs * y ≤ 60) => isShapeL_snoc HS.out h1 ⟨hyb.1, by omega⟩ h2)
      have hw : IntKind.i64.wrap (prodI xs * y) = prodI xs * y := IntWalk.i64_in _ (by omega)
      obtain ⟨PR, hPR⟩ : ∃ PR, prodI xs * y = PR := ⟨_, rfl⟩
      have hw := hw.trans hPR
      rw [hPR] at hpb HPS
      generalize prodI xs = P0 at *
      clear hsp hPR
      have hwj : IntKind.i64.wrap ((j : Int) - 1) = (j : Int) - 1 := IntWalk.i64_in _ (by omega)
      by_cases hle : PR ≤ 60
      · have HN := hid (HPS.out (by have := HXL.out; omega) hle)
        have H6 := hid (show ∀ x ∈ xs ++ [y], x ≤ 5 from fun x hx => by
          rcases List.mem_append.1 hx with hx | hx
          · exact H5.out x hx
          · simp at hx; omega)
        have HL1 := hid (show xs.length ≤ 1000000000000 by have := HXL.out; omega)
        go_wp2_with (at_builtin; refine app1 _ rfl _ _ rfl b0 _ xs rfl (HM3.out.own.alloc _) ⟨w3.heap.size, 0, none⟩ 1 y rfl (cell_new1 _ _ _) HL1.out (le_alloc HM3.out.sz _) ?_)
        intro v1 w9 ho9 hg9 hat9
        have HM9 := hid ((HM3.out.nx (below_alloc w3 (.cells #[.int .i64 y] 3))).row ho9 hg9)
        clear hg9 hat9 ho9
        go_wp2
        go_roundg (j - 1)
        case measure => have := HM.out; omega
        case rel => exact ⟨j - 1, q + 1, _, rfl, by congr 1; omega, by omega, by have := HXL.out; simp; omega, HN, H6, HM9.out⟩
      · go_wp2
        go_roundg (j - 1)
        case measure => have := HM.out; omega
        case rel => exact ⟨j - 1, q + 1, _, rfl, by congr 1; omega, by omega, by have := HXL.out; omega, HS, H5, HM3.out⟩
    · have hji : ¬ (0 : Int) < (j : Int) := by omega
      go_wp2
      go_ret
      exact ⟨_, xs, q, rfl, HS.out, H5.out, by rw [← HB0.out]; exact HM2.out.own, by omega, HM2.out.rd, HM2.out.grew⟩

end Go.Proofs.Ytfiphjifnjnmbaa
