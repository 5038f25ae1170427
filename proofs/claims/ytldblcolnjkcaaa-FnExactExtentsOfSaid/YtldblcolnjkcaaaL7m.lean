/- Contracts of the laws' own helpers over lists of lists: marks. No conditions. -/
import Derived.Test.YtldblcolnjkcaaaL6
namespace Go.Proofs.Ytldblcolnjkcaaa
open Go.RowKit

/-- The first i rows marked. -/
def mixS (k0 : Nat) (xss : List (List Int)) (i : Nat) : List (List Int) :=
  (List.range xss.length).map fun j => if j < i then marks (k0 + sumTo xss j) (xss.getD j []).length else xss.getD j []
def marksS (k0 : Nat) (xss : List (List Int)) : List (List Int) := mixS k0 xss xss.length
theorem mixS_length (k0 : Nat) (xss : List (List Int)) (i : Nat) : (mixS k0 xss i).length = xss.length := by simp [mixS]
theorem mixS_zero (k0 : Nat) (xss : List (List Int)) : mixS k0 xss 0 = xss := by
  apply List.ext_getElem
  · simp [mixS]
  · intro i h1 h2; simp [mixS, h2]
theorem mixS_at (k0 : Nat) (xss : List (List Int)) (i : Nat) (hi : i < xss.length) : (mixS k0 xss i)[i]? = some xss[i] := by simp [mixS, hi]
theorem mixS_put (k0 : Nat) (xss : List (List Int)) (i : Nat) (hi : i < xss.length) : (mixS k0 xss i).set i (marks (k0 + sumTo xss i) xss[i].length) = mixS k0 xss (i + 1) := by
  apply List.ext_getElem
  · simp [mixS]
  · intro j h1 h2
    rw [List.getElem_set]
    split
    · rename_i e; subst e; simp [mixS, hi]
    · rename_i e
      simp only [mixS, List.getElem_map, List.getElem_range]
      by_cases h : j < i
      · rw [if_pos h, if_pos (by omega)]
      · rw [if_neg h, if_neg (by omega)]
theorem marksS_at (k0 : Nat) (xss : List (List Int)) (i : Nat) (hi : i < xss.length) : (marksS k0 xss)[i]? = some (marks (k0 + sumTo xss i) xss[i].length) := by simp [marksS, mixS, hi]

set_option maxRecDepth 100000 in
set_option maxHeartbeats 6400000 in
theorem markIntSS_any (v : Value) (us : List Value) (xss : List (List Int)) (k0 B lo hi : Nat) (w : World) (h : OwnL w B v us xss) (hs : SegL v us lo hi) (hl : llSize xss ≤ 1048576) (hk0 : k0 ≤ 10000000) :
    Calls Try.prog 77 #[v, .int .i64 k0] w fun e w' => e = .returned (.int .i64 ((k0 + sumTo xss xss.length : Nat) : Int)) ∧ OwnL w' B v us (marksS k0 xss) ∧ Chg lo hi w w' := by
  obtain ⟨A, c, rfl⟩ := h.form
  obtain ⟨A', c', e', hk, hm⟩ := h.ints.form
  simp only [Value.slice.injEq, true_and] at e'
  obtain ⟨rfl, rfl⟩ := e'
  have hle : xss.length ≤ 1048576 := by unfold llSize at hl; omega
  have htot : sumTo xss xss.length ≤ 1048576 := by unfold llSize at hl; omega
  have hul := h.len
  have HUL := hid hul
  have h0 : OwnL w B (.slice A xss.length c) us (mixS k0 xss 0) := by rw [mixS_zero]; exact h
  clear hl hul h
  go_enter Try.func77, Try.ntmps77
  go_wp2_with fail
  go_loopg [1, 5] xss.length (fun g q i wr => ∃ k : Nat, k ≤ xss.length ∧ g = xss.length - k ∧ i = .int .i64 k ∧ q = .int .i64 ((k0 + sumTo xss k : Nat) : Int) ∧ OwnL wr B (.slice A xss.length c) us (mixS k0 xss k) ∧ Chg lo hi w wr)
  case atStart => exact ⟨0, Nat.zero_le _, rfl, rfl, by simp [sumTo], h0, Chg.refl lo hi w⟩
  case round =>
    obtain ⟨k, hk1, rfl, rfl, rfl, hown, hch⟩ := hrel
    clear h0
    by_cases hlt : k < xss.length
    · have hku : k < us.length := by rw [HUL.out]; exact hlt
      have hu : us[k]? = some us[k] := List.getElem?_eq_getElem hku
      have ho := hown.rows k us[k] xss[k] hu (mixS_at k0 xss k hlt)
      have hsu := hs.2 us[k] (List.getElem_mem hku)
      obtain ⟨b, off, _, rfl, -, -⟩ := hown.ints.elem k (by rw [mixS_length]; exact hlt)
      have hx2 : wr.cell? ⟨b, off + k, none⟩ = some us[k] := by
        rcases hown.row.2 with ⟨e, h0⟩ | ⟨g', cap, cur, e, _⟩
        · cases e
        · simp only [Value.slice.injEq, Option.some.injEq, Addr.mk.injEq, and_true] at e
          obtain ⟨⟨rfl, rfl⟩, -, -⟩ := e
          rw [Nat.zero_add]
          exact hown.cell k hku
      have hrl := row_le hlt
      have HS := hid (sumTo_succ xss k hlt)
      have HP := hid (mixS_put k0 xss k hlt)
      have hx := hx2
      clear hx2
      obtain ⟨U, hU⟩ : ∃ U, U = us[k] := ⟨_, rfl⟩
      rw [← hU] at hx hu ho hsu
      obtain ⟨a1, c1, e1⟩ := ho.form
      have HO := hid ho
      have HU := hid hu
      clear hU ho hu
      subst e1
      go_wp2_with fail
      refine (markIntS_any _ xss[k] (k0 + sumTo xss k) B _ HO.out (by omega) (by omega)).mono ?_; rintro e w1 ⟨rfl, ho1, hg1⟩
      have H1 := hown.set HU.out ho1 hg1
      rw [HP.out] at H1
      have HH := hid H1
      have HC := hid (hch.trans (Chg.of_grown hg1 hsu))
      clear H1 ho1 hg1 hown hx
      go_wp2
      go_roundg (xss.length - (k + 1))
      case rel => exact ⟨k + 1, by omega, rfl, by go_num, by rw [HS.out]; congr 1; omega, HH.out, HC.out⟩
      case measure => omega
    · obtain rfl : xss.length = k := by omega
      have HO := hid hown
      clear hown
      go_wp2
      go_ret
      exact ⟨rfl, HO.out, hch⟩


end Go.Proofs.Ytldblcolnjkcaaa
