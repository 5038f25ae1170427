/- Contracts of the laws' own helpers over lists of lists. No conditions. -/
import Derived.Test.YtldblcolnjkcaaaL1
import Derived.Test.YtldblcolnjkcaaaLL
import Derived.Test.YtldblcolnjkcaaaGw
import Derived.Deep.Cut
import Derived.Deep.LoopGhost
namespace Go.Proofs.Ytldblcolnjkcaaa
open Go.RowKit

set_option maxRecDepth 100000 in
set_option maxHeartbeats 6400000 in
theorem szIntSS_ok (v : Value) (xss : List (List Int)) (left : Nat) (w : World) (h : IntsS w v xss) (hl : llSize xss ≤ left) (h2 : left ≤ 1048576) :
    Calls Try.prog 69 #[v, .int .i64 left] w fun e w' => e = .returned (.int .i64 ((left - llSize xss : Nat) : Int)) ∧ Below w.heap.size w w' := by
  obtain ⟨A, c, rfl, hk, hm⟩ := h.form
  have hle : xss.length ≤ left := by unfold llSize at hl; omega
  obtain ⟨r, hr⟩ : ∃ r : Nat, left = xss.length + r := ⟨left - xss.length, by omega⟩
  have hr0 : ((left : Int) - (xss.length : Int)) = (r : Int) := by omega
  have HR0 := hid hr0
  have hls : sumTo xss xss.length ≤ r := by unfold llSize at hl; omega
  have hr2 : r ≤ 1048576 := by omega
  have HF := hid (show ((left - llSize xss : Nat) : Int) = ((r - sumTo xss xss.length : Nat) : Int) by unfold llSize; omega)
  clear hr hr0 hl
  go_enter Try.func69, Try.ntmps69
  go_upto_region 5 with fail
  rw [HR0.out]
  go_loopg [1, 5] xss.length (fun g l i wr => ∃ k : Nat, k ≤ xss.length ∧ g = xss.length - k ∧ i = .int .i64 k ∧ l = .int .i64 ((r - sumTo xss k : Nat) : Int) ∧ w = wr)
  case atStart => exact ⟨0, Nat.zero_le _, rfl, rfl, by simp [sumTo], rfl⟩
  case round =>
    obtain ⟨k, hk1, rfl, rfl, rfl, rfl⟩ := hrel
    by_cases hlt : k < xss.length
    · obtain ⟨b, off, u, rfl, hx, hu⟩ := h.elem k hlt
      have hrl := row_le hlt
      have HS := hid (sumTo_succ xss k hlt)
      obtain ⟨q, hq⟩ : ∃ q, q = r - sumTo xss k := ⟨_, rfl⟩
      rw [← hq]
      have hq1 : xss[k].length ≤ q := by omega
      have hq2 : q ≤ 1048576 := by omega
      have HQ := hid hq
      clear hq hrl
      go_wp2_with fail
      refine (szIntS_ok _ xss[k] q _ hu hq1 hq2).mono ?_; rintro e w' ⟨rfl, rfl⟩
      have hn0 : ¬ (((q - xss[k].length : Nat) : Int) < 0) := by omega
      generalize hz : q - xss[k].length = z at *
      have HZ := hid hz
      clear hz
      go_wp2
      go_roundg (xss.length - (k + 1))
      case rel => exact ⟨k + 1, by omega, rfl, by go_num, by rw [HS.out, ← HZ.out, HQ.out, Nat.sub_sub], rfl⟩
      case measure => omega
    · obtain rfl : xss.length = k := by omega
      go_wp2
      go_ret
      exact ⟨ret_int HF.out.symm, Below.refl _ _⟩

set_option maxRecDepth 100000 in
set_option maxHeartbeats 6400000 in
theorem szIntSS_no (v : Value) (xss : List (List Int)) (left : Nat) (w : World) (h : IntsS w v xss) (hl : left < llSize xss) (h2 : left ≤ 1048576) :
    Calls Try.prog 69 #[v, .int .i64 left] w fun e w' => e = .returned (.int .i64 (-1)) ∧ Below w.heap.size w w' := by
  obtain ⟨A, c, rfl, hk, hm⟩ := h.form
  by_cases hle : left < xss.length
  · have hn : (left : Int) - (xss.length : Int) < 0 := by omega
    go_enter Try.func69, Try.ntmps69
    go_wp2
    go_ret
    exact ⟨rfl, Below.refl _ _⟩
  obtain ⟨r, hr⟩ : ∃ r : Nat, left = xss.length + r := ⟨left - xss.length, by omega⟩
  have hr0 : ((left : Int) - (xss.length : Int)) = (r : Int) := by omega
  have HR0 := hid hr0
  have HLS := hid (show r < sumTo xss xss.length by unfold llSize at hl; omega)
  have hr2 : r ≤ 1048576 := by omega
  clear hr hr0 hl
  go_enter Try.func69, Try.ntmps69
  go_upto_region 5 with fail
  rw [HR0.out]
  go_loopg [1, 5] xss.length (fun g l i wr => ∃ k : Nat, k ≤ xss.length ∧ g = xss.length - k ∧ i = .int .i64 k ∧ sumTo xss k ≤ r ∧ l = .int .i64 ((r - sumTo xss k : Nat) : Int) ∧ w = wr)
  case atStart => exact ⟨0, Nat.zero_le _, rfl, rfl, by simp [sumTo], by simp [sumTo], rfl⟩
  case round =>
    obtain ⟨k, hk1, rfl, rfl, hsk, rfl, rfl⟩ := hrel
    by_cases hlt : k < xss.length
    · obtain ⟨b, off, u, rfl, hx, hu⟩ := h.elem k hlt
      have HS := hid (sumTo_succ xss k hlt)
      obtain ⟨q, hq⟩ : ∃ q, q = r - sumTo xss k := ⟨_, rfl⟩
      rw [← hq]
      have hq2 : q ≤ 1048576 := by omega
      by_cases hfit : xss[k].length ≤ q
      · have HSK := hid (show sumTo xss (k + 1) ≤ r by rw [HS.out]; omega)
        have HQ := hid hq
        clear hq hsk
        go_wp2_with fail
        refine (szIntS_ok _ xss[k] q _ hu hfit hq2).mono ?_; rintro e w' ⟨rfl, rfl⟩
        have hn0 : ¬ (((q - xss[k].length : Nat) : Int) < 0) := by omega
        generalize hz : q - xss[k].length = z at *
        have HZ := hid hz
        clear hz
        go_wp2
        go_roundg (xss.length - (k + 1))
        case rel => exact ⟨k + 1, by omega, rfl, by go_num, HSK.out, by rw [HS.out, ← HZ.out, HQ.out, Nat.sub_sub], rfl⟩
        case measure => omega
      · clear hq hsk
        go_wp2_with fail
        refine (szIntS_no _ xss[k] q _ hu (by omega) hq2).mono ?_; rintro e w' ⟨rfl, rfl⟩
        go_wp2
        go_ret
        exact ⟨rfl, Below.refl _ _⟩
    · exfalso
      have : k = xss.length := by omega
      rw [this] at hsk
      have := HLS.out
      omega

/-- The first k rows, the others empty. -/
def someL (xss : List (List Int)) (k : Nat) : List (List Int) := (List.range xss.length).map fun j => if j < k then xss.getD j [] else []
theorem someL_length (xss : List (List Int)) (k : Nat) : (someL xss k).length = xss.length := by simp [someL]
theorem someL_zero (xss : List (List Int)) : someL xss 0 = List.replicate xss.length [] := by
  apply List.ext_getElem
  · simp [someL]
  · intro i h1 h2; simp [someL]
theorem someL_all (xss : List (List Int)) : someL xss xss.length = xss := by
  apply List.ext_getElem
  · simp [someL]
  · intro i h1 h2; simp [someL] at h1 ⊢; simp [h1]
theorem someL_put (xss : List (List Int)) (k : Nat) (hk : k < xss.length) : (someL xss k).set k xss[k] = someL xss (k + 1) := by
  apply List.ext_getElem
  · simp [someL]
  · intro i h1 h2
    rw [List.getElem_set]
    split
    · rename_i e; subst e; simp [someL, hk]
    · rename_i e
      simp only [someL, List.getElem_map, List.getElem_range]
      by_cases h : i < k
      · rw [if_pos h, if_pos (by omega)]
      · rw [if_neg h, if_neg (by omega)]
/-- What a function that returns new lists leaves. -/
def RetOwnL (w : World) (xss : List (List Int)) (e : Ending) (w' : World) : Prop := ∃ v us, e = .returned v ∧ OwnL w' w.heap.size v us xss ∧ Below w.heap.size w w'

set_option maxRecDepth 100000 in
set_option maxHeartbeats 6400000 in
theorem toIntSS_any (v : Value) (xss : List (List Int)) (w : World) (h : IntsS w v xss) (hl : llSize xss ≤ 1048576) :
    Calls Try.prog 72 #[v] w (RetOwnL w xss) := by
  obtain ⟨A, c, rfl, hk, hm⟩ := h.form
  have hle : xss.length ≤ 1048576 := by unfold llSize at hl; omega
  have HROW := hid (fun k (hk : k < xss.length) => show xss[k].length ≤ 1048576 by have := row_le hk; unfold llSize at hl; omega)
  clear hl
  go_enter Try.func72, Try.ntmps72
  go_wp2_with (at_make; refine mkL _ rfl _ _ rfl xss.length rfl rfl (by omega) ?_)
  intro w0 hown0 hb0 hz0
  rw [← someL_zero] at hown0
  go_upto_region 3 with fail
  generalize hG : w.heap.size = G at hown0 ⊢
  have HG := hid hG
  go_loopg [4] xss.length (fun g i wr => ∃ (k : Nat) (us : List Value), k ≤ xss.length ∧ g = xss.length - k ∧ i = .int .i64 k ∧ OwnL wr G (.slice (some ⟨G, 0, none⟩) xss.length xss.length) us (someL xss k) ∧ Below w.heap.size w wr)
  case atStart => exact ⟨0, _, Nat.zero_le _, rfl, rfl, hown0, hb0⟩
  case round =>
    obtain ⟨k, us, hk1, rfl, rfl, hown, hb⟩ := hrel
    clear hG
    by_cases hlt : k < xss.length
    · obtain ⟨b, off, u, rfl, hx, hu⟩ := (h.ext hb).elem k hlt
      have HR := hid (HROW.out k hlt)
      go_wp2_with fail
      refine (toIntS_any _ xss[k] _ hu HR.out).mono ?_; rintro e w4 ⟨v4, rfl, ho, hb4⟩
      have hown4 := hown.ext hb4
      have hlu : us.length = xss.length := by rw [hown.len, someL_length]
      have hseg := ho.seg
      have hs1 : Sep (.slice (some ⟨G, 0, none⟩) xss.length xss.length) v4 := Seg.sep hown.seg.1 hseg (Nat.le_refl _)
      have hs2 : ∀ (j : Nat) (u' : Value), us[j]? = some u' → Sep u' v4 := fun j u' hu' => Seg.sep (hown.seg.2 u' (List.mem_of_getElem? hu')) hseg (Nat.le_refl _)
      have hGw : G ≤ wr.heap.size := by have := hb.size; have := HG.out; omega
      obtain ⟨u0, hc⟩ : ∃ u0, w4.cell? ⟨G, k, none⟩ = some u0 := ⟨_, hown4.cell k (by omega)⟩
      have hf := hown4.free k
      have H5 := hown4.put k (ho.mono hGw) hs1 hs2
      rw [someL_put xss k hlt] at H5
      have HO := hid H5
      have HB := hid ((hb.trans (hb4.mono hb.size)).setCell (p := ⟨G, k, none⟩) (Nat.le_of_eq HG.out) v4)
      obtain ⟨A4, c4, e4⟩ := ho.form
      subst e4
      clear hown hown4 H5 hs1 hs2 hseg ho hx hlu hb hb4
      go_wp2
      go_roundg (xss.length - (k + 1))
      case rel => exact ⟨k + 1, _, by omega, rfl, by go_num, HO.out, HB.out⟩
      case measure => omega
    · obtain rfl : xss.length = k := by omega
      rw [someL_all] at hown
      have HO := hid hown
      clear hown
      go_wp2
      go_ret
      exact ⟨_, us, rfl, HO.out.mono (Nat.le_of_eq HG.out), hb⟩

set_option maxRecDepth 100000 in
set_option maxHeartbeats 6400000 in
theorem eqIntSS_yes (v v' : Value) (xss : List (List Int)) (w : World) (h : IntsS w v xss) (h' : IntsS w v' xss) :
    Calls Try.prog 75 #[v, v'] w fun e w' => e = .returned (.bool true) ∧ Below w.heap.size w w' := by
  obtain ⟨A, c, rfl, hk, hm⟩ := h.form
  obtain ⟨A', c', rfl, hk', hm'⟩ := h'.form
  go_enter Try.func75, Try.ntmps75
  go_wp2_with fail
  go_loopg [5] xss.length (fun g i wr => ∃ k : Nat, k ≤ xss.length ∧ g = xss.length - k ∧ i = .int .i64 k ∧ Below w.heap.size w wr)
  case atStart => exact ⟨0, Nat.zero_le _, rfl, rfl, Below.refl _ _⟩
  case round =>
    obtain ⟨k, hk1, rfl, rfl, hb⟩ := hrel
    by_cases hlt : k < xss.length
    · obtain ⟨b, off, u, rfl, hx, hu⟩ := (h.ext hb).elem k hlt
      obtain ⟨b', off', u', rfl, hx', hu'⟩ := (h'.ext hb).elem k hlt
      obtain ⟨a1, c1, e1⟩ := hu.form
      obtain ⟨a2, c2, e2⟩ := hu'.form
      subst e1 e2
      have hki : (k : Int) < (xss.length : Int) := by omega
      go_upto_region 6 with fail
      have qx := fun x : ExtW wr => (x.h.cell (p := ⟨b, off + k, none⟩) (World.block_lt_of_cell? _ _ hx)).trans hx
      have qy := fun x : ExtW wr => (x.h.cell (p := ⟨b', off' + k, none⟩) (World.block_lt_of_cell? _ _ hx')).trans hx'
      have HU := hid (fun x : ExtW wr => hu.ext x.h)
      have HU' := hid (fun x : ExtW wr => hu'.ext x.h)
      refine region_mk 10 (by kernel_rfl) (by kernel_rfl) ?_
      apply Exists.intro
      simp only [List.take_succ_cons, List.take_zero, List.drop_succ_cons, List.drop_zero]
      repeat (first
        | (apply grow_val (by rfl); (focus (intro x; (go_simp; try with_reducible rfl); done)); simp only [Act.put, List.setIfInBounds_toArray, List.set_cons_zero, List.set_cons_succ])
        | (apply grow_skip (by rfl); simp only [Act.put, List.setIfInBounds_toArray, List.set_cons_zero, List.set_cons_succ])
        | (apply grow_call (by rfl); (focus (intro x K Q hK; go_simp; (first | (go_at_call 55; (with_reducible refine (eqIntS_yes _ _ xss[k] _ (HU.out x) (HU'.out x)).mono ?_); rintro e w' ⟨rfl, hb⟩; exact hK _ hb)); done)); simp only [Act.put, List.setIfInBounds_toArray, List.set_cons_zero, List.set_cons_succ]))
      refine grow_nil ?_
      rintro ⟨w5, hb5⟩ - -
      have hb5 : Below wr.heap.size wr w5 := hb5
      have hq := hb.trans (hb5.mono hb.size)
      clear qx qy hx hx'
      go_wp2
      go_roundg (xss.length - (k + 1))
      case rel => exact ⟨k + 1, by omega, rfl, by go_num, hq⟩
      case measure => omega
    · obtain rfl : xss.length = k := by omega
      go_wp2
      go_ret
      exact ⟨rfl, hb⟩

end Go.Proofs.Ytldblcolnjkcaaa
