/- Contracts: the common shape, the reference's. No conditions. (printed by mkcs.py) -/
import Derived.Test.YtldblcolnjkcaaaCSp
import Derived.Test.YtldblcolnjkcaaaS1
import Derived.Deep.Cut
import Derived.Deep.DeepCutAuto
import Derived.Deep.LoopGhost
namespace Go.Proofs.Ytldblcolnjkcaaa
open Go.RowKit

set_option maxRecDepth 100000 in
set_option maxHeartbeats 6400000 in
theorem extentAt_any (v : Value) (X : List Int) (k : Nat) (w : World) (hX : Ints w v X) (hl : X.length ≤ 4) (hk4 : k ≤ 4) :
    Calls Try.prog 118 #[v, .int .i64 k] w fun e w' => e = .returned (.int .i64 (extR X k)) ∧ w = w' := by
  obtain ⟨AX, cX, rfl, h1X, h2X, h3X⟩ := hX
  unfold maxLen at h2X
  by_cases h : k < X.length
  · obtain ⟨bX, oX, rfl, hbX, hcX⟩ := h3X (by omega)
    have hki : ¬ (k : Int) ≥ (X.length : Int) := by omega
    have hkj : ¬ (X.length : Int) ≤ (k : Int) := by omega
    have hw0 : IntKind.i64.wrap ((X.length : Int) - 1) = (X.length : Int) - 1 := IntWalk.i64_in _ (by omega)
    have hw1 : IntKind.i64.wrap ((X.length : Int) - 1 - (k : Int)) = (X.length : Int) - 1 - (k : Int) := IntWalk.i64_in _ (by omega)
    have hi0 : 0 ≤ (X.length : Int) - 1 - (k : Int) := by omega
    have hi1 : (X.length : Int) - 1 - (k : Int) < (X.length : Int) := by omega
    obtain ⟨p, hp⟩ : ∃ p, p = X.length - 1 - k := ⟨_, rfl⟩
    have hx : ((X.length : Int) - 1 - (k : Int)).toNat = p := by omega
    have he : X[p]? = some (extR X k) := by
      unfold extR
      rw [if_pos (by omega), ← hp]
      simp [show p < X.length by omega]
    have hd := hcX p (extR X k) he
    clear hp hcX he
    go_enter Try.func118, Try.ntmps118
    go_wp2
    go_ret
    exact ⟨rfl, rfl⟩
  · have hki : (k : Int) ≥ (X.length : Int) := by omega
    have hkj : (X.length : Int) ≤ (k : Int) := by omega
    have HE := hid (show extR X k = 1 by unfold extR; rw [if_neg h])
    go_enter Try.func118, Try.ntmps118
    go_wp2
    go_ret
    exact ⟨by rw [HE.out]; rfl, rfl⟩

set_option maxRecDepth 100000 in
set_option maxHeartbeats 6400000 in
theorem sCommonShape_any (v u : Value) (X Y : List Int) (w : World) (hX : Ints w v X) (hY : Ints w u Y) :
    Calls Try.prog 42 #[v, u] w (RetListB w (commonL X Y) (okCommon X Y)) := by
  have hX0 := hX
  have hY0 := hY
  obtain ⟨AX, cX, rfl, h1X, h2X, h3X⟩ := hX
  obtain ⟨AY, cY, rfl, h1Y, h2Y, h3Y⟩ := hY
  unfold maxLen at h2X h2Y
  have HNO := hid (fun h : okCommon X Y = false => show commonL X Y = [] ∧ okCommon X Y = false from ⟨by simp [commonL, h], h⟩)
  cases cx : isShapeL X
  · have HQ := hid (HNO.out (by simp [okCommon, cx]))
    go_enter Try.func42, Try.ntmps42
    go_wp2_with fail
    refine (validShape_any _ X _ hX0).mono ?_; rintro e w' ⟨rfl, rfl⟩
    rw [cx]
    go_wp2
    refine bodyPost_ret (v := .tuple #[.slice none 0 0, .bool false]) (by simp [results, Try.results42, go_sem]) rfl ?_
    rw [HQ.out.1, HQ.out.2]
    exact ⟨_, rfl, Own.nil _ _, Below.refl _ _⟩
  cases cy : isShapeL Y
  · have HQ := hid (HNO.out (by simp [okCommon, cy]))
    go_enter Try.func42, Try.ntmps42
    go_wp2_with fail
    refine (validShape_any _ X _ hX0).mono ?_; rintro e w' ⟨rfl, rfl⟩
    rw [cx]
    go_wp2_with fail
    refine (validShape_any _ Y _ hY0).mono ?_; rintro e w' ⟨rfl, rfl⟩
    rw [cy]
    go_wp2
    refine bodyPost_ret (v := .tuple #[.slice none 0 0, .bool false]) (by simp [results, Try.results42, go_sem]) rfl ?_
    rw [HQ.out.1, HQ.out.2]
    exact ⟨_, rfl, Own.nil _ _, Below.refl _ _⟩
  have hlx := (shape_ext cx).1
  have hly := (shape_ext cy).1
  obtain ⟨n, hn⟩ : ∃ n, n = cmN X Y := ⟨_, rfl⟩
  have hn4 : n ≤ 4 ∧ X.length ≤ n ∧ Y.length ≤ n := by rw [hn]; unfold cmN; split <;> omega
  have HN := hid hn
  go_enter Try.func42, Try.ntmps42
  go_wp2_with fail
  refine (validShape_any _ X _ hX0).mono ?_; rintro e w' ⟨rfl, rfl⟩
  rw [cx]
  go_wp2_with fail
  refine (validShape_any _ Y _ hY0).mono ?_; rintro e w' ⟨rfl, rfl⟩
  rw [cy]
  go_upto_region 3 with fail
  go_cut [6] (fun z wx => z = .int .i64 n ∧ w = wx)
  case first =>
    by_cases hlt : X.length < Y.length
    · have hli : (X.length : Int) < (Y.length : Int) := by omega
      have HE := hid (show n = Y.length by rw [hn]; unfold cmN; rw [if_pos hlt])
      clear hn4 hn
      go_wp2_with fail
      go_meet
      rw [HE.out]
      exact ⟨rfl, rfl⟩
    · have hli : ¬ (X.length : Int) < (Y.length : Int) := by omega
      have HE := hid (show n = X.length by rw [hn]; unfold cmN; rw [if_neg hlt])
      clear hn4 hn
      go_wp2_with fail
      go_meet
      rw [HE.out]
      exact ⟨rfl, rfl⟩
  case rest =>
    obtain ⟨rfl, rfl⟩ := hcut
    clear hn
    go_wp2_with (at_make; refine mk0 _ rfl _ _ rfl n rfl rfl (by omega) ?_)
    intro w0 hown0 hb0
    rw [HN.out, ← cmP_zero, ← HN.out] at hown0
    have HO0 := hid hown0
    have HB0 := hid hb0
    clear hown0 hb0
    go_wp2_with fail
    go_loopg [8] n (fun m z wr => ∃ k : Nat, k ≤ n ∧ m = n - k ∧ z = .int .i64 (k : Int) ∧ Hid (∀ j, j < k → fitA X Y j = true) ∧ Own wr w.heap.size (.slice (some ⟨w.heap.size, 0, none⟩) n n) (cmP X Y k) ∧ Below w.heap.size w wr)
    case atStart => exact ⟨0, Nat.zero_le _, rfl, rfl, hid (fun j hj => absurd hj (by omega)), HO0.out, HB0.out⟩
    case round =>
      obtain ⟨k, hk, hm, rfl, HF, hown, hb⟩ := hrel
      have HM := hid hm
      clear hm
      by_cases hlt : k < n
      · have hli : (k : Int) < (n : Int) := by omega
        go_wp2_with fail
        refine (extentAt_any _ X k _ (hX0.ext hb) hlx (by omega)).mono ?_; rintro e w' ⟨rfl, rfl⟩
        go_wp2_with fail
        refine (extentAt_any _ Y k _ (hY0.ext hb) hly (by omega)).mono ?_; rintro e w' ⟨rfl, rfl⟩
        obtain ⟨p, hp⟩ : ∃ p, p = n - 1 - k := ⟨_, rfl⟩
        have HPU := hid (show (cmP X Y k).set p (cmAt X Y k) = cmP X Y (k + 1) by rw [hp, HN.out]; exact cmP_put (by rw [← HN.out]; exact hlt))
        have hpl : p < (cmP X Y k).length := by rw [cmP_length, ← HN.out]; omega
        have q0 := hown.cell p hpl
        have q1 := hown.free p
        have hwm : IntKind.i64.wrap ((n : Int) - 1) = (n : Int) - 1 := IntWalk.i64_in _ (by omega)
        have hwn : IntKind.i64.wrap ((n : Int) - 1 - (k : Int)) = (n : Int) - 1 - (k : Int) := IntWalk.i64_in _ (by omega)
        have hn0 : 0 ≤ (n : Int) - 1 - (k : Int) := by omega
        have hn1 : (n : Int) - 1 - (k : Int) < (n : Int) := by omega
        have hxn : ((n : Int) - 1 - (k : Int)).toNat = p := by omega
        have HC := hid (show cmAt X Y k = joinE (extR X k) (extR Y k) from rfl)
        have HFI := hid (show fitA X Y k = fitE (extR X k) (extR Y k) from rfl)
        have HBAD := hid (fun h : fitA X Y k = false => HNO.out (by
          have : (List.range (cmN X Y)).all (fitA X Y) = false := by
            rw [List.all_eq_false]
            exact ⟨k, List.mem_range.2 (by rw [← HN.out]; exact hlt), by simp [h]⟩
          simp [okCommon, this]))
        clear hp
        generalize extR X k = x at *
        generalize extR Y k = y at *
        by_cases hx1 : x = 1
        · have h3 : (x == 1) = true := by simpa using hx1
          have h3' : (x != 1) = false := by simpa using hx1
          have HFT := hid (show fitE x y = true by simp [fitE, h3])
          have HXY := hid hx1
          cases hxy : (x != y)
          · clear hx1
            have HP := hid (show (cmP X Y k).set p y = cmP X Y (k + 1) by rw [← HPU.out, HC.out]; congr 1; have := HXY.out; unfold joinE; rw [if_pos this])
            have HO := hid (hown.put p y)
            have HB := hid (hb.setCell (p := ⟨w.heap.size, p, none⟩) (Nat.le_refl _) (.int .i64 y))
            clear hown hb
            go_wp2
            go_roundg (n - (k + 1))
            case measure => have := HM.out; omega
            case rel => exact ⟨k + 1, by omega, rfl, by go_num, hid (fun j hj => by rcases Nat.lt_or_ge j k with h | h; exact HF.out j h; obtain rfl : j = k := (by omega); rw [HFI.out]; exact HFT.out), by rw [← HP.out]; exact HO.out, HB.out⟩
          · clear hx1
            have HP := hid (show (cmP X Y k).set p y = cmP X Y (k + 1) by rw [← HPU.out, HC.out]; congr 1; have := HXY.out; unfold joinE; rw [if_pos this])
            have HO := hid (hown.put p y)
            have HB := hid (hb.setCell (p := ⟨w.heap.size, p, none⟩) (Nat.le_refl _) (.int .i64 y))
            clear hown hb
            go_wp2
            go_roundg (n - (k + 1))
            case measure => have := HM.out; omega
            case rel => exact ⟨k + 1, by omega, rfl, by go_num, hid (fun j hj => by rcases Nat.lt_or_ge j k with h | h; exact HF.out j h; obtain rfl : j = k := (by omega); rw [HFI.out]; exact HFT.out), by rw [← HP.out]; exact HO.out, HB.out⟩
        have h3 : (x == 1) = false := by simpa using hx1
        have h3' : (x != 1) = true := by simpa using hx1
        have HXY := hid hx1
        by_cases hxy : x = y
        · have h1 : (x == y) = true := by simpa using hxy
          have h1' : (x != y) = false := by simpa using hxy
          have HFT := hid (show fitE x y = true by simp [fitE, h1])
          clear hxy hx1
          have HP := hid (show (cmP X Y k).set p x = cmP X Y (k + 1) by rw [← HPU.out, HC.out]; congr 1; have := HXY.out; unfold joinE; rw [if_neg this])
          have HO := hid (hown.put p x)
          have HB := hid (hb.setCell (p := ⟨w.heap.size, p, none⟩) (Nat.le_refl _) (.int .i64 x))
          clear hown hb
          go_wp2
          go_roundg (n - (k + 1))
          case measure => have := HM.out; omega
          case rel => exact ⟨k + 1, by omega, rfl, by go_num, hid (fun j hj => by rcases Nat.lt_or_ge j k with h | h; exact HF.out j h; obtain rfl : j = k := (by omega); rw [HFI.out]; exact HFT.out), by rw [← HP.out]; exact HO.out, HB.out⟩
        have h1 : (x == y) = false := by simpa using hxy
        have h1' : (x != y) = true := by simpa using hxy
        by_cases hy1 : y = 1
        · have h2 : (y == 1) = true := by simpa using hy1
          have h2' : (y != 1) = false := by simpa using hy1
          have HFT := hid (show fitE x y = true by simp [fitE, h2])
          clear hxy hy1 hx1
          have HP := hid (show (cmP X Y k).set p x = cmP X Y (k + 1) by rw [← HPU.out, HC.out]; congr 1; have := HXY.out; unfold joinE; rw [if_neg this])
          have HO := hid (hown.put p x)
          have HB := hid (hb.setCell (p := ⟨w.heap.size, p, none⟩) (Nat.le_refl _) (.int .i64 x))
          clear hown hb
          go_wp2
          go_roundg (n - (k + 1))
          case measure => have := HM.out; omega
          case rel => exact ⟨k + 1, by omega, rfl, by go_num, hid (fun j hj => by rcases Nat.lt_or_ge j k with h | h; exact HF.out j h; obtain rfl : j = k := (by omega); rw [HFI.out]; exact HFT.out), by rw [← HP.out]; exact HO.out, HB.out⟩
        have h2 : (y == 1) = false := by simpa using hy1
        have h2' : (y != 1) = true := by simpa using hy1
        have HQ := hid (HBAD.out (by rw [HFI.out]; simp [fitE, h1, h2, h3]))
        clear hxy hy1 hx1 hown
        go_wp2
        refine bodyPost_ret (v := .tuple #[.slice none 0 0, .bool false]) (by simp [results, Try.results42, go_sem]) rfl ?_
        rw [HQ.out.1, HQ.out.2]
        exact ⟨_, rfl, Own.nil _ _, hb⟩
      · have hli : ¬ (k : Int) < (n : Int) := by omega
        have hkn : k = n := by omega
        rw [hkn] at hown
        have HFN := hid (show (List.range (cmN X Y)).all (fitA X Y) = true from List.all_eq_true.2 fun i hi => HF.out i (by rw [hkn, HN.out]; exact List.mem_range.1 hi))
        have HYES := hid (fun h : isShapeL (cmP X Y n) = true => show commonL X Y = cmP X Y n ∧ okCommon X Y = true by
          have h1 : okCommon X Y = true := by unfold okCommon; rw [cx, cy, HFN.out, ← HN.out, h]; rfl
          exact ⟨by simp [commonL, h1, ← HN.out], h1⟩)
        have HNN := hid (fun h : isShapeL (cmP X Y n) = false => HNO.out (by simp [okCommon, ← HN.out, h]))
        clear hkn
        have HO := hid hown
        go_wp2_with fail
        refine (validShape_any _ _ _ (by simpa [cmP_length, ← HN.out] using HO.out.ints)).mono ?_; rintro e w' ⟨rfl, rfl⟩
        cases hs : isShapeL (cmP X Y n)
        · have HQ := hid (HNN.out hs)
          clear hs hown
          go_wp2
          refine bodyPost_ret (v := .tuple #[.slice none 0 0, .bool false]) (by simp [results, Try.results42, go_sem]) rfl ?_
          rw [HQ.out.1, HQ.out.2]
          exact ⟨_, rfl, Own.nil _ _, hb⟩
        · have HQ := hid (HYES.out hs)
          clear hs hown
          go_wp2
          refine bodyPost_ret (v := .tuple #[.slice (some ⟨w.heap.size, 0, none⟩) n n, .bool true]) (by simp [results, Try.results42, go_sem]) rfl ?_
          rw [HQ.out.1, HQ.out.2]
          exact ⟨_, rfl, HO.out, hb⟩

end Go.Proofs.Ytldblcolnjkcaaa
