/- Contracts: the common shape, the program's. No conditions. (printed by mkcs.py) -/
import Derived.Test.YtldblcolnjkcaaaCSp
import Derived.Test.YtldblcolnjkcaaaC3
import Derived.Deep.Cut
import Derived.Deep.DeepCutAuto
import Derived.Deep.LoopGhost
namespace Go.Proofs.Ytldblcolnjkcaaa
open Go.RowKit

set_option maxRecDepth 100000 in
set_option maxHeartbeats 6400000 in
theorem CommonShape_any (v u : Value) (X Y : List Int) (w : World) (hX : Ints w v X) (hY : Ints w u Y) :
    Calls Try.prog 41 #[v, u] w (RetListB w (commonL X Y) (okCommon X Y)) := by
  have hX0 := hX
  have hY0 := hY
  obtain ⟨AX, cX, rfl, h1X, h2X, h3X⟩ := hX
  obtain ⟨AY, cY, rfl, h1Y, h2Y, h3Y⟩ := hY
  unfold maxLen at h2X h2Y
  have HNO := hid (fun h : okCommon X Y = false => show commonL X Y = [] ∧ okCommon X Y = false from ⟨by simp [commonL, h], h⟩)
  cases cx : isShapeL X
  · have HQ := hid (HNO.out (by simp [okCommon, cx]))
    go_enter Try.func41, Try.ntmps41
    go_wp2_with fail
    refine (isShape_any _ X _ hX0).mono ?_; rintro e w' ⟨rfl, rfl⟩
    rw [cx]
    go_wp2
    refine bodyPost_ret (v := .tuple #[.slice none 0 0, .bool false]) (by simp [results, Try.results41, go_sem]) rfl ?_
    rw [HQ.out.1, HQ.out.2]
    exact ⟨_, rfl, Own.nil _ _, Below.refl _ _⟩
  cases cy : isShapeL Y
  · have HQ := hid (HNO.out (by simp [okCommon, cy]))
    go_enter Try.func41, Try.ntmps41
    go_wp2_with fail
    refine (isShape_any _ X _ hX0).mono ?_; rintro e w' ⟨rfl, rfl⟩
    rw [cx]
    go_wp2_with fail
    refine (isShape_any _ Y _ hY0).mono ?_; rintro e w' ⟨rfl, rfl⟩
    rw [cy]
    go_wp2
    refine bodyPost_ret (v := .tuple #[.slice none 0 0, .bool false]) (by simp [results, Try.results41, go_sem]) rfl ?_
    rw [HQ.out.1, HQ.out.2]
    exact ⟨_, rfl, Own.nil _ _, Below.refl _ _⟩
  have hlx := (shape_ext cx).1
  have hly := (shape_ext cy).1
  obtain ⟨n, hn⟩ : ∃ n, n = cmN X Y := ⟨_, rfl⟩
  have hn4 : n ≤ 4 ∧ X.length ≤ n ∧ Y.length ≤ n := by rw [hn]; unfold cmN; split <;> omega
  have hmax : max (X.length : Int) (Y.length : Int) = (n : Int) := by rw [hn]; unfold cmN; split <;> omega
  have hmax2 : (if (X.length : Int) < (Y.length : Int) then (Y.length : Int) else (X.length : Int)) = (n : Int) := by rw [hn]; unfold cmN; split <;> split <;> omega
  go_enter Try.func41, Try.ntmps41
  go_wp2_with fail
  refine (isShape_any _ X _ hX0).mono ?_; rintro e w' ⟨rfl, rfl⟩
  rw [cx]
  go_wp2_with fail
  refine (isShape_any _ Y _ hY0).mono ?_; rintro e w' ⟨rfl, rfl⟩
  rw [cy]
  go_upto_region 3 with fail
  go_cut [6] (fun z wx => z = .slice (some ⟨w.heap.size, 0, none⟩) n n ∧ Own wx w.heap.size (.slice (some ⟨w.heap.size, 0, none⟩) n n) (cmP X Y 0) ∧ Below w.heap.size w wx)
  case first =>
    by_cases hlt : X.length < Y.length
    · have hli : (X.length : Int) < (Y.length : Int) := by omega
      have hen : n = Y.length := by rw [hn]; unfold cmN; rw [if_pos hlt]
      have HE := hid hen
      have HZ := hid (show List.replicate Y.length 0 = cmP X Y 0 by rw [← hen, hn, cmP_zero])
      clear hmax hmax2 hn4 hn hen
      go_wp2_with (at_make; refine mk0 _ rfl _ _ rfl Y.length rfl rfl (by omega) ?_)
      intro w0 hown0 hb0
      rw [HZ.out] at hown0
      have HO := hid hown0
      clear hown0
      go_wp2
      go_meet
      rw [HE.out]
      exact ⟨rfl, HO.out, hb0⟩
    · have hli : ¬ (X.length : Int) < (Y.length : Int) := by omega
      have hen : n = X.length := by rw [hn]; unfold cmN; rw [if_neg hlt]
      have HE := hid hen
      have HZ := hid (show List.replicate X.length 0 = cmP X Y 0 by rw [← hen, hn, cmP_zero])
      clear hmax hmax2 hn4 hn hen
      go_wp2_with (at_make; refine mk0 _ rfl _ _ rfl X.length rfl rfl (by omega) ?_)
      intro w0 hown0 hb0
      rw [HZ.out] at hown0
      have HO := hid hown0
      clear hown0
      go_wp2
      go_meet
      rw [HE.out]
      exact ⟨rfl, HO.out, hb0⟩
  case rest =>
    obtain ⟨rfl, hown0, hb0⟩ := hcut
    have HN := hid hn
    have HZ := hid hmax
    clear hmax hmax2 hn
    go_wp2_with fail
    go_loopg [7] n (fun m z wr => ∃ k : Nat, k ≤ n ∧ m = n - k ∧ z = .int .i64 ((k : Int) + 1) ∧ Hid (∀ j, j < k → fitA X Y j = true) ∧ Own wr w.heap.size (.slice (some ⟨w.heap.size, 0, none⟩) n n) (cmP X Y k) ∧ Below w.heap.size w wr)
    case atStart => exact ⟨0, Nat.zero_le _, rfl, rfl, hid (fun j hj => absurd hj (by omega)), hown0, hb0⟩
    case round =>
      obtain ⟨k, hk, hm, rfl, HF, hown, hb⟩ := hrel
      have HM := hid hm
      clear hm hown0 hb0
      by_cases hlt : k < n
      · have hli : (k : Int) + 1 ≤ (n : Int) := by omega
        go_upto_if 33 with fail
        go_cut [8] (fun z wx => z = .int .i64 (extR X k) ∧ wr = wx)
        case first =>
          by_cases h : k < X.length
          · obtain ⟨bX, oX, rfl, hbX, hcX⟩ := h3X (by omega)
            have hlXi : (k : Int) + 1 ≤ (X.length : Int) := by omega
            have hwX : IntKind.i64.wrap ((X.length : Int) - ((k : Int) + 1)) = (X.length : Int) - ((k : Int) + 1) := IntWalk.i64_in _ (by omega)
            have hiX0 : 0 ≤ (X.length : Int) - ((k : Int) + 1) := by omega
            have hiX1 : (X.length : Int) - ((k : Int) + 1) < (X.length : Int) := by omega
            obtain ⟨pX, hpX⟩ : ∃ p, p = X.length - 1 - k := ⟨_, rfl⟩
            have hxX : ((X.length : Int) - ((k : Int) + 1)).toNat = pX := by omega
            have heX : X[pX]? = some (extR X k) := by
              unfold extR
              rw [if_pos (by omega), ← hpX]
              simp [show pX < X.length by omega]
            have hdX := (hb.cell (p := ⟨bX, oX + pX, none⟩) hbX).trans (hcX pX (extR X k) heX)
            clear hpX hcX heX
            go_wp2_with fail
            go_meet
            exact ⟨rfl, rfl⟩
          · have hl : ¬ (k : Int) + 1 ≤ (X.length : Int) := by omega
            have HE := hid (show extR X k = 1 by unfold extR; rw [if_neg h])
            go_wp2_with fail
            go_meet
            exact ⟨by rw [HE.out], rfl⟩
        case rest =>
          obtain ⟨rfl, rfl⟩ := hcut
          go_upto_if 44 with fail
          go_cut [9] (fun z wx => z = .int .i64 (extR Y k) ∧ wr = wx)
          case first =>
            by_cases h : k < Y.length
            · obtain ⟨bY, oY, rfl, hbY, hcY⟩ := h3Y (by omega)
              have hlYi : (k : Int) + 1 ≤ (Y.length : Int) := by omega
              have hwY : IntKind.i64.wrap ((Y.length : Int) - ((k : Int) + 1)) = (Y.length : Int) - ((k : Int) + 1) := IntWalk.i64_in _ (by omega)
              have hiY0 : 0 ≤ (Y.length : Int) - ((k : Int) + 1) := by omega
              have hiY1 : (Y.length : Int) - ((k : Int) + 1) < (Y.length : Int) := by omega
              obtain ⟨pY, hpY⟩ : ∃ p, p = Y.length - 1 - k := ⟨_, rfl⟩
              have hxY : ((Y.length : Int) - ((k : Int) + 1)).toNat = pY := by omega
              have heY : Y[pY]? = some (extR Y k) := by
                unfold extR
                rw [if_pos (by omega), ← hpY]
                simp [show pY < Y.length by omega]
              have hdY := (hb.cell (p := ⟨bY, oY + pY, none⟩) hbY).trans (hcY pY (extR Y k) heY)
              clear hpY hcY heY
              go_wp2_with fail
              go_meet
              exact ⟨rfl, rfl⟩
            · have hl : ¬ (k : Int) + 1 ≤ (Y.length : Int) := by omega
              have HE := hid (show extR Y k = 1 by unfold extR; rw [if_neg h])
              go_wp2_with fail
              go_meet
              exact ⟨by rw [HE.out], rfl⟩
          case rest =>
            obtain ⟨rfl, rfl⟩ := hcut
            obtain ⟨p, hp⟩ : ∃ p, p = n - 1 - k := ⟨_, rfl⟩
            have HPU := hid (show (cmP X Y k).set p (cmAt X Y k) = cmP X Y (k + 1) by rw [hp, HN.out]; exact cmP_put (by rw [← HN.out]; exact hlt))
            have hpl : p < (cmP X Y k).length := by rw [cmP_length, ← HN.out]; omega
            have q0 := hown.cell p hpl
            have q1 := hown.free p
            have hwn : IntKind.i64.wrap ((n : Int) - ((k : Int) + 1)) = (n : Int) - ((k : Int) + 1) := IntWalk.i64_in _ (by omega)
            have hn0 : 0 ≤ (n : Int) - ((k : Int) + 1) := by omega
            have hn1 : (n : Int) - ((k : Int) + 1) < (n : Int) := by omega
            have hxn : ((n : Int) - ((k : Int) + 1)).toNat = p := by omega
            have HC := hid (show cmAt X Y k = joinE (extR X k) (extR Y k) from rfl)
            have HFI := hid (show fitA X Y k = fitE (extR X k) (extR Y k) from rfl)
            have HBAD := hid (fun h : fitA X Y k = false => HNO.out (by
              have : (List.range (cmN X Y)).all (fitA X Y) = false := by
                rw [List.all_eq_false]
                exact ⟨k, List.mem_range.2 (by rw [← HN.out]; exact hlt), by simp [h]⟩
              simp [okCommon, this]))
            clear hp
            generalize extR X k = x at *
            generalize extR Y k = y at *
            by_cases hxy : x = y
            · have h1 : (x == y) = true := by simpa using hxy
              have HFT := hid (show fitE x y = true by simp [fitE, h1])
              have HXY := hid hxy
              clear hxy
              have HP := hid (show (cmP X Y k).set p x = cmP X Y (k + 1) by rw [← HPU.out, HC.out]; congr 1; have := HXY.out; unfold joinE; split <;> omega)
              have HO := hid (hown.put p x)
              have HB := hid (hb.setCell (p := ⟨w.heap.size, p, none⟩) (Nat.le_refl _) (.int .i64 x))
              clear hown hb
              go_wp2
              go_roundg (n - (k + 1))
              case measure => have := HM.out; omega
              case rel => exact ⟨k + 1, by omega, rfl, by go_num, hid (fun j hj => by rcases Nat.lt_or_ge j k with h | h; exact HF.out j h; obtain rfl : j = k := (by omega); rw [HFI.out]; exact HFT.out), by rw [← HP.out]; exact HO.out, HB.out⟩
            have h1 : (x == y) = false := by simpa using hxy
            by_cases hy1 : y = 1
            · have h2 : (y == 1) = true := by simpa using hy1
              have HFT := hid (show fitE x y = true by simp [fitE, h2])
              have HXY := hid hy1
              clear hxy hy1
              have HP := hid (show (cmP X Y k).set p x = cmP X Y (k + 1) by rw [← HPU.out, HC.out]; congr 1; have := HXY.out; unfold joinE; split <;> omega)
              have HO := hid (hown.put p x)
              have HB := hid (hb.setCell (p := ⟨w.heap.size, p, none⟩) (Nat.le_refl _) (.int .i64 x))
              clear hown hb
              go_wp2
              go_roundg (n - (k + 1))
              case measure => have := HM.out; omega
              case rel => exact ⟨k + 1, by omega, rfl, by go_num, hid (fun j hj => by rcases Nat.lt_or_ge j k with h | h; exact HF.out j h; obtain rfl : j = k := (by omega); rw [HFI.out]; exact HFT.out), by rw [← HP.out]; exact HO.out, HB.out⟩
            have h2 : (y == 1) = false := by simpa using hy1
            by_cases hx1 : x = 1
            · have h3 : (x == 1) = true := by simpa using hx1
              have HFT := hid (show fitE x y = true by simp [fitE, h3])
              have HXY := hid hx1
              clear hxy hy1 hx1
              have HP := hid (show (cmP X Y k).set p y = cmP X Y (k + 1) by rw [← HPU.out, HC.out]; congr 1; have := HXY.out; unfold joinE; rw [if_pos this])
              have HO := hid (hown.put p y)
              have HB := hid (hb.setCell (p := ⟨w.heap.size, p, none⟩) (Nat.le_refl _) (.int .i64 y))
              clear hown hb
              go_wp2
              go_roundg (n - (k + 1))
              case measure => have := HM.out; omega
              case rel => exact ⟨k + 1, by omega, rfl, by go_num, hid (fun j hj => by rcases Nat.lt_or_ge j k with h | h; exact HF.out j h; obtain rfl : j = k := (by omega); rw [HFI.out]; exact HFT.out), by rw [← HP.out]; exact HO.out, HB.out⟩
            have h3 : (x == 1) = false := by simpa using hx1
            have HQ := hid (HBAD.out (by rw [HFI.out]; simp [fitE, h1, h2, h3]))
            clear hxy hy1 hx1 hown
            go_wp2
            refine bodyPost_ret (v := .tuple #[.slice none 0 0, .bool false]) (by simp [results, Try.results41, go_sem]) rfl ?_
            rw [HQ.out.1, HQ.out.2]
            exact ⟨_, rfl, Own.nil _ _, hb⟩
      · have hli : ¬ (k : Int) + 1 ≤ (n : Int) := by omega
        have hkn : k = n := by omega
        rw [hkn] at hown
        have HFN := hid (show (List.range (cmN X Y)).all (fitA X Y) = true from List.all_eq_true.2 fun i hi => HF.out i (by rw [hkn, HN.out]; exact List.mem_range.1 hi))
        have HYES := hid (fun h : isShapeL (cmP X Y n) = true => show commonL X Y = cmP X Y n ∧ okCommon X Y = true by
          have h1 : okCommon X Y = true := by unfold okCommon; rw [cx, cy, HFN.out, ← HN.out, h]; rfl
          exact ⟨by simp [commonL, h1, ← HN.out], h1⟩)
        have HNN := hid (fun h : isShapeL (cmP X Y n) = false => HNO.out (by simp [okCommon, ← HN.out, h]))
        clear hkn
        have HO := hid hown
        go_wp2_with fail
        refine (isShape_any _ _ _ (by simpa [cmP_length, ← HN.out] using HO.out.ints)).mono ?_; rintro e w' ⟨rfl, rfl⟩
        cases hs : isShapeL (cmP X Y n)
        · have HQ := hid (HNN.out hs)
          clear hs hown
          go_wp2
          refine bodyPost_ret (v := .tuple #[.slice none 0 0, .bool false]) (by simp [results, Try.results41, go_sem]) rfl ?_
          rw [HQ.out.1, HQ.out.2]
          exact ⟨_, rfl, Own.nil _ _, hb⟩
        · have HQ := hid (HYES.out hs)
          clear hs hown
          go_wp2
          refine bodyPost_ret (v := .tuple #[.slice (some ⟨w.heap.size, 0, none⟩) n n, .bool true]) (by simp [results, Try.results41, go_sem]) rfl ?_
          rw [HQ.out.1, HQ.out.2]
          exact ⟨_, rfl, HO.out, hb⟩


end Go.Proofs.Ytldblcolnjkcaaa
