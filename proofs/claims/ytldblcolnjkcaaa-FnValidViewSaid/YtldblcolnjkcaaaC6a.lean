/- Contracts: indices of a view, bounds, overlap of bounds. No conditions. -/
import Derived.Test.YtldblcolnjkcaaaC4
import Derived.Test.YtldblcolnjkcaaaS2
import Derived.Outline
import Derived.Deep.QuietTactic
import Derived.BigQuiet
namespace Go.Proofs.Ytldblcolnjkcaaa
open Go.RowKit
def IdxOk (shape index : List Int) (k : Nat) : Prop := ((shape.zip index).take k).all (fun p => inR p.2 0 (p.1 - 1)) = true

set_option maxHeartbeats 400000 in
theorem isIndex_any (v iv : Value) (shape index : List Int) (w : World) (h : Ints w v shape) (hi : Ints w iv index) (hs : ∀ x ∈ shape, 0 ≤ x ∧ x ≤ 60) :
    Calls Try.prog 91 #[v, iv] w fun e w' => e = .returned (.bool (isIndexL shape index)) ∧ w = w' := by
  obtain ⟨A, c, rfl, h1, h2, h3⟩ := h
  obtain ⟨A', c', rfl, h1', h2', h3'⟩ := hi
  unfold maxLen at h2 h2'
  by_cases hl : index.length = shape.length
  · have l1 : index.length ≤ shape.length := by omega
    have l2 : shape.length ≤ index.length := by omega
    have HZ := hid (show (shape.zip index).length = index.length by simp; omega)
    have HI := hid (show isIndexL shape index = (shape.zip index).all (fun p => inR p.2 0 (p.1 - 1)) by simp [isIndexL, hl])
    have HSx := hid hs
    have hne : ((index.length : Int) != (shape.length : Int)) = false := by simp [hl]
    clear hl hs
    go_enter Try.func91, Try.ntmps91
    go_wp2
    go_loop [14] (fun i => ∃ k : Nat, k ≤ index.length ∧ i = .int .i64 k ∧ IdxOk shape index k) (fun i => index.length - (intOf i).toNat)
    case atStart => exact ⟨0, Nat.zero_le _, rfl, rfl⟩
    case round =>
      obtain ⟨k, hk, rfl, ha⟩ := hrel
      unfold IdxOk at ha
      by_cases hlt : k < index.length
      · have hlt2 : k < shape.length := by omega
        obtain ⟨b, off, rfl, hb, hc⟩ := h3 (by omega)
        obtain ⟨b', off', rfl, hb', hc'⟩ := h3' (by omega)
        have hx := hc k shape[k] (by simp [hlt2])
        have hx' := hc' k index[k] (by simp [hlt])
        have hkz : k < (shape.zip index).length := by rw [HZ.out]; exact hlt
        have HS := hid (allT_snoc (fun p : Int × Int => inR p.2 0 (p.1 - 1)) (shape.zip index) k hkz ha)
        have HF := hid (allT_false (fun p : Int × Int => inR p.2 0 (p.1 - 1)) (shape.zip index) k hkz)
        rw [List.getElem_zip] at HS HF
        clear hc h3 hc' h3' ha
        by_cases hp : 0 ≤ index[k]
        · by_cases hp2 : index[k] < shape[k]
          · go_wp2
            go_round
            case rel => exact ⟨k + 1, by omega, by go_num, HS.out.trans (inR_yes hp (by omega))⟩
            case measure => simp [intOf]; omega
          · have HQ := hid (HF.out (inR_no (by omega)))
            go_wp2
            go_ret
            exact ⟨ret_bool (by rw [HI.out, HQ.out]), rfl⟩
        · have HQ := hid (HF.out (inR_no (by omega)))
          go_wp2
          go_ret
          exact ⟨ret_bool (by rw [HI.out, HQ.out]), rfl⟩
      · rw [List.take_of_length_le (by rw [HZ.out]; omega)] at ha
        have HA := hid ha; clear ha
        go_wp2
        go_ret
        exact ⟨ret_bool (by rw [HI.out, HA.out]), rfl⟩
  · have HQ := hid (show isIndexL shape index = false by simp [isIndexL, hl])
    have hne : ¬ ((index.length : Int) = shape.length) := by omega
    go_enter Try.func91, Try.ntmps91
    go_wp2
    go_ret
    exact ⟨ret_bool HQ.out.symm, rfl⟩

theorem inRange_quiet (n lo hi : Int) (w : World) :
    Calls Try.prog 104 #[.int .i64 n, .int .i64 lo, .int .i64 hi] w fun e w' => e = .returned (.bool (inR n lo hi)) ∧ w' = w := (inRange_any n lo hi w).mono fun _ _ h => ⟨h.1, h.2.symm⟩

set_option maxHeartbeats 400000 in
theorem validIndex_any (v iv : Value) (shape index : List Int) (w : World) (h : Ints w v shape) (hi : Ints w iv index) (hs : ∀ x ∈ shape, 0 ≤ x ∧ x ≤ 60) :
    Calls Try.prog 93 #[v, iv] w fun e w' => e = .returned (.bool (isIndexL shape index)) ∧ Below w.heap.size w w' := by
  obtain ⟨A, c, rfl, h1, h2, h3⟩ := h
  obtain ⟨A', c', rfl, h1', h2', h3'⟩ := hi
  unfold maxLen at h2 h2'
  by_cases hl : index.length = shape.length
  · have l1 : index.length ≤ shape.length := by omega
    have l2 : shape.length ≤ index.length := by omega
    have HZ := hid (show (shape.zip index).length = index.length by simp; omega)
    have HI := hid (show isIndexL shape index = (shape.zip index).all (fun p => inR p.2 0 (p.1 - 1)) by simp [isIndexL, hl])
    have HSx := hid hs
    have hne : ((index.length : Int) != (shape.length : Int)) = false := by simp [hl]
    clear hl hs
    go_enter Try.func93, Try.ntmps93
    go_wp2
    go_loopw [5] (fun i wr => ∃ k : Nat, k ≤ index.length ∧ i = .int .i64 k ∧ IdxOk shape index k ∧ Below w.heap.size w wr) (fun i _ => index.length - (intOf i).toNat)
    case atStart => exact ⟨0, Nat.zero_le _, rfl, rfl, Below.refl _ _⟩
    case round =>
      obtain ⟨k, hk, rfl, ha, hbw⟩ := hrel
      unfold IdxOk at ha
      by_cases hlt : k < index.length
      · have hlt2 : k < shape.length := by omega
        obtain ⟨b, off, rfl, hb, hc⟩ := h3 (by omega)
        obtain ⟨b', off', rfl, hb', hc'⟩ := h3' (by omega)
        have hx := (hbw.cell (p := ⟨b, off + k, none⟩) hb).trans (hc k shape[k] (by simp [hlt2]))
        have hx' := (hbw.cell (p := ⟨b', off' + k, none⟩) hb').trans (hc' k index[k] (by simp [hlt]))
        have hkz : k < (shape.zip index).length := by rw [HZ.out]; exact hlt
        have HS := hid (allT_snoc (fun p : Int × Int => inR p.2 0 (p.1 - 1)) (shape.zip index) k hkz ha)
        have HF := hid (allT_false (fun p : Int × Int => inR p.2 0 (p.1 - 1)) (shape.zip index) k hkz)
        rw [List.getElem_zip] at HS HF
        have hs1 := (HSx.out shape[k] (List.getElem_mem hlt2)).1
        have hs2 := (HSx.out shape[k] (List.getElem_mem hlt2)).2
        have hki : (k : Int) < (index.length : Int) := by omega
        have hks : (k : Int) < (shape.length : Int) := by omega
        have hk0 : (0 : Int) ≤ (k : Int) := by omega
        clear hc h3 hc' h3' ha
        cases hp : inR index[k] 0 (shape[k] - 1)
        · have HQ := hid (HF.out hp)
          go_wp2
          go_quiet ((go_at_call 104; exact Calls.quiet_of_same (inRange_quiet _ _ _ _)))
          go_wp2
          go_ret
          exact ⟨ret_bool (by rw [HI.out, HQ.out]), hbw.trans ((below_drewN wr _).mono hbw.size)⟩
        · have HP := hid hp
          go_wp2
          go_quiet ((go_at_call 104; exact Calls.quiet_of_same (inRange_quiet _ _ _ _)))
          go_wp2
          go_roundw
          case rel => exact ⟨k + 1, by omega, by go_num, HS.out.trans HP.out, hbw.trans ((below_drewN wr _).mono hbw.size)⟩
          case measure => simp [intOf]; omega
      · rw [List.take_of_length_le (by rw [HZ.out]; omega)] at ha
        have HA := hid ha; clear ha
        go_wp2
        go_ret
        exact ⟨ret_bool (by rw [HI.out, HA.out]), hbw⟩
  · have HQ := hid (show isIndexL shape index = false by simp [isIndexL, hl])
    have hne : ¬ ((index.length : Int) = shape.length) := by omega
    go_enter Try.func93, Try.ntmps93
    go_wp2
    go_ret
    exact ⟨ret_bool HQ.out.symm, Below.refl _ _⟩


end Go.Proofs.Ytldblcolnjkcaaa
