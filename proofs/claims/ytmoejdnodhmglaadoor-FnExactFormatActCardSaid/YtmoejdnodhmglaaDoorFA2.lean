/- Contract: a number's text, by the reference. No conditions. -/
import Derived.Test.YtmoejdnodhmglaaDoorFA1
import Derived.Test.YtmoejdnodhmglaaDoorBase
import Derived.Deep.LoopGhost
namespace Go.Proofs.YtmoejdnodhmglaaDoor
open Go.RowKit

theorem dec_small {u : Nat} (h : u < 10) : Lib.decDigits u = [UInt8.ofNat (48 + u)] := by rw [Lib.decDigits, dif_pos h]
theorem dec_big {u : Nat} (h : ¬ u < 10) : Lib.decDigits u = Lib.decDigits (u / 10) ++ [UInt8.ofNat (48 + u % 10)] := by rw [Lib.decDigits, dif_neg h]
theorem dec_len : ∀ d u, u ≤ d → (Lib.decDigits u).length ≤ u + 1
  | 0, u, h => by rw [dec_small (by omega)]; simp
  | d + 1, u, h => by
    by_cases hs : u < 10
    · rw [dec_small hs]; simp
    · rw [dec_big hs, List.length_append]
      have := dec_len d (u / 10) (by omega)
      simp only [List.length_singleton]
      omega
/-- Bytes as a string's value. -/
def strV (l : List UInt8) : Value := .string ⟨l.toArray⟩

set_option maxRecDepth 100000 in
set_option maxHeartbeats 6400000 in
theorem number_small (n : Nat) (hn : n < 10) (w : World) :
    Calls Tryd.prog 20 #[.int .i64 n] w fun e w' => e = .returned (.string ⟨(Lib.decDigits n).toArray⟩) ∧ w = w' := by
  rw [dec_small hn]
  have h : n = 0 ∨ n = 1 ∨ n = 2 ∨ n = 3 ∨ n = 4 ∨ n = 5 ∨ n = 6 ∨ n = 7 ∨ n = 8 ∨ n = 9 := by omega
  clear hn
  rcases h with rfl | rfl | rfl | rfl | rfl | rfl | rfl | rfl | rfl | rfl
  all_goals
    go_enter Tryd.func20, Tryd.ntmps20
    go_wp2
    go_ret
    exact ⟨congrArg (fun b => Ending.returned (.string b)) (by kernel_rfl), rfl⟩

set_option maxRecDepth 100000 in
set_option maxHeartbeats 6400000 in
theorem number_nat : ∀ (d n : Nat), n ≤ d → n ≤ 1000 → ∀ w : World, Calls Tryd.prog 20 #[.int .i64 n] w fun e w' => e = .returned (.string ⟨(Lib.decDigits n).toArray⟩) ∧ w = w'
  | 0, n, h, _, w => number_small n (by omega) w
  | d + 1, n, h, hn, w => by
    by_cases hs : n < 10
    · exact number_small n hs w
    · obtain ⟨a, ha⟩ : ∃ a, n / 10 = a := ⟨_, rfl⟩
      obtain ⟨b, hb⟩ : ∃ b, n % 10 = b := ⟨_, rfl⟩
      have HQ := hid (number_nat d a (by omega) (by omega))
      have HR := hid (number_small b (by omega))
      have HD := hid (dec_big hs)
      have HR2 := hid (dec_small (u := b) (by omega))
      rw [ha, hb, ← HR2.out] at HD
      have hni : ¬ (n : Int) < 10 := by omega
      have hn0 : ¬ (n : Int) < 0 := by omega
      have hq : (n : Int) / 10 = (a : Int) := by omega
      have hr : (n : Int) % 10 = (b : Int) := by omega
      have hr2 : (n : Int).tmod 10 = (b : Int) := by rw [Int.tmod_eq_emod_of_nonneg (by omega)]; exact hr
      have hwq : IntKind.i64.wrap (a : Int) = (a : Int) := IntWalk.i64_in _ (by omega)
      have hwr : IntKind.i64.wrap (b : Int) = (b : Int) := IntWalk.i64_in _ (by omega)
      have hsz : (Lib.decDigits a).length + (Lib.decDigits b).length ≤ 9223372036854775807 := by
        have := dec_len a a (Nat.le_refl _)
        have := dec_len b b (Nat.le_refl _)
        omega
      clear ha hb
      go_enter Tryd.func20, Tryd.ntmps20
      go_wp2_with fail
      refine (HQ.out _).mono ?_; rintro e w1 ⟨rfl, rfl⟩
      go_wp2_with fail
      refine (HR.out _).mono ?_; rintro e w1 ⟨rfl, rfl⟩
      go_wp2
      go_ret
      exact ⟨congrArg (fun b => Ending.returned (.string b)) (show ByteArray.mk (Lib.decDigits a).toArray ++ ByteArray.mk (Lib.decDigits b).toArray = ByteArray.mk (Lib.decDigits n).toArray by rw [HD.out, ← ByteArray.mk_append_mk]), rfl⟩

set_option maxRecDepth 100000 in
set_option maxHeartbeats 6400000 in
theorem number_any (n : Int) (hn : -100 ≤ n ∧ n ≤ 100) (w : World) :
    Calls Tryd.prog 20 #[.int .i64 n] w fun e w' => e = .returned (.string ⟨(Lib.itoa n).toArray⟩) ∧ w = w' := by
  by_cases h0 : n < 0
  · obtain ⟨m, hm⟩ : ∃ m : Nat, n = -(m : Int) := ⟨n.natAbs, by omega⟩
    have HQ := hid (number_nat m m (Nat.le_refl _) (by omega))
    have HD := hid (show Lib.itoa n = 45 :: Lib.decDigits m by rw [Lib.itoa, if_pos h0, show n.natAbs = m by omega])
    have hneg : IntKind.i64.wrap (-n) = (m : Int) := by rw [IntWalk.i64_in _ (by omega)]; omega
    have hne : (n == (m : Int)) = false := by simp; omega
    have hne2 : ¬ n = (m : Int) := by omega
    have hsz : (Lib.decDigits m).length ≤ 101 := by have := dec_len m m (Nat.le_refl _); omega
    clear hm
    go_enter Tryd.func20, Tryd.ntmps20
    go_wp2_with fail
    refine (HQ.out _).mono ?_; rintro e w1 ⟨rfl, rfl⟩
    go_wp2
    go_ret
    exact ⟨congrArg (fun b => Ending.returned (.string b)) (show ByteArray.mk [(45 : UInt8)].toArray ++ ByteArray.mk (Lib.decDigits m).toArray = ByteArray.mk (Lib.itoa n).toArray by rw [HD.out, ByteArray.mk_append_mk]; rfl), rfl⟩
  · obtain ⟨m, hm⟩ : ∃ m : Nat, n = (m : Int) := ⟨n.toNat, by omega⟩
    subst hm
    have e : Lib.itoa (m : Int) = Lib.decDigits m := by rw [Lib.itoa, if_neg h0, Int.toNat_natCast]
    rw [e]
    exact number_nat m m (Nat.le_refl _) (by omega) w

end Go.Proofs.YtmoejdnodhmglaaDoor
