/- Contracts: the law's own comparison of tensors, its total. No conditions. -/
import Derived.Test.YtfiphjifnjnmbaaLEa
import Derived.Test.YtfiphjifnjnmbaaC2
namespace Go.Proofs.Ytfiphjifnjnmbaa
open Go.RowKit

set_option maxRecDepth 100000 in
set_option maxHeartbeats 6400000 in
theorem equalTensor_same (v u : Value) (T : TL) (w : World) (h : TensorV w v T) (k : TensorV w u T) :
    Calls Try.prog 11 #[v, u] w fun e w' => e = .returned (.bool true) ∧ Below w.heap.size w w' := by
  obtain ⟨s1, t1, rfl, hs1, ht1⟩ := h
  obtain ⟨s2, t2, rfl, hs2, ht2⟩ := k
  obtain ⟨A1, c1, rfl⟩ := hs1.form
  obtain ⟨A2, c2, rfl⟩ := ht1.form
  obtain ⟨A3, c3, rfl⟩ := hs2.form
  obtain ⟨A4, c4, rfl⟩ := ht2.form
  have hA := (Blk.new w 25 #[.slice A1 T.shape.length c1, .slice A2 T.values.length c2]).alloc (.cells #[.slice A3 T.shape.length c3, .slice A4 T.values.length c4] 25)
  have hB := Blk.new (w.alloc (.cells #[.slice A1 T.shape.length c1, .slice A2 T.values.length c2] 25)) 25 #[.slice A3 T.shape.length c3, .slice A4 T.values.length c4]
  simp only [World.size_alloc] at hB
  have hW : Below w.heap.size w ((w.alloc (.cells #[.slice A1 T.shape.length c1, .slice A2 T.values.length c2] 25)).alloc (.cells #[.slice A3 T.shape.length c3, .slice A4 T.values.length c4] 25)) := ((Below.refl _ _).alloc (Nat.le_refl _) _).alloc (by simp) _
  go_enter Try.func11, Try.ntmps11
  go_upto_region 1 with fail
  generalize ((w.alloc (.cells #[.slice A1 T.shape.length c1, .slice A2 T.values.length c2] 25)).alloc (.cells #[.slice A3 T.shape.length c3, .slice A4 T.values.length c4] 25)) = W1 at *
  obtain ⟨⟨q0, q1⟩, -⟩ := id hA.all2
  obtain ⟨⟨r0, r1⟩, -⟩ := id hB.all2
  have hs1 := hs1.ext hW
  have ht1 := ht1.ext hW
  have hs2 := hs2.ext hW
  have ht2 := ht2.ext hW
  go_wp2_with fail
  refine (equalInts_same _ _ _ _ hs1 hs2).mono ?_; rintro e w1 ⟨rfl, hb⟩
  have hA := hA.nx hb
  have hB := hB.nx hb
  have ht1 := ht1.nx hb
  have ht2 := ht2.nx hb
  have hW := hW.nx hb hW.size
  clear hb q0 q1 r0 r1
  obtain ⟨⟨q0, q1⟩, -⟩ := id hA.all2
  obtain ⟨⟨r0, r1⟩, -⟩ := id hB.all2
  go_wp2_with fail
  refine (equalInts_same _ _ _ _ ht1 ht2).mono ?_; rintro e w2 ⟨rfl, hb⟩
  go_wp2
  go_ret
  exact ⟨rfl, hW.nx hb hW.size⟩

set_option maxRecDepth 100000 in
set_option maxHeartbeats 6400000 in
theorem total_any (v : Value) (L : List Int) (w : World) (h : Ints w v L) :
    Calls Try.prog 12 #[v] w fun e w' => e = .returned (.int .i64 (sumW L)) ∧ Below w.heap.size w w' := by
  obtain ⟨A, c, rfl, h1, h2, h3⟩ := h
  unfold maxLen at h2
  go_enter Try.func12, Try.ntmps12
  go_wp2
  go_loopg [3, 4] L.length (fun m n i wr => ∃ k : Nat, k ≤ L.length ∧ m = L.length - k ∧ i = .int .i64 k ∧ n = .int .i64 (sumW (L.take k)) ∧ w = wr)
  case atStart => exact ⟨0, Nat.zero_le _, rfl, rfl, rfl, rfl⟩
  case round =>
    obtain ⟨k, hk, rfl, rfl, rfl, rfl⟩ := hrel
    by_cases hlt : k < L.length
    · obtain ⟨b, off, rfl, hb, hc⟩ := h3 (by omega)
      have hx := hc k L[k] (by simp [hlt])
      have HS := hid (sumW_snoc L k hlt)
      have hki : (k : Int) < (L.length : Int) := by omega
      have hw : IntKind.i64.wrap ((k : Int) + 1) = (k : Int) + 1 := IntWalk.i64_in _ (by omega)
      clear hc h3
      go_wp2
      go_roundg (L.length - (k + 1))
      case measure => omega
      case rel => exact ⟨k + 1, by omega, rfl, by congr 1, by rw [HS.out], rfl⟩
    · have HE := hid (show sumW (L.take k) = sumW L by rw [List.take_of_length_le (by omega)])
      have hki : ¬ (k : Int) < (L.length : Int) := by omega
      go_wp2
      go_ret
      exact ⟨ret_int HE.out, Below.refl _ _⟩

end Go.Proofs.Ytfiphjifnjnmbaa
