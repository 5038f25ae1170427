/- Contract: slices.Delete of one place of an owned row. No conditions. -/
import Derived.Test.YtldblcolnjkcaaaT0
import Derived.Lib.SliceRun
import Derived.Deep.RegionLaw
import Derived.Outline
namespace Go.Proofs.Ytldblcolnjkcaaa
open Go.RowKit

theorem Own.puts {w : World} {B g cap n : Nat} {xs : List Int} (h : Own w B (.slice (some ⟨g, 0, none⟩) n cap) xs) (ys : List Int) (o : Nat) (hle : o + ys.length ≤ xs.length) :
    Own (w.setCells g o (ys.map (Value.int .i64))) B (.slice (some ⟨g, 0, none⟩) n cap) (xs.take o ++ ys ++ xs.drop (o + ys.length)) ∧ w.grownBy (w.setCells g o (ys.map (Value.int .i64))) (some g) := by
  induction ys generalizing w xs o with
  | nil => exact ⟨by simpa [World.setCells] using h, by simpa [World.setCells] using World.grownBy.refl w _⟩
  | cons y ys ih =>
    have h1 := h.put o y
    have hl : (xs.set o y).length = xs.length := List.length_set
    simp only [List.length_cons] at hle
    have h2 := ih h1 (o + 1) (by rw [hl]; omega)
    refine ⟨?_, (grown_set w ⟨g, o, none⟩ (.int .i64 y)).trans h2.2⟩
    have e : (xs.set o y).take (o + 1) ++ ys ++ (xs.set o y).drop (o + 1 + ys.length) = xs.take o ++ (y :: ys) ++ xs.drop (o + (y :: ys).length) := by
      have ho : o < xs.length := by omega
      rw [take_snocI (xs.set o y) o (by rw [hl]; exact ho)]
      simp only [List.getElem_set_self, List.append_assoc, List.singleton_append, List.length_cons]
      congr 1
      · apply List.ext_getElem?
        intro i
        by_cases hi : i < o
        · rw [List.getElem?_take, List.getElem?_take, if_pos hi, if_pos hi, List.getElem?_set_ne (by omega)]
        · rw [List.getElem?_take, List.getElem?_take, if_neg hi, if_neg hi]
      · rw [List.cons_append]
        congr 2
        rw [show o + 1 + ys.length = o + (ys.length + 1) by omega]
        apply List.ext_getElem?
        intro i
        rw [List.getElem?_drop, List.getElem?_drop, List.getElem?_set_ne (by omega)]
    rw [← e]
    exact h2.1
theorem Own.cut {w : World} {B g cap n : Nat} {xs : List Int} (h : Own w B (.slice (some ⟨g, 0, none⟩) n cap) xs) (k : Nat) (hk : k ≤ xs.length) : Own w B (.slice (some ⟨g, 0, none⟩) k cap) (xs.take k) := by
  obtain ⟨h1, h2⟩ := h
  have hl : (xs.take k).length = k := by rw [List.length_take]; omega
  refine ⟨by rw [hl]; simp; omega, .inr ?_⟩
  rcases h2 with ⟨e, h0⟩ | ⟨g', cap', cur, e, hg, hh, hn, hc, hs, ht⟩
  · cases e
  · simp only [Value.slice.injEq, Option.some.injEq, Addr.mk.injEq, and_true] at e
    obtain ⟨rfl, rfl, rfl⟩ := e
    refine ⟨g, cap, cur, by rw [hl], hg, hh, by omega, hc, hs, ?_⟩
    rw [hl, List.map_take, ← ht, List.take_take]
    simp
    omega
theorem eraseIdx_eq (xs : List Int) (d : Nat) : (xs.take d ++ xs.drop (d + 1)) = xs.eraseIdx d := (List.eraseIdx_eq_take_drop_succ xs d).symm
theorem zeroInt (w : World) : (zeroValue 3).run Try.prog w = .ok (.int .i64 0) w := by kernel_rfl

set_option maxRecDepth 100000 in
set_option maxHeartbeats 800000 in
theorem Delete_any (g cap d : Nat) (xs : List Int) (B : Nat) (w : World) (h : Own w B (.slice (some ⟨g, 0, none⟩) xs.length cap) xs) (hd : d < xs.length) :
    Calls Try.prog 149 #[.slice (some ⟨g, 0, none⟩) xs.length cap, .int .i64 d, .int .i64 ((d : Int) + 1)] w fun e w' =>
      e = .returned (.slice (some ⟨g, 0, none⟩) (xs.length - 1) cap) ∧ Own w' B (.slice (some ⟨g, 0, none⟩) (xs.length - 1) cap) (xs.eraseIdx d) ∧ w.grownBy w' (some g) := by
  obtain ⟨i0, hi, hz0, hz1, hz2⟩ := info_parts Try.infoInt
  obtain ⟨A', c', e', hk', hm', -⟩ := h.ints
  simp only [Value.slice.injEq, true_and] at e'
  obtain ⟨-, rfl⟩ := e'
  unfold maxLen at hm'
  have hdr := h.drew
  obtain ⟨A, hA, hsrc⟩ : ∃ A : Addr, (if cap = d + 1 then some (⟨g, 0, none⟩ : Addr) else some ⟨g, d + 1, none⟩) = some A ∧ Hid (∀ t u, ((xs.drop (d + 1)).map (Value.int .i64))[t]? = some u → w.drew.cell? (A.add t) = some u) := by
    by_cases hc : cap = d + 1
    · refine ⟨⟨g, 0, none⟩, by simp [hc], fun t u hu => ?_⟩
      have : (xs.drop (d + 1)).length = 0 := by rw [List.length_drop]; omega
      rw [List.length_eq_zero_iff.1 this] at hu
      simp at hu
    · refine ⟨⟨g, d + 1, none⟩, by simp [hc], fun t u hu => ?_⟩
      have ht : t < (xs.drop (d + 1)).length := by have := (List.getElem?_eq_some_iff.1 hu).1; simpa using this
      rw [List.length_drop] at ht
      rw [List.getElem?_map, List.getElem?_drop, List.getElem?_eq_getElem (by omega)] at hu
      simp at hu
      subst hu
      have e2 : (⟨g, d + 1, none⟩ : Addr).add t = ⟨g, d + 1 + t, none⟩ := by unfold Addr.add; split <;> simp_all
      rw [e2]
      exact hdr.cell (d + 1 + t) (by omega)
  have hp := hid (hdr.puts (xs.drop (d + 1)) d (by rw [List.length_drop]; omega))
  have s1 : Hid (((xs.drop (d + 1)).map (Value.int .i64)).length = (xs.length - (d + 1)) * 1) := by show _ = _; simp
  have s2 : Hid (∀ u ∈ (xs.drop (d + 1)).map (Value.int .i64), u.oneCell' = true) := by intro u hu; obtain ⟨x, _, rfl⟩ := List.mem_map.1 hu; rfl
  have s3 : Hid (∀ t, t < ((xs.drop (d + 1)).map (Value.int .i64)).length → (w.drew.cell? ⟨g, 0 + d * 1 + t, none⟩).isSome = true ∧ w.drew.frozen? ⟨g, 0 + d * 1 + t, none⟩ = false) := by
    intro t ht
    simp at ht
    rw [Nat.mul_one, Nat.zero_add]
    exact ⟨by rw [hdr.cell (d + t) (by omega)]; rfl, hdr.free _⟩
  obtain ⟨W1, hW1⟩ : ∃ W1, W1 = w.drew.setCells g (0 + d * 1) ((xs.drop (d + 1)).map (Value.int .i64)) := ⟨_, rfl⟩
  have hW : Hid (W1 = w.drew.setCells g (0 + d * 1) ((xs.drop (d + 1)).map (Value.int .i64))) := hW1
  have hp1 : Hid (Own W1 B (.slice (some ⟨g, 0, none⟩) xs.length cap) (xs.take d ++ xs.drop (d + 1) ++ xs.drop (d + (xs.drop (d + 1)).length)) ∧ w.drew.grownBy W1 (some g)) := by
    show _ ∧ _
    rw [hW1, Nat.zero_add, Nat.mul_one]
    exact hp.out
  have hlen : Hid ((xs.take d ++ xs.drop (d + 1) ++ xs.drop (d + (xs.drop (d + 1)).length)).length = xs.length) := by
    show _ = _
    simp; omega
  have hcl : ∀ ty, (Builtin.clear_ #[23] ty #[.slice (some ⟨g, d + (xs.length - (d + 1)), none⟩) (xs.length - (d + (xs.length - (d + 1)))) (cap - (d + (xs.length - (d + 1))))]).run Try.prog W1 = .ok (.tuple #[]) (W1.setCells g (d + (xs.length - (d + 1))) (List.replicate (xs.length - (d + (xs.length - (d + 1)))) (.int .i64 0))) :=
    fun ty => Lib.run_clear_slice W1 _ _ ty _ Try.underlying23 zeroInt rfl rfl g (d + (xs.length - (d + 1))) _ _ (by omega) (fun t ht => by rw [hp1.out.1.cell _ (by rw [hlen.out]; omega)]; rfl) (fun t ht => hp1.out.1.free _)
  have hne : ((d : Int) == (d : Int) + 1) = false := by simp; omega
  have hic : d ≤ cap := by omega
  have hb1 : (0 : Int) ≤ (d : Int) + 1 := by omega
  have hb2 : (d : Int) + 1 ≤ (xs.length : Int) := by omega
  have hjc : d + 1 ≤ cap := by omega
  have hnn : d + (xs.length - (d + 1)) = xs.length - 1 := by omega
  have HNN := hid hnn
  clear hW1 hp hdr hnn
  clear h
  go_enter Try.func149, Try.ntmps149
  go_wp2_with fail
  go_region_law (refine step_append_room rfl (.tmp 22) (.tmp 25) 23 rfl 3 i0 1 Try.underlying23 hi hz1 g 0 d cap (by simp [Act.eval, Act.put]) A (xs.length - (d + 1)) (cap - (d + 1)) _ (by simp [Act.eval, Act.put]) s1.out hsrc.out s2.out (by omega) s3.out ?_; rw [← hW.out])
  go_wp2
  go_ret
  obtain ⟨o1, g1⟩ := hp1.out
  have hl1 := hlen.out
  have o2 := o1.puts (List.replicate (xs.length - (d + (xs.length - (d + 1)))) 0) (d + (xs.length - (d + 1))) (by rw [hl1, List.length_replicate]; omega)
  rw [List.map_replicate] at o2
  have o3 := o2.1.cut (xs.length - 1) (by simp only [List.length_append, List.length_take, List.length_drop, List.length_replicate]; omega)
  have e3 : (((xs.take d ++ xs.drop (d + 1) ++ xs.drop (d + (xs.drop (d + 1)).length)).take (d + (xs.length - (d + 1))) ++ List.replicate (xs.length - (d + (xs.length - (d + 1)))) 0 ++
      (xs.take d ++ xs.drop (d + 1) ++ xs.drop (d + (xs.drop (d + 1)).length)).drop (d + (xs.length - (d + 1)) + (List.replicate (xs.length - (d + (xs.length - (d + 1)))) (0 : Int)).length)).take (xs.length - 1)) = xs.eraseIdx d := by
    have hl : (xs.take d ++ xs.drop (d + 1)).length = xs.length - 1 := by simp; omega
    rw [HNN.out, List.append_assoc, List.take_append_of_le_length (by rw [List.length_take, hl1]; omega), List.take_take, Nat.min_self, List.take_append_of_le_length (by omega), ← hl, List.take_length, eraseIdx_eq]
  rw [e3] at o3
  have e1 : Ending.returned (Value.slice (some ⟨g, 0, none⟩) (d + (xs.length - (d + 1))) cap) = Ending.returned (.slice (some ⟨g, 0, none⟩) (xs.length - 1) cap) := by rw [HNN.out]
  have g0 : w.grownBy w.drew (some g) := ⟨rfl, rfl, rfl, Nat.le_refl _, fun _ _ _ => rfl⟩
  exact ⟨e1, o3, (g0.trans g1).trans o2.2⟩

theorem Delete_at (g cap d n : Nat) (i j : Int) (xs : List Int) (B : Nat) (w : World) (h : Own w B (.slice (some ⟨g, 0, none⟩) n cap) xs) (hi : i = d) (hj : j = d + 1) (hd : d < xs.length) :
    Calls Try.prog 149 #[.slice (some ⟨g, 0, none⟩) n cap, .int .i64 i, .int .i64 j] w fun e w' =>
      e = .returned (.slice (some ⟨g, 0, none⟩) (n - 1) cap) ∧ Own w' B (.slice (some ⟨g, 0, none⟩) (n - 1) cap) (xs.eraseIdx d) ∧ w.grownBy w' (some g) := by
  obtain ⟨A, c, e⟩ := h.form
  simp only [Value.slice.injEq] at e
  obtain ⟨-, rfl, -⟩ := e
  subst hi hj
  exact Delete_any g cap d xs B w h hd

end Go.Proofs.Ytldblcolnjkcaaa
