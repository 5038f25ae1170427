/- Contract of the reference: a list without one of its numbers. No conditions. -/
import Derived.Test.YtldblcolnjkcaaaV5
import Derived.Outline
import Derived.IntWalk
import Derived.Deep.RegionHeld3
namespace Go.Proofs.Ytldblcolnjkcaaa
open Go.RowKit

set_option maxRecDepth 100000 in
set_option maxHeartbeats 800000 in
theorem without_any (v : Value) (xs : List Int) (d : Nat) (w : World) (h : Ints w v xs) (hd : d < xs.length) (hl : xs.length ≤ 1000000) :
    Calls Try.prog 148 #[v, .int .i64 d] w (RetOwn w (xs.eraseIdx d)) := by
  have h0 := h
  obtain ⟨A, c, rfl, hk, hm, hr⟩ := h
  unfold maxLen at hm
  obtain ⟨b, off, rfl, hb0, hc⟩ := hr (by omega)
  clear hc hr
  have hIt := h0.take d (by omega)
  have hlt : (xs.take d).length ≤ 1000000000000 := by rw [List.length_take]; omega
  have HLT := hid (show (xs.take d).length = d by rw [List.length_take]; omega)
  have HE := hid (eraseIdx_eq xs d)
  have hb1 : (0 : Int) ≤ (d : Int) + 1 := by omega
  have hb2 : (d : Int) + 1 ≤ (xs.length : Int) := by omega
  have hb3 : (d : Int) ≤ (xs.length : Int) := by omega
  have hb4 : (d : Int) ≤ (c : Int) := by omega
  have hwr : IntKind.i64.wrap ((d : Int) + 1) = (d : Int) + 1 := IntWalk.i64_in _ (by omega)
  have htn : ((d : Int) + 1).toNat = d + 1 := by omega
  have hz2 : (xs.take d).length + (xs.drop (d + 1)).length ≤ 1000000000000 := by have := HLT.out; rw [List.length_drop]; omega
  have hdc : d ≤ c := by omega
  have hc0 : ¬ c = 0 := by omega
  have hdl : d ≤ xs.length := by omega
  have hlit : Own (w.alloc (.cells #[] 3)).drew w.heap.size (.slice (some ⟨w.heap.size, 0, none⟩) 0 0) [] := (Own.litAt (Below.refl w.heap.size w)).drew
  have hBl : Below w.heap.size w (w.alloc (.cells #[] 3)).drew := (below_alloc w _).drew
  have hsz : w.heap.size ≤ (w.alloc (.cells #[] 3)).drew.heap.size := hBl.size
  have hItw := (hIt.ext hBl)
  have hbd : (d : Int) ≤ (d : Int) + 1 := by omega
  by_cases hcap : c = d + 1
  · have hID := Ints.dropAll (k := d + 1) h0 hcap
    subst hcap
    rw [show xs.length - (d + 1) = 0 by omega] at hID
    go_enter Try.func148, Try.ntmps148
    go_wp2_with fail
    go_region_held3 (fun _ => True)
      (first | exact trivial)
      (first
        | (refine step_applit _ (by rfl) _ _ (by rfl) _ hlit (by rfl) _ _ _ (xs.take d) hItw (by rfl) hlt ?_; intro A1 c1 w1 ho1 sg1 hb1'; have hB1 := hBl.trans (hb1'.mono hsz); have hs1 := hB1.size)
        | (refine stepI _ (by rfl) _ _ (by rfl) _ _ (xs.take d) (by rfl) ho1 _ _ _ (xs.drop (d + 1)) (by rfl) (hID.ext hB1) hz2 hs1 ?_; intro v2 w2 ho2 hg2 hat2))
    have hB2 := hB1.trans (ho1.under hg2 hs1)
    go_wp2
    go_ret
    exact ⟨_, rfl, by rw [← HE.out]; exact ho2, hB2⟩
  · have hID := h0.drop (d + 1) (by omega)
    have hb5 : (d : Int) + 1 ≤ (c : Int) := by omega
    go_enter Try.func148, Try.ntmps148
    go_wp2_with fail
    go_region_held3 (fun _ => True)
      (first | exact trivial)
      (first
        | (refine step_applit _ (by rfl) _ _ (by rfl) _ hlit (by rfl) _ _ _ (xs.take d) hItw (by rfl) hlt ?_; intro A1 c1 w1 ho1 sg1 hb1'; have hB1 := hBl.trans (hb1'.mono hsz); have hs1 := hB1.size)
        | (refine stepI _ (by rfl) _ _ (by rfl) _ _ (xs.take d) (by rfl) ho1 _ _ _ (xs.drop (d + 1)) (by rfl) (hID.ext hB1) hz2 hs1 ?_; intro v2 w2 ho2 hg2 hat2))
    have hB2 := hB1.trans (ho1.under hg2 hs1)
    go_wp2
    go_ret
    exact ⟨_, rfl, by rw [← HE.out]; exact ho2, hB2⟩

end Go.Proofs.Ytldblcolnjkcaaa
