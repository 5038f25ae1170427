/- Contracts: a drawn shape with an index; a drawn shape. No conditions. -/
import Derived.Test.YtldblcolnjkcaaaSH1
namespace Go.Proofs.Ytldblcolnjkcaaa
open Go.RowKit

/-- What a draw of two lists leaves. -/
def RetDrawII (w : World) (n m : Nat) (e : Ending) (w' : World) : Prop := ∃ (u v : Value) (xs ys : List Int), e = .returned (.tuple #[u, v]) ∧ Ints w' u xs ∧ Ints w' v ys ∧ xs.length ≤ n ∧ ys.length ≤ m ∧ Below w.heap.size w w'
def RetDrawI (w : World) (n : Nat) (e : Ending) (w' : World) : Prop := ∃ (u : Value) (xs : List Int), e = .returned u ∧ Ints w' u xs ∧ xs.length ≤ n ∧ Below w.heap.size w w'

set_option maxRecDepth 100000 in
set_option maxHeartbeats 6400000 in
theorem DrawNewView_any (v : Value) (n : Nat) (w : World) (h : BytesV w v n) :
    Calls Try.prog 29 #[v] w (RetDrawI w 5) := by
  go_enter Try.func29, Try.ntmps29
  go_wp2_with fail
  refine (newReader_any _ n _ h).mono ?_; rintro e w1 ⟨rfl, hR, hb1, hlt⟩
  go_wp2_with fail
  refine (someShape_any _ _ _ _ hR (by omega)).mono ?_; rintro e w2 ⟨u, xs, q, rfl, hl, hI, hu, hq, hR2, hG⟩
  have HB := hid (hb1.trans (Own.below hG (by omega) (fun k e => by injection e with e; omega)))
  have HI := hid hI
  have HL := hid hl
  clear hb1 hR hR2 hG hI hl hu hq
  go_wp2
  go_ret
  exact ⟨u, xs, rfl, HI.out.1, HL.out, HB.out⟩

set_option maxRecDepth 100000 in
set_option maxHeartbeats 6400000 in
theorem DrawRankOf_any (v : Value) (n : Nat) (w : World) (h : BytesV w v n) :
    Calls Try.prog 15 #[v] w (RetDrawII w 5 6) := by
  go_enter Try.func15, Try.ntmps15
  go_wp2_with fail
  refine (newReader_any _ n _ h).mono ?_; rintro e w1 ⟨rfl, hR, hb1, hlt⟩
  go_wp2_with fail
  refine (someShape_any _ _ _ _ hR (by omega)).mono ?_; rintro e w2 ⟨u, xs, q, rfl, hl, hI, hu, hq, hR2, hG⟩
  have HB := hid (hb1.trans (Own.below hG (by omega) (fun k e => by injection e with e; omega)))
  obtain ⟨A, c, eu⟩ := hI.1.form
  subst eu
  have hz1 := hG.size
  have HM0 := DMid.start hR2
  obtain ⟨g, hg⟩ : ∃ g, g = w.heap.size := ⟨_, rfl⟩
  obtain ⟨b0, hb0⟩ : ∃ b, b = w2.heap.size := ⟨_, rfl⟩
  rw [← hg] at HM0 hI
  rw [← hb0] at HM0
  have HM0 := hid HM0
  have HI := hid hI
  have hgw : g = w.heap.size ∧ w.heap.size ≤ w2.heap.size := ⟨hg, by omega⟩
  have HGW := hid hgw
  clear hb1 hR hR2 hG hI hu hlt hz1 hgw
  go_upto_region 4 with fail
  rw [← hg, ← hb0]
  clear hg hb0
  generalize w2.alloc (.cells #[] 3) = w3 at *
  go_wp2_with fail
  go_loopg [6, 7] xs.length (fun m' out z wr => ∃ (k p : Nat) (ys : List Int), k ≤ xs.length ∧ m' = xs.length - k ∧ z = .int .i64 k ∧ p ≤ 20 + 3 * k ∧ ys.length = k ∧ DMid g g w2 b0 wr p out ys)
  case atStart => exact ⟨0, q, [], Nat.zero_le _, rfl, rfl, by omega, rfl, HM0.out⟩
  case round =>
    obtain ⟨k, p, ys, hk, hm, rfl, hp, hyl, hM⟩ := hrel
    have HM := hid hm
    have HYL := hid hyl
    obtain ⟨Ao, co, eo⟩ := hM.own.form
    subst eo
    obtain ⟨w4, rfl⟩ : ∃ w4, w4 = wr := ⟨_, rfl⟩
    have HM4 := hid hM
    clear hm hyl hM HM0
    by_cases hlt : k < xs.length
    · have hki : (k : Int) < (xs.length : Int) := by omega
      go_wp2_with fail
      refine (pick_any _ _ (p) 3 _ HM4.out.rd (by omega) (by omega)).mono ?_; rintro e w5 ⟨r1, rfl, hr1, hR, hG⟩
      have HM5 := hid (HM4.out.ate hR hG)
      clear hR hG
      go_wp2_with fail
      refine (pick_any _ _ (p + 1) 5 _ HM5.out.rd (by omega) (by omega)).mono ?_; rintro e w6 ⟨r2, rfl, hr2, hR, hG⟩
      have HM6 := hid (HM5.out.ate hR hG)
      clear hR hG
      have hL : Own (w6.alloc (.cells #[.int .i64 0, .int .i64 (r1 : Int), .int .i64 (r2 : Int)] 3)) w6.heap.size (.slice (some ⟨w6.heap.size, 0, none⟩) 3 3) [0, (r1 : Int), (r2 : Int)] := own_lit w6 [0, (r1 : Int), (r2 : Int)] (by simp)
      have HA := hid (HM6.out.nx (below_alloc w6 (.cells #[.int .i64 0, .int .i64 (r1 : Int), .int .i64 (r2 : Int)] 3)))
      have HE := hid (HM6.out.rd.lit 3 3)
      go_wp2_with fail
      refine (one_any _ _ (p + 2) _ _ _ _ HA.out.rd (by omega) hL (by simp) HE.out).mono ?_; rintro e w7 ⟨r, hr, rfl, hR, hG⟩
      have HM7 := hid (HA.out.ate hR hG)
      obtain ⟨y, ey, hy⟩ : ∃ y : Int, [0, (r1 : Int), (r2 : Int)][r] = y ∧ y ∈ ([0, (r1 : Int), (r2 : Int)] : List Int) := ⟨_, rfl, List.getElem_mem hr⟩
      rw [ey]
      clear hR hG ey hr hL HA HE
      have HL1 := hid (show ys.length ≤ 1000000000000 by have := HYL.out; omega)
      go_wp2_with (at_builtin; refine app1 _ rfl _ _ rfl b0 _ ys rfl (HM7.out.own.alloc _) ⟨w7.heap.size, 0, none⟩ 1 y rfl (cell_new1 _ _ _) HL1.out (le_alloc HM7.out.sz _) ?_)
      intro v1 w9 ho9 hg9 hat9
      have HM9 := hid ((HM7.out.nx (below_alloc w7 (.cells #[.int .i64 y] 3))).row ho9 hg9)
      clear hg9 hat9 ho9
      go_wp2
      go_roundg (xs.length - (k + 1))
      case measure => have := HM.out; omega
      case rel => exact ⟨k + 1, p + 3, _, by omega, rfl, by go_num, by omega, by have := HYL.out; simp; omega, HM9.out⟩
    · have hki : ¬ (k : Int) < (xs.length : Int) := by omega
      go_wp2_with fail
      refine (pick_any _ _ (p) 16 _ HM4.out.rd (by omega) (by omega)).mono ?_; rintro e w5 ⟨r, rfl, hr, hR, hG⟩
      have HM5 := hid (HM4.out.ate hR hG)
      clear hR hG
      by_cases h0 : r = 0
      · have h0i : ((r : Int) == 0) = true := by simp [h0]
        clear h0
        have hL : Own (w5.alloc (.cells #[.int .i64 0, .int .i64 (-1)] 3)) w5.heap.size (.slice (some ⟨w5.heap.size, 0, none⟩) 2 2) [0, -1] := own_lit w5 [0, -1] (by simp)
        have HA := hid (HM5.out.nx (below_alloc w5 (.cells #[.int .i64 0, .int .i64 (-1)] 3)))
        have HE := hid (HM5.out.rd.lit 2 2)
        go_wp2_with fail
        refine (one_any _ _ (p + 1) _ _ _ _ HA.out.rd (by omega) hL (by simp) HE.out).mono ?_; rintro e w6 ⟨r, hr, rfl, hR, hG⟩
        have HM6 := hid (HA.out.ate hR hG)
        obtain ⟨y, ey, hy⟩ : ∃ y : Int, [0, -1][r] = y ∧ y ∈ ([0, -1] : List Int) := ⟨_, rfl, List.getElem_mem hr⟩
        rw [ey]
        clear hR hG ey hr hL HA HE
        have HL1 := hid (show ys.length ≤ 1000000000000 by have := HYL.out; omega)
        go_wp2_with (at_builtin; refine app1 _ rfl _ _ rfl b0 _ ys rfl (HM6.out.own.alloc _) ⟨w6.heap.size, 0, none⟩ 1 y rfl (cell_new1 _ _ _) HL1.out (le_alloc HM6.out.sz _) ?_)
        intro v1 w9 ho9 hg9 hat9
        have HM9 := hid ((HM6.out.nx (below_alloc w6 (.cells #[.int .i64 y] 3))).row ho9 hg9)
        clear hg9 hat9 ho9
        go_wp2
        refine bodyPost_ret (v := .tuple #[.slice A xs.length c, v1]) (by simp [results, Try.results15, go_sem]) rfl ?_
        exact ⟨_, _, xs, _, rfl, (HI.out.grown HM9.out.grew).1, HM9.out.own.ints, hl, by have := HYL.out; simp; omega, HB.out.trans (Own.below HM9.out.grew HGW.out.2 (fun k e => by have := HGW.out.1; injection e with e; omega))⟩
      · have h0i : ((r : Int) == 0) = false := by simp; omega
        go_wp2
        refine bodyPost_ret (v := .tuple #[.slice A xs.length c, .slice Ao ys.length co]) (by simp [results, Try.results15, go_sem]) rfl ?_
        exact ⟨_, _, xs, _, rfl, (HI.out.grown HM5.out.grew).1, HM5.out.own.ints, hl, by have := HYL.out; omega, HB.out.trans (Own.below HM5.out.grew HGW.out.2 (fun k e => by have := HGW.out.1; injection e with e; omega))⟩

end Go.Proofs.Ytldblcolnjkcaaa
