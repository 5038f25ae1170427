/- Contracts: drawn tensors. No conditions. -/
import Derived.Test.YtfiphjifnjnmbaaHR
import Derived.Test.YtfiphjifnjnmbaaSH1v9
import Derived.Test.YtfiphjifnjnmbaaD1v9
namespace Go.Proofs.Ytfiphjifnjnmbaa
open Go.RowKit

set_option maxRecDepth 100000 in
set_option maxHeartbeats 6400000 in
theorem tensorFor_any (N g p : Nat) (v : Value) (ss : List Int) (w : World) (h : Rd N w g p) (hp : p ≤ 900000) (hv : IntsN g w v ss) (hs : isShapeL ss = true) :
    Calls Try.prog 58 #[.pointer (some ⟨g, 0, none⟩), v] w (RetTensorR N g p 60 60 w) := by
  have HS := hid hs
  have hl4 := (shape_ext hs).1
  have hsp := shape_prod hs
  have H1 := hid ((Hr.start h).op ((Hr.start h).hp.alloc 25 #[.slice none 0 0, .slice none 0 0]))
  have hv1 := hv.1.ext (below_alloc w (.cells #[.slice none 0 0, .slice none 0 0] 25))
  obtain ⟨A, c, e⟩ := hv.1.form
  subst e
  go_enter Try.func58, Try.ntmps58
  go_upto_region 1 with fail
  generalize (w.alloc (.cells #[.slice none 0 0, .slice none 0 0] 25)) = w1 at *
  go_wp2_with fail
  refine (copyInts_any _ ss _ hv1 (by omega)).mono ?_; rintro e w2 ⟨v1, rfl, ho, hb⟩
  obtain ⟨A1, c1, eu⟩ := ho.form
  subst eu
  have H2 := hid (H1.out.op (H1.out.hp.row ho hb))
  have H3 := hid (H2.out.op (H2.out.hp.alloc 25 #[.slice A1 ss.length c1, .slice none 0 0]))
  have hv3 := (hv1.nx hb).ext (below_alloc w2 (.cells #[.slice A1 ss.length c1, .slice none 0 0] 25))
  have H4 := hid (H3.out.op (H3.out.hp.row (Own.nil _ _) (Below.refl _ _)))
  simp only [List.nil_append, List.cons_append] at H4
  clear ho hb H1 H2 H3 hs hv hv1
  go_upto_region 2 with fail
  generalize (w2.alloc (.cells #[.slice A1 ss.length c1, .slice none 0 0] 25)) = w3 at *
  generalize w2.heap.size = b at *
  go_wp2_with fail
  refine (count_any _ ss _ hv3).mono ?_; rintro e w' ⟨rfl, rfl⟩
  rw [hsp.1]
  obtain ⟨n, hn, hn60⟩ : ∃ n : Nat, prodI ss = (n : Int) ∧ n ≤ 60 := ⟨(prodI ss).toNat, by omega, by omega⟩
  rw [hn]
  clear hsp hn hv3
  go_wp2_with fail
  go_loopg [6] n (fun m i wr => ∃ (j q : Nat) (u : Value) (xs : List Int), m = j ∧ i = .int .i64 j ∧ q + j ≤ p + 60 ∧ xs.length + j ≤ 60 ∧
    Hr N g q w wr [.blk w.heap.size 25 #[.slice none 0 0, .slice none 0 0], .ints (.slice A1 ss.length c1) ss, .blk b 25 #[.slice A1 ss.length c1, u], .ints u xs])
  case atStart => exact ⟨n, p, _, [], rfl, rfl, by omega, by simp; omega, H4.out⟩
  case round =>
    obtain ⟨j, q, u, xs, hm, rfl, hq, hxl, HH⟩ := hrel
    have HM := hid hm
    have H := hid HH
    clear hm HH H4
    obtain ⟨A2, c2, e2⟩ := (H.out.ints 3 rfl).form
    subst e2
    obtain ⟨⟨z0, z1⟩, y0, y1⟩ := (H.out.blk 2 rfl).all2
    by_cases hj : 0 < j
    · have hji : (0 : Int) < (j : Int) := by omega
      have HL := hid (show xs.length ≤ 1000000000000 by omega)
      have HX := hid hxl
      have hw : IntKind.i64.wrap ((j : Int) - 1) = (j : Int) - 1 := IntWalk.i64_in _ (by omega)
      have hqb : q ≤ 1000000 := by omega
      have HR0 := hid (H.out.rd.nx (below_drew wr))
      have HM0 := hid (H.out.nx (below_drew wr))
      clear hxl
      go_upto_region 5 with fail
      go_region_law (first
        | (rw [if_pos (wanted_of (by rfl))]; go_simp; go_at_call 33; refine (pick_any N g q 19 _ HM0.out.rd hqb (by omega)).mono ?_; rintro e w5 ⟨r, rfl, hr, hR5, hG5⟩
           have hw9 : IntKind.i64.wrap ((r : Int) - 9) = (r : Int) - 9 := IntWalk.i64_in _ (by omega)
           have H5 := hid (HM0.out.ate hR5 hG5)
           have H5l := hid (H5.out.nx (below_alloc w5 (.cells #[.int .i64 ((r : Int) - 9)] 3)))
           obtain ⟨⟨p0, p1⟩, -⟩ := (H5.out.blk 2 rfl).all2
           obtain ⟨⟨pp0, pp1⟩, -⟩ := (H5l.out.blk 2 rfl).all2
           clear hR5 hG5
           go_simp)
        | (refine step1 _ (by rfl) _ _ (by rfl) w.heap.size _ xs (by rfl) (H5l.out.ints 3 rfl) ⟨w5.heap.size, 0, none⟩ 1 ((r : Int) - 9) (by rfl) (cell_new1 _ _ _) HL.out H5l.out.sz ?_; intro s6 w6 ho6 hg6 hat6
           have H6 := hid (H5l.out.op (H5l.out.hp.grown 3 rfl ho6 hg6 hat6))
           obtain ⟨⟨v0, v1⟩, vf0, vf1⟩ := (H6.out.blk 2 rfl).all2
           obtain ⟨A6, c6, e6⟩ := ho6.form
           rw [List.length_append, List.length_singleton] at e6
           subst e6
           clear ho6 hg6 hat6))
      all_goals
        have H7 := hid (H6.out.op (H6.out.hp.store 2 rfl 1 (.slice A6 (xs.length + 1) c6)))
        have HLA := hid (show (xs ++ [(r : Int) - 9]).length = xs.length + 1 by simp)
        simp only [List.set_cons_succ, List.set_cons_zero, List.setIfInBounds_toArray] at H7
        go_wp2
        go_roundg (j - 1)
        case measure => have := HM.out; omega
        case rel => exact ⟨j - 1, q + 1, _, _, rfl, by congr 1; omega, by omega, by have := HLA.out; have := HX.out; omega, H7.out⟩
    · have hj0 : ¬ (0 : Int) < (j : Int) := by omega
      obtain ⟨⟨r0, r1⟩, s0, s1⟩ := (H.out.blk 0 rfl).all2
      have HF := hid (H.out.op (H.out.hp.store2 0 rfl (.slice A1 ss.length c1) (.slice A2 xs.length c2)))
      have HX := hid hxl
      clear hxl
      have HQ := hid (show q ≤ p + 60 by omega)
      go_wp2
      refine bodyPost_ret (v := .agg #[.slice A1 ss.length c1, .slice A2 xs.length c2]) (by simp [results, Try.results58, go_sem, r0, r1]) rfl ?_
      exact ⟨_, _, ⟨ss, xs⟩, q, rfl, (by show ss.length ≤ 60; omega), (by have := HX.out; show xs.length ≤ 60; omega), HF.out.ints 1 rfl, HF.out.ints 3 rfl, HF.out.hp.apart 1 3 rfl rfl (by omega), HQ.out, HF.out.rd, HF.out.grew⟩

end Go.Proofs.Ytfiphjifnjnmbaa
