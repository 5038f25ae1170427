/- HR, ST1, ST2, ST3, TTp, E4p, TTq, TT1, TT2, TT3, TT4 in one text. No conditions. (printed by merge.py) -/
import Derived.Test.YtldblcolnjkcaaaHp
import Derived.Test.YtldblcolnjkcaaaDD
import Derived.Test.YtldblcolnjkcaaaSH1
import Derived.Test.YtldblcolnjkcaaaD1
import Derived.Test.YtldblcolnjkcaaaAD3
import Derived.Test.YtldblcolnjkcaaaTN1
import Derived.Test.YtldblcolnjkcaaaG2
import Derived.Test.YtldblcolnjkcaaaRKp
import Derived.Test.YtldblcolnjkcaaaRK1
import Derived.Test.YtldblcolnjkcaaaNVp
import Derived.Test.YtldblcolnjkcaaaKG
import Derived.Test.YtldblcolnjkcaaaE2
import Derived.Test.YtldblcolnjkcaaaC10a
import Derived.Test.YtldblcolnjkcaaaGbv
import Derived.Test.YtldblcolnjkcaaaGp
import Derived.Test.YtldblcolnjkcaaaVA
import Derived.Deep.Cut
import Derived.Test.YtldblcolnjkcaaaGr
import Derived.Test.YtldblcolnjkcaaaC2
import Derived.Test.YtldblcolnjkcaaaIE
import Derived.Deep.LoopGhost
import Derived.Test.YtldblcolnjkcaaaLEa
import Derived.Test.YtldblcolnjkcaaaGF
import Derived.Test.YtldblcolnjkcaaaGt

/-! ## HR -/
namespace Go.Proofs.Ytldblcolnjkcaaa
open Go.RowKit

structure Hr (N g q : Nat) (w wx : World) (L : List Item) : Prop where
  hp : Hp w.heap.size wx wx L
  lt : g < w.heap.size
  rd : Rd N wx g q
  grew : w.grownBy wx (some g)
section
variable {N g q p : Nat} {w wx wy : World} {L L' : List Item}
theorem Hr.start (h : Rd N w g q) : Hr N g q w w [] := ⟨Hp.start w, h.lt.2, h, World.grownBy.refl w (some g)⟩
theorem Hr.op (h : Hr N g q w wx L) (hp : Hp w.heap.size wx wy L') : Hr N g q w wy L' :=
  ⟨⟨Below.refl _ _, hp.size, hp.ok, hp.sep⟩, h.lt, h.rd.keep (hp.below.mono (by have := h.rd.lt; have := h.lt; omega)) (hp.below.block g h.lt),
   hp.below.os.trans h.grew.os, hp.below.tape.trans h.grew.tape, hp.below.output.trans h.grew.output, hp.size, fun k hk hne => (hp.below.block k hk).trans (h.grew.block k hk hne)⟩
theorem Hr.nx (h : Hr N g q w wx L) (hb : Below wx.heap.size wx wy) : Hr N g q w wy L := h.op (h.hp.nx hb)
theorem Hr.ate (h : Hr N g q w wx L) (hR : Rd N wy g p) (hG : wx.grownBy wy (some g)) : Hr N g p w wy L :=
  ⟨⟨Below.refl _ _, Nat.le_trans h.hp.size hG.size, fun i hi => (h.hp.ok i hi).stay fun k hk ho => hG.block k hk fun e => by
      injection e with e
      have := (h.hp.ok i hi).lt ho
      have := h.lt
      omega, h.hp.sep⟩, h.lt, hR, h.grew.trans hG⟩
theorem Hr.blk (h : Hr N g q w wx L) (i : Nat) {b : Nat} {T : TypeId} {cs : Array Value} (hi : L[i]? = some (.blk b T cs)) : Blk wx b T cs := h.hp.blk i hi
theorem Hr.ints (h : Hr N g q w wx L) (i : Nat) {v : Value} {xs : List Int} (hi : L[i]? = some (.ints v xs)) : Own wx w.heap.size v xs := h.hp.ints i hi
theorem Hr.sz (h : Hr N g q w wx L) : w.heap.size ≤ wx.heap.size := h.hp.size
end
/-- What drawing a tensor leaves. -/
def RetTensorR (N g p n m : Nat) (w : World) (e : Ending) (w' : World) : Prop := ∃ (sv tv : Value) (T : TL) (q : Nat), e = .returned (.agg #[sv, tv]) ∧ T.shape.length ≤ n ∧ T.values.length ≤ n ∧
  Own w' w.heap.size sv T.shape ∧ Own w' w.heap.size tv T.values ∧ Sep sv tv ∧ q ≤ p + m ∧ Rd N w' g q ∧ w.grownBy w' (some g)

end Go.Proofs.Ytldblcolnjkcaaa

/-! ## ST1 -/
namespace Go.Proofs.Ytldblcolnjkcaaa
open Go.RowKit

set_option maxRecDepth 100000 in
set_option maxHeartbeats 6400000 in
theorem tensorFor_any (N g p : Nat) (v : Value) (ss : List Int) (w : World) (h : Rd N w g p) (hp : p ≤ 900000) (hv : IntsN g w v ss) (hs : isShapeL ss = true) :
    Calls Try.prog 166 #[.pointer (some ⟨g, 0, none⟩), v] w (RetTensorR N g p 60 60 w) := by
  have HS := hid hs
  have hl4 := (shape_ext hs).1
  have hsp := shape_prod hs
  have H1 := hid ((Hr.start h).op ((Hr.start h).hp.alloc 75 #[.slice none 0 0, .slice none 0 0]))
  have hv1 := hv.1.ext (below_alloc w (.cells #[.slice none 0 0, .slice none 0 0] 75))
  obtain ⟨A, c, e⟩ := hv.1.form
  subst e
  go_enter Try.func166, Try.ntmps166
  go_upto_region 1 with fail
  generalize (w.alloc (.cells #[.slice none 0 0, .slice none 0 0] 75)) = w1 at *
  go_wp2_with fail
  refine (copyInts_any _ ss _ hv1 (by omega)).mono ?_; rintro e w2 ⟨v1, rfl, ho, hb⟩
  obtain ⟨A1, c1, eu⟩ := ho.form
  subst eu
  have H2 := hid (H1.out.op (H1.out.hp.row ho hb))
  have H3 := hid (H2.out.op (H2.out.hp.alloc 75 #[.slice A1 ss.length c1, .slice none 0 0]))
  have hv3 := (hv1.nx hb).ext (below_alloc w2 (.cells #[.slice A1 ss.length c1, .slice none 0 0] 75))
  have H4 := hid (H3.out.op (H3.out.hp.row (Own.nil _ _) (Below.refl _ _)))
  simp only [List.nil_append, List.cons_append] at H4
  clear ho hb H1 H2 H3 hs hv hv1
  go_upto_region 2 with fail
  generalize (w2.alloc (.cells #[.slice A1 ss.length c1, .slice none 0 0] 75)) = w3 at *
  generalize w2.heap.size = b at *
  go_wp2_with fail
  refine (count_any _ ss _ hv3).mono ?_; rintro e w' ⟨rfl, rfl⟩
  rw [hsp.1]
  obtain ⟨n, hn, hn60⟩ : ∃ n : Nat, prodI ss = (n : Int) ∧ n ≤ 60 := ⟨(prodI ss).toNat, by omega, by omega⟩
  rw [hn]
  clear hsp hn hv3
  go_wp2_with fail
  go_loopg [6] n (fun m i wr => ∃ (j q : Nat) (u : Value) (xs : List Int), m = j ∧ i = .int .i64 j ∧ q + j ≤ p + 60 ∧ xs.length + j ≤ 60 ∧
    Hr N g q w wr [.blk w.heap.size 75 #[.slice none 0 0, .slice none 0 0], .ints (.slice A1 ss.length c1) ss, .blk b 75 #[.slice A1 ss.length c1, u], .ints u xs])
  case atStart => exact ⟨n, p, _, [], rfl, rfl, by omega, by simp; omega, H4.out⟩
  case round =>
    obtain ⟨j, q, u, xs, hm, rfl, hq, hxl, HH⟩ := hrel
    have HM := hid hm
    have H := hid HH
    clear hm HH H4
    obtain ⟨A2, c2, e2⟩ := (H.out.ints 3 rfl).form
    subst e2
    obtain ⟨⟨z0, z1⟩, y0, y1⟩ := (H.out.blk 2 rfl).all2
    by_cases hj : 0 < j
    · have hji : (0 : Int) < (j : Int) := by omega
      have HL := hid (show xs.length ≤ 1000000000000 by omega)
      have HX := hid hxl
      have hw : IntKind.i64.wrap ((j : Int) - 1) = (j : Int) - 1 := IntWalk.i64_in _ (by omega)
      have hqb : q ≤ 1000000 := by omega
      have HR0 := hid (H.out.rd.nx (below_drew wr))
      have HM0 := hid (H.out.nx (below_drew wr))
      clear hxl
      go_upto_region 5 with fail
      go_region_law (first
        | (rw [if_pos (wanted_of (by rfl))]; go_simp; go_at_call 89; refine (pick_any N g q 19 _ HM0.out.rd hqb (by omega)).mono ?_; rintro e w5 ⟨r, rfl, hr, hR5, hG5⟩
           have hw9 : IntKind.i64.wrap ((r : Int) - 9) = (r : Int) - 9 := IntWalk.i64_in _ (by omega)
           have H5 := hid (HM0.out.ate hR5 hG5)
           have H5l := hid (H5.out.nx (below_alloc w5 (.cells #[.int .i64 ((r : Int) - 9)] 3)))
           obtain ⟨⟨p0, p1⟩, -⟩ := (H5.out.blk 2 rfl).all2
           obtain ⟨⟨pp0, pp1⟩, -⟩ := (H5l.out.blk 2 rfl).all2
           clear hR5 hG5
           go_simp)
        | (refine step1 _ (by rfl) _ _ (by rfl) w.heap.size _ xs (by rfl) (H5l.out.ints 3 rfl) ⟨w5.heap.size, 0, none⟩ 1 ((r : Int) - 9) (by rfl) (cell_new1 _ _ _) HL.out H5l.out.sz ?_; intro s6 w6 ho6 hg6 hat6
           have H6 := hid (H5l.out.op (H5l.out.hp.grown 3 rfl ho6 hg6 hat6))
           obtain ⟨⟨v0, v1⟩, vf0, vf1⟩ := (H6.out.blk 2 rfl).all2
           obtain ⟨A6, c6, e6⟩ := ho6.form
           rw [List.length_append, List.length_singleton] at e6
           subst e6
           clear ho6 hg6 hat6))
      all_goals
        have H7 := hid (H6.out.op (H6.out.hp.store 2 rfl 1 (.slice A6 (xs.length + 1) c6)))
        have HLA := hid (show (xs ++ [(r : Int) - 9]).length = xs.length + 1 by simp)
        simp only [List.set_cons_succ, List.set_cons_zero, List.setIfInBounds_toArray] at H7
        go_wp2
        go_roundg (j - 1)
        case measure => have := HM.out; omega
        case rel => exact ⟨j - 1, q + 1, _, _, rfl, by congr 1; omega, by omega, by have := HLA.out; have := HX.out; omega, H7.out⟩
    · have hj0 : ¬ (0 : Int) < (j : Int) := by omega
      obtain ⟨⟨r0, r1⟩, s0, s1⟩ := (H.out.blk 0 rfl).all2
      have HF := hid (H.out.op (H.out.hp.store2 0 rfl (.slice A1 ss.length c1) (.slice A2 xs.length c2)))
      have HX := hid hxl
      clear hxl
      have HQ := hid (show q ≤ p + 60 by omega)
      go_wp2
      refine bodyPost_ret (v := .agg #[.slice A1 ss.length c1, .slice A2 xs.length c2]) (by simp [results, Try.results166, go_sem, r0, r1]) rfl ?_
      exact ⟨_, _, ⟨ss, xs⟩, q, rfl, (by show ss.length ≤ 60; omega), (by have := HX.out; show xs.length ≤ 60; omega), HF.out.ints 1 rfl, HF.out.ints 3 rfl, HF.out.hp.apart 1 3 rfl rfl (by omega), HQ.out, HF.out.rd, HF.out.grew⟩

end Go.Proofs.Ytldblcolnjkcaaa

/-! ## ST2 -/
namespace Go.Proofs.Ytldblcolnjkcaaa
open Go.RowKit

set_option maxRecDepth 100000 in
set_option maxHeartbeats 6400000 in
theorem someTensor_any (N g p : Nat) (w : World) (h : Rd N w g p) (hp : p ≤ 800000) :
    Calls Try.prog 143 #[.pointer (some ⟨g, 0, none⟩)] w (RetTensorR N g p 61 66 w) := by
  have H1 := hid ((Hr.start h).op ((Hr.start h).hp.alloc 75 #[.slice none 0 0, .slice none 0 0]))
  go_enter Try.func143, Try.ntmps143
  go_upto_region 1 with fail
  generalize (w.alloc (.cells #[.slice none 0 0, .slice none 0 0] 75)) = w1 at *
  go_wp2_with fail
  refine (goodShape_any N g p _ H1.out.rd (by omega)).mono ?_; rintro e w2 ⟨u, xs, q, rfl, hs, -, hO, hq, hR, hG⟩
  have H2 := hid (H1.out.ate hR hG)
  have hN := IntsN.of_own hO (show g < w1.heap.size by have := H1.out.rd.lt; omega)
  obtain ⟨A0, c0, eu⟩ := hO.form
  subst eu
  have HS := hid hs
  clear hR hG hO hs H1
  go_wp2_with fail
  refine (tensorFor_any N g q _ xs _ H2.out.rd (by omega) hN HS.out).mono ?_; rintro e w3 ⟨sv, tv, T, q3, rfl, hl1, hl2, hO1, hO2, hsp, hq3, hR, hG⟩
  obtain ⟨A1, c1, eu⟩ := hO1.form
  subst eu
  obtain ⟨A2, c2, eu⟩ := hO2.form
  subst eu
  have H3 := hid (show Hr N g q3 w w3 [.blk w.heap.size 75 #[.slice none 0 0, .slice none 0 0], .ints (.slice A1 T.shape.length c1) T.shape, .ints (.slice A2 T.values.length c2) T.values] from ⟨⟨Below.refl _ _, Nat.le_trans H2.out.sz hG.size, fun i hi => by
      simp only [List.mem_cons, List.not_mem_nil, or_false] at hi
      rcases hi with rfl | rfl | rfl
      · exact ((H2.out.ate hR hG).hp.ok _ (by simp))
      · exact hO1.mono H2.out.sz
      · exact hO2.mono H2.out.sz,
    .cons (fun i hi => by
      simp only [List.mem_cons, List.not_mem_nil, or_false] at hi
      have hz := (H2.out.blk 0 rfl).lt
      rcases hi with rfl | rfl
      · exact fun k h1 h2 => by have h1 : k = _ := h1; have := (hO1.lt k h2).1; omega
      · exact fun k h1 h2 => by have h1 : k = _ := h1; have := (hO2.lt k h2).1; omega) (List.pairwise_pair.2 fun k h1 h2 => hsp k h1 h2)⟩, H2.out.lt, hR, H2.out.grew.trans hG⟩)
  have HL := hid (And.intro hl1 hl2)
  have HQ := hid (And.intro hq hq3)
  have hqb : q3 ≤ 900000 := by omega
  clear hR hG hO1 hO2 hsp hN H2 hl1 hl2 hq hq3 HS
  have H4 := hid (H3.out.op (H3.out.hp.alloc 75 #[.slice A1 T.shape.length c1, .slice A2 T.values.length c2]))
  simp only [List.nil_append, List.cons_append] at H4
  clear H3
  go_upto_region 2 with fail
  generalize (w3.alloc (.cells #[.slice A1 T.shape.length c1, .slice A2 T.values.length c2] 75)) = w4 at *
  generalize w3.heap.size = b at *
  have HM4 := H4
  clear H4
  go_wp2_with fail
  refine (pick_any _ _ (q3) 24 _ HM4.out.rd (by omega) (by omega)).mono ?_; rintro e w5 ⟨r, rfl, hr, hR, hG⟩
  have HM5 := hid (HM4.out.ate hR hG)
  clear hR hG
  obtain ⟨⟨r0, r1⟩, s0, s1⟩ := (HM5.out.blk 0 rfl).all2
  obtain ⟨⟨z0, z1⟩, y0, y1⟩ := (HM5.out.blk 3 rfl).all2
  have HL1 := hid (show T.shape.length ≤ 1000000000000 by have := HL.out; omega)
  have HL2 := hid (show T.values.length ≤ 1000000000000 by have := HL.out; omega)
  clear HM4
  by_cases h0 : r = 0
  · have h0i : ((r : Int) == 0) = true := by simp [h0]
    clear h0
    have H6 := hid (HM5.out.nx (below_alloc w5 (.cells #[.int .i64 1] 3)))
    obtain ⟨⟨zz0, zz1⟩, -⟩ := (H6.out.blk 3 rfl).all2
    go_wp2_with (at_builtin; refine app1 _ rfl _ _ rfl w.heap.size _ T.values rfl (H6.out.ints 2 rfl) ⟨w5.heap.size, 0, none⟩ 1 1 rfl (cell_new1 _ _ _) HL2.out H6.out.sz ?_)
    intro v1 w9 ho9 hg9 hat9
    rw [← World.size_alloc w5 (.cells #[.int .i64 1] 3)] at hat9
    have H7 := hid (H6.out.op (H6.out.hp.grown 2 rfl ho9 hg9 hat9))
    simp only [List.set_cons_succ, List.set_cons_zero] at H7
    obtain ⟨Av, cv, ev⟩ := ho9.form
    rw [List.length_append, List.length_singleton] at ev
    subst ev
    obtain ⟨⟨x0, x1⟩, t0, t1⟩ := (H7.out.blk 3 rfl).all2
    have H8 := hid (H7.out.op (H7.out.hp.store 3 rfl 1 (.slice Av (T.values.length + 1) cv)))
    simp only [List.set_cons_succ, List.set_cons_zero, List.setIfInBounds_toArray] at H8
    obtain ⟨⟨r0', r1'⟩, s0', s1'⟩ := (H8.out.blk 0 rfl).all2
    obtain ⟨⟨k0, k1⟩, l0, l1⟩ := (H8.out.blk 3 rfl).all2
    have HF := hid (H8.out.op (H8.out.hp.store2 0 rfl (.slice A1 T.shape.length c1) (.slice Av (T.values.length + 1) cv)))
    have HLA := hid (show (T.values ++ [1]).length ≤ 61 by have := HL.out; simp; omega)
    clear ho9 hg9 hat9 r0 r1 s0 s1 z0 z1 y0 y1 zz0 zz1
    go_wp2
    refine bodyPost_ret (v := .agg #[.slice A1 T.shape.length c1, .slice Av (T.values.length + 1) cv]) (by simp [results, Try.results143, go_sem, r0', r1']) rfl ?_
    exact ⟨_, _, ⟨T.shape, T.values ++ [1]⟩, q3 + 1, rfl, (by have := HL.out; show T.shape.length ≤ 61; omega), HLA.out, HF.out.ints 1 rfl, HF.out.ints 2 rfl, HF.out.hp.apart 1 2 rfl rfl (by omega), by have := HQ.out; omega, HF.out.rd, HF.out.grew⟩
  · have h0i : ((r : Int) == 0) = false := by simp; omega
    by_cases h1 : r = 1
    · have h1i : ((r : Int) == 1) = true := by simp [h1]
      clear h0 h1
      have HS4 := hid (show True from trivial)
      have H6 := hid (HM5.out.nx (below_alloc w5 (.cells #[.int .i64 (-1)] 3)))
      obtain ⟨⟨zz0, zz1⟩, -⟩ := (H6.out.blk 3 rfl).all2
      go_wp2_with (at_builtin; refine app1 _ rfl _ _ rfl w.heap.size _ T.shape rfl (H6.out.ints 1 rfl) ⟨w5.heap.size, 0, none⟩ 1 (-1) rfl (cell_new1 _ _ _) HL1.out H6.out.sz ?_)
      intro v1 w9 ho9 hg9 hat9
      rw [← World.size_alloc w5 (.cells #[.int .i64 (-1)] 3)] at hat9
      have H7 := hid (H6.out.op (H6.out.hp.grown 1 rfl ho9 hg9 hat9))
      simp only [List.set_cons_succ, List.set_cons_zero] at H7
      obtain ⟨Av, cv, ev⟩ := ho9.form
      rw [List.length_append, List.length_singleton] at ev
      subst ev
      obtain ⟨⟨x0, x1⟩, t0, t1⟩ := (H7.out.blk 3 rfl).all2
      have H8 := hid (H7.out.op (H7.out.hp.store 3 rfl 0 (.slice Av (T.shape.length + 1) cv)))
      simp only [List.set_cons_succ, List.set_cons_zero, List.setIfInBounds_toArray] at H8
      obtain ⟨⟨r0', r1'⟩, s0', s1'⟩ := (H8.out.blk 0 rfl).all2
      obtain ⟨⟨k0, k1⟩, l0, l1⟩ := (H8.out.blk 3 rfl).all2
      have HF := hid (H8.out.op (H8.out.hp.store2 0 rfl (.slice Av (T.shape.length + 1) cv) (.slice A2 T.values.length c2)))
      have HLA := hid (show (T.shape ++ [-1]).length ≤ 61 by have := HL.out; simp; omega)
      clear ho9 hg9 hat9 r0 r1 s0 s1 z0 z1 y0 y1 zz0 zz1
      go_wp2
      refine bodyPost_ret (v := .agg #[.slice Av (T.shape.length + 1) cv, .slice A2 T.values.length c2]) (by simp [results, Try.results143, go_sem, r0', r1']) rfl ?_
      exact ⟨_, _, ⟨T.shape ++ [-1], T.values⟩, q3 + 1, rfl, HLA.out, by have := HL.out; show T.values.length ≤ 61; omega, HF.out.ints 1 rfl, HF.out.ints 2 rfl, HF.out.hp.apart 1 2 rfl rfl (by omega), by have := HQ.out; omega, HF.out.rd, HF.out.grew⟩
    · have h1i : ((r : Int) == 1) = false := by simp; omega
      clear h0 h1
      have HF := hid (HM5.out.op (HM5.out.hp.store2 0 rfl (.slice A1 T.shape.length c1) (.slice A2 T.values.length c2)))
      go_wp2
      refine bodyPost_ret (v := .agg #[.slice A1 T.shape.length c1, .slice A2 T.values.length c2]) (by simp [results, Try.results143, go_sem, r0, r1]) rfl ?_
      exact ⟨_, _, T, q3 + 1, rfl, by have := HL.out; omega, by have := HL.out; omega, HF.out.ints 1 rfl, HF.out.ints 2 rfl, HF.out.hp.apart 1 2 rfl rfl (by omega), by have := HQ.out; omega, HF.out.rd, HF.out.grew⟩

end Go.Proofs.Ytldblcolnjkcaaa

/-! ## ST3 -/
namespace Go.Proofs.Ytldblcolnjkcaaa
open Go.RowKit

/-- What DrawTurnTensor leaves. -/
def RetDrawTI (w : World) (e : Ending) (w' : World) : Prop := ∃ (T : TL) (O : List Int) (sv tv vo : Value), e = .returned (.tuple #[.agg #[sv, tv], vo]) ∧ T.shape.length ≤ 61 ∧ T.values.length ≤ 61 ∧ O.length ≤ 61 ∧
  Ints w' sv T.shape ∧ Ints w' tv T.values ∧ Ints w' vo O ∧ Below w.heap.size w w'
theorem Hr.tens {N g q0 : Nat} {w wx wy : World} {L : List Item} {sv tv : Value} {T : TL} {q : Nat} (h : Hr N g q0 w wx L) (hO1 : Own wy wx.heap.size sv T.shape) (hO2 : Own wy wx.heap.size tv T.values) (hsp : Sep sv tv) (hR : Rd N wy g q) (hG : wx.grownBy wy (some g)) :
    Hr N g q w wy [.ints sv T.shape, .ints tv T.values] :=
  ⟨⟨Below.refl _ _, Nat.le_trans h.sz hG.size, fun i hi => by
      simp only [List.mem_cons, List.not_mem_nil, or_false] at hi
      rcases hi with rfl | rfl
      · exact hO1.mono h.sz
      · exact hO2.mono h.sz, List.pairwise_pair.2 fun k h1 h2 => hsp k h1 h2⟩, h.lt, hR, h.grew.trans hG⟩
theorem draw_done {g q b : Nat} {w w1 wx : World} {sv tv ov : Value} {T : TL} {O : List Int} (hB : Below w.heap.size w w1) (H : Hr g g q w1 wx [.ints sv T.shape, .ints tv T.values, .blk b 75 #[sv, tv], .ints ov O]) (hg : w.heap.size < g)
    (h1 : T.shape.length ≤ 61) (h2 : T.values.length ≤ 61) (h3 : O.length ≤ 61) (ho : Own wx w1.heap.size ov O) : RetDrawTI w (.returned (.tuple #[.agg #[sv, tv], ov])) ((wx.setCell ⟨w.heap.size, 0, none⟩ sv).setCell ⟨w.heap.size, 1, none⟩ tv) := by
  have hlt := H.lt
  have k : ∀ {u : Value} {xs : List Int}, Own wx w1.heap.size u xs → Ints ((wx.setCell ⟨w.heap.size, 0, none⟩ sv).setCell ⟨w.heap.size, 1, none⟩ tv) u xs := fun h =>
    ((h.far (p := ⟨w.heap.size, 0, none⟩) (by show w.heap.size < w1.heap.size; omega) sv).far (p := ⟨w.heap.size, 1, none⟩) (by show w.heap.size < w1.heap.size; omega) tv).ints
  exact ⟨T, O, sv, tv, ov, rfl, h1, h2, h3, k (H.ints 0 rfl), k (H.ints 1 rfl), k ho, below2 (hB.trans (Own.below H.grew (by omega) (fun k e => by injection e with e; omega))) (Nat.le_refl _) _ _⟩

set_option maxRecDepth 100000 in
set_option maxHeartbeats 6400000 in
theorem DrawTurnTensor_any (v : Value) (n : Nat) (w : World) (h : BytesV w v n) :
    Calls Try.prog 78 #[v] w (RetDrawTI w) := by
  have hb0 := below_alloc w (.cells #[.slice none 0 0, .slice none 0 0] 75)
  have hZ := Blk.new w 75 #[.slice none 0 0, .slice none 0 0]
  have h1 := h.ext hb0
  have hz0 : w.heap.size + 1 ≤ (w.alloc (.cells #[.slice none 0 0, .slice none 0 0] 75)).heap.size := by simp
  go_enter Try.func78, Try.ntmps78
  go_wp2_with fail
  generalize (w.alloc (.cells #[.slice none 0 0, .slice none 0 0] 75)) = w0 at *
  refine (newReader_any _ n _ h1).mono ?_; rintro e w1 ⟨rfl, hR, hb1, hlt⟩
  have hZ1 := hZ.nx hb1
  have HB1 := hid (hb0.nx hb1 hb0.size)
  have HM0 := hid (Hr.start hR)
  generalize w0.heap.size = g at *
  have HZ1 := hid hZ1
  have hgz : w.heap.size < g := by omega
  clear hZ hZ1 hb0 hb1 h1 hz0 h hR hlt
  go_wp2_with fail
  refine (someTensor_any g g 0 _ HM0.out.rd (by omega)).mono ?_; rintro e w2 ⟨sv, tv, T, q, rfl, hl1, hl2, hO1, hO2, hsp, hq, hR, hG⟩
  obtain ⟨A1, c1, eu⟩ := hO1.form
  subst eu
  obtain ⟨A2, c2, eu⟩ := hO2.form
  subst eu
  have H2 := hid (HM0.out.tens hO1 hO2 hsp hR hG)
  have HL := hid (And.intro hl1 hl2)
  clear hO1 hO2 hsp hR hG HM0
  have H3 := hid (H2.out.op (H2.out.hp.alloc 75 #[.slice A1 T.shape.length c1, .slice A2 T.values.length c2]))
  simp only [List.nil_append, List.cons_append] at H3
  clear H2
  go_upto_region 3 with fail
  generalize (w2.alloc (.cells #[.slice A1 T.shape.length c1, .slice A2 T.values.length c2] 75)) = w3 at *
  generalize w2.heap.size = b at *
  have H4 := hid (H3.out.op (H3.out.hp.row (Own.empty w3 rfl (Nat.le_refl _)) (below_alloc w3 (.cells #[] 3))))
  simp only [List.nil_append, List.cons_append] at H4
  clear H3
  go_upto_region 5 with fail
  generalize (w3.alloc (.cells #[] 3)) = w4 at *
  generalize Value.slice (some ⟨w3.heap.size, 0, none⟩) 0 0 = ov at *
  go_loopg [6, 7] T.shape.length (fun m o i wr => ∃ (k q : Nat) (xs : List Int), k ≤ T.shape.length ∧ m = T.shape.length - k ∧ i = .int .i64 k ∧ xs.length = k ∧ q ≤ 66 + k ∧
    Hr g g q w1 wr [.ints (.slice A1 T.shape.length c1) T.shape, .ints (.slice A2 T.values.length c2) T.values, .blk b 75 #[.slice A1 T.shape.length c1, .slice A2 T.values.length c2], .ints o xs])
  case atStart => exact ⟨0, q, [], Nat.zero_le _, rfl, rfl, rfl, by omega, H4.out⟩
  case round =>
    obtain ⟨k, q, xs, hk, rfl, rfl, hxl, hq, HH⟩ := hrel
    clear H4
    obtain ⟨Ao, co, eo⟩ := (HH.ints 3 rfl).form
    have hoi := (HH.ints 3 rfl).ints
    have HX := hid hxl
    rw [hxl] at eo
    subst eo
    obtain ⟨wr', rfl⟩ : ∃ w', w' = wr := ⟨_, rfl⟩
    have H := hid HH
    obtain ⟨⟨z0, z1⟩, y0, y1⟩ := (H.out.blk 2 rfl).all2
    have hkb : k ≤ 61 := by have := HL.out; omega
    clear HH hxl
    by_cases hlt : k < T.shape.length
    · have hki : (k : Int) < (T.shape.length : Int) := by omega
      have hw : IntKind.i64.wrap ((k : Int) + 1) = (k : Int) + 1 := IntWalk.i64_in _ (by omega)
      have hP := pick_any g g q (k + 1) _ H.out.rd (by omega) (by omega)
      rw [show (((k + 1 : Nat)) : Int) = (k : Int) + 1 by omega] at hP
      have HP := hid hP
      clear hP hoi
      go_wp2_with fail
      refine HP.out.mono ?_; rintro e w5 ⟨r, rfl, hr, hR, hG⟩
      have H5 := hid (H.out.ate hR hG)
      clear hR hG
      go_wp2_with fail
      refine (insert_any _ xs r k _ (H5.out.ints 3 rfl).ints (by have := HX.out; omega) (by have := HX.out; omega)).mono ?_; rintro e w6 ⟨v1, rfl, ho, hb⟩
      have H6 := hid (H5.out.op (H5.out.hp.row ho hb))
      have H7 := hid (H6.out.op (H6.out.hp.pick [0, 1, 2, 4] (by decide)))
      simp only [List.nil_append, List.cons_append] at H7
      have H8 : Hid (Hr g g (q + 1) w1 w6 [.ints (.slice A1 T.shape.length c1) T.shape, .ints (.slice A2 T.values.length c2) T.values, .blk b 75 #[.slice A1 T.shape.length c1, .slice A2 T.values.length c2], .ints v1 (insAt xs r k)]) := H7
      have HX2 := hid (show (insAt xs r k).length = k + 1 by rw [insAt_length _ _ _ (by have := HX.out; omega), HX.out])
      clear ho hb H6 H7 H5
      go_wp2_with fail
      go_roundg (T.shape.length - (k + 1))
      case measure => omega
      case rel => exact ⟨k + 1, q + 1, _, by omega, rfl, by congr 1, HX2.out, by omega, H8.out⟩
    · have hki : ¬ (k : Int) < (T.shape.length : Int) := by omega
      have hqb : q ≤ 1000000 := by omega
      by_cases h0 : k = 0
      · have h0i : ¬ (0 : Int) < (k : Int) := by omega
        clear h0
        have hZ4 := (HZ1.out.grown H.out.grew (by omega))
        obtain ⟨⟨r0, r1⟩, s0, s1⟩ := hZ4.all2
        clear hZ4
        have HF := hid (draw_done HB1.out H.out hgz HL.out.1 HL.out.2 (by have := HX.out; omega) (H.out.ints 3 rfl))
        clear hoi
        go_wp2
        refine bodyPost_ret (v := .tuple #[.agg #[.slice A1 T.shape.length c1, .slice A2 T.values.length c2], .slice Ao k co]) (by simp [results, Try.results78, go_sem, r0, r1]) rfl ?_
        exact HF.out
      · have h0i : (0 : Int) < (k : Int) := by omega
        have HMr := H
        obtain ⟨w5, rfl⟩ : ∃ w5, w5 = wr' := ⟨_, rfl⟩
        have HM5 := HMr
        clear HMr H
        go_wp2_with fail
        refine (pick_any _ _ (q) 16 _ HM5.out.rd (by omega) (by omega)).mono ?_; rintro e w6 ⟨r, rfl, hr, hR, hG⟩
        have HM6 := hid (HM5.out.ate hR hG)
        clear hR hG
        clear z0 z1 y0 y1
        by_cases hr0 : r = 0
        · have hr0i : ((r : Int) == 0) = true := by simp [hr0]
          clear hr0
          obtain ⟨gr, cr, eo, hg1, hg2⟩ := (HM6.out.ints 3 rfl).row (by have := HX.out; omega)
          rw [HX.out] at eo
          have ec : Ao = some ⟨gr, 0, none⟩ ∧ co = cr := by simpa using eo
          obtain ⟨rfl, rfl⟩ := ec
          clear eo
          have hk1 : k - 1 < xs.length := by have := HX.out; omega
          have hxc := (HM6.out.ints 3 rfl).cell (k - 1) hk1
          obtain ⟨j, hj⟩ : ∃ j, j = k - 1 := ⟨_, rfl⟩
          obtain ⟨Y, hY⟩ : ∃ Y, xs[k - 1] = Y := ⟨_, rfl⟩
          rw [hY, ← hj] at hxc
          have hwk : IntKind.i64.wrap ((k : Int) - 1) = (j : Int) := by rw [show (k : Int) - 1 = (j : Int) by omega]; exact IntWalk.i64_in _ (by omega)
          have hjk : (j : Int) < (k : Int) := by omega
          have h0k : (0 : Int) < (k : Int) := by omega
          clear hj hY hk1
          have hL : Own (w6.alloc (.cells #[.int .i64 (-1), .int .i64 4, .int .i64 Y] 3)) w6.heap.size (.slice (some ⟨w6.heap.size, 0, none⟩) 3 3) [-1, 4, Y] := own_lit w6 [-1, 4, Y] (by simp)
          have HA := hid (HM6.out.nx (below_alloc w6 (.cells #[.int .i64 (-1), .int .i64 4, .int .i64 Y] 3)))
          have HE := hid (HM6.out.rd.lit 3 3)
          go_wp2_with fail
          refine (one_any _ _ (q + 1) _ _ _ _ HA.out.rd (by omega) hL (by simp) HE.out).mono ?_; rintro e w7 ⟨r, hr, rfl, hR, hG⟩
          have HM7 := hid (HA.out.ate hR hG)
          obtain ⟨y, ey, hy⟩ : ∃ y : Int, [-1, 4, Y][r] = y ∧ y ∈ ([-1, 4, Y] : List Int) := ⟨_, rfl, List.getElem_mem hr⟩
          rw [ey]
          clear hR hG ey hr hL HA HE
          have hv0 := (HM7.out.ints 3 rfl).cell 0 (by have := HX.out; omega)
          have hvf := (HM7.out.ints 3 rfl).free 0
          have H8 := hid (HM7.out.op (HM7.out.hp.put 3 rfl 0 y))
          have hb8 := (H8.out.blk 2 rfl)
          obtain ⟨⟨z0, z1⟩, y0, y1⟩ := hb8.all2
          have hZ4 := (HZ1.out.grown H8.out.grew (by omega))
          obtain ⟨⟨r0, r1⟩, s0, s1⟩ := hZ4.all2
          clear hZ4 hb8
          have HX8 := hid (show (xs.set 0 y).length = k by rw [List.length_set, HX.out])
          have HF := hid (draw_done HB1.out H8.out hgz HL.out.1 HL.out.2 (by have := HX8.out; omega) (H8.out.ints 3 rfl))
          clear hoi
          go_wp2
          refine bodyPost_ret (v := .tuple #[.agg #[.slice A1 T.shape.length c1, .slice A2 T.values.length c2], .slice (some ⟨gr, 0, none⟩) k co]) (by simp [results, Try.results78, go_sem, r0, r1]) rfl ?_
          exact HF.out
        · have hr0i : ((r : Int) == 0) = false := by simp; omega
          obtain ⟨⟨z0, z1⟩, y0, y1⟩ := (HM6.out.blk 2 rfl).all2
          have hZ4 := (HZ1.out.grown HM6.out.grew (by omega))
          obtain ⟨⟨r0, r1⟩, s0, s1⟩ := hZ4.all2
          clear hZ4 hr0
          have HF := hid (draw_done HB1.out HM6.out hgz HL.out.1 HL.out.2 (by have := HX.out; omega) (HM6.out.ints 3 rfl))
          clear hoi
          go_wp2
          refine bodyPost_ret (v := .tuple #[.agg #[.slice A1 T.shape.length c1, .slice A2 T.values.length c2], .slice Ao k co]) (by simp [results, Try.results78, go_sem, r0, r1]) rfl ?_
          exact HF.out

end Go.Proofs.Ytldblcolnjkcaaa

/-! ## TTp -/
namespace Go.Proofs.Ytldblcolnjkcaaa
open Go.RowKit

/-- The index before the turn: the dimension P[i] has the number i. -/
def unP (P : List Nat) (idx : List Int) (n : Nat) : List Int := (List.range n).map fun d => idx.getD (P.idxOf d) 0
def unPk (P : List Nat) (idx : List Int) (n k : Nat) : List Int := (List.range n).map fun d => if P.idxOf d < k then idx.getD (P.idxOf d) 0 else 0
theorem unPk_len (P : List Nat) (idx : List Int) (n k : Nat) : (unPk P idx n k).length = n := by simp [unPk]
theorem unP_len (P : List Nat) (idx : List Int) (n : Nat) : (unP P idx n).length = n := by simp [unP]
theorem unPk_zero (P : List Nat) (idx : List Int) (n : Nat) : unPk P idx n 0 = List.replicate n 0 := by
  apply List.ext_getElem
  · simp [unPk]
  · intro i h1 h2; simp [unPk]
theorem unPk_put {P : List Nat} {idx : List Int} {n k : Nat} (hn : P.Nodup) (hk : k < P.length) (hi : k < idx.length) : (unPk P idx n k).set P[k] idx[k] = unPk P idx n (k + 1) := by
  apply List.ext_getElem
  · simp [unPk]
  · intro i h1 h2
    rw [List.getElem_set]
    simp only [unPk, List.getElem_map, List.getElem_range]
    split
    · rename_i e
      subst e
      rw [hn.idxOf_getElem k hk, if_pos (by omega)]
      simp [hi]
    · rename_i e
      have hne : P.idxOf i ≠ k := fun h => by
        have h2 : P.idxOf i < P.length := by omega
        have := List.getElem_idxOf h2
        simp only [h] at this
        exact e this
      by_cases h : P.idxOf i < k
      · rw [if_pos h, if_pos (by omega)]
      · rw [if_neg h, if_neg (by omega)]
theorem unPk_all {P : List Nat} {idx : List Int} {n : Nat} (hp : P.Perm (List.range n)) : unPk P idx n n = unP P idx n := by
  have hl : P.length = n := by have := hp.length_eq; simpa using this
  apply List.ext_getElem
  · simp [unPk, unP]
  · intro i h1 h2
    simp only [unPk, unP, List.getElem_map, List.getElem_range]
    have hm : i ∈ P := hp.mem_iff.2 (List.mem_range.2 (by simpa [unPk] using h1))
    have := List.idxOf_lt_length_of_mem hm
    rw [if_pos (by omega)]
theorem pick_unP {P : List Nat} {idx : List Int} {n : Nat} (hp : P.Perm (List.range n)) (hl : idx.length = n) : pickN (unP P idx n) P = idx := by
  have hpl : P.length = n := by have := hp.length_eq; simpa using this
  have hn : P.Nodup := hp.nodup_iff.2 List.nodup_range
  apply List.ext_getElem
  · simp [pickN, hpl, hl]
  · intro i h1 h2
    have hip : i < P.length := by simpa [pickN] using h1
    have hm : P[i] < n := List.mem_range.1 (hp.mem_iff.1 (List.getElem_mem hip))
    simp only [pickN, List.getElem_map]
    have : (unP P idx n).getD P[i] 0 = idx.getD (P.idxOf P[i]) 0 := by simp [unP, hm]
    rw [this, hn.idxOf_getElem i hip]
    simp [h2]
theorem dotI_sum (f g : Nat → Int) (P : List Nat) : dotI (P.map f) (P.map g) = sumI (P.map fun i => f i * g i) := by
  induction P with
  | nil => rfl
  | cons p ps ih => simp only [List.map_cons, dotI, ih, sumI, List.foldr_cons]
theorem dotI_perm {P : List Nat} {n : Nat} (hp : P.Perm (List.range n)) {xs ys : List Int} (hx : xs.length = n) (hy : ys.length = n) : dotI (pickN xs P) (pickN ys P) = dotI xs ys := by
  have a := dotI_sum (fun i => xs.getD i 0) (fun i => ys.getD i 0) (List.range n)
  rw [map_range_getD xs n hx, map_range_getD ys n hy] at a
  rw [a]
  exact (dotI_sum _ _ P).trans (sumI_perm (hp.map _))
/-- A turned index lies in the turned box exactly if it did before. -/
theorem unP_box {P : List Nat} {n : Nat} (hp : P.Perm (List.range n)) {s idx : List Int} (hs : s.length = n) (hb : InBox idx (pickN s P)) : InBox (unP P idx n) s := by
  have hpl : P.length = n := by have := hp.length_eq; simpa using this
  obtain ⟨h1, h2⟩ := box_iff.1 hb
  refine box_iff.2 ⟨by rw [unP_len, hs], fun d k1 k2 => ?_⟩
  rw [unP_len] at k1
  have hm : d ∈ P := hp.mem_iff.2 (List.mem_range.2 k1)
  have hq := List.idxOf_lt_length_of_mem hm
  have hg := List.getElem_idxOf hq
  have hqi : P.idxOf d < idx.length := by rw [h1]; simpa [pickN] using hq
  have := h2 (P.idxOf d) hqi (by simpa [pickN] using hq)
  simp only [pickN, List.getElem_map, hg] at this
  simp only [unP, List.getElem_map, List.getElem_range]
  simp only [List.getD_eq_getElem?_getD, List.getElem?_eq_getElem hqi, List.getElem?_eq_getElem k2, Option.getD_some] at this ⊢
  exact this
theorem box_index {s i : List Int} (h : InBox i s) : isIndexL s i = true := by
  obtain ⟨h1, h2⟩ := box_iff.1 h
  simp only [isIndexL, Bool.and_eq_true, decide_eq_true_eq, List.all_eq_true, inR_iff]
  refine ⟨h1, fun p hp => ?_⟩
  obtain ⟨k, hk, rfl⟩ := List.getElem_of_mem hp
  simp only [List.length_zip] at hk
  have := h2 k (by omega) (by omega)
  simp only [List.getElem_zip]
  omega
def turnS (s O : List Int) : List Int := pickN s (O.map Int.toNat)
def turnV (s O : List Int) : VL := permV ⟨0, s, rowS s⟩ O
/-- The rank, before the turn, of the value with the rank k behind it. -/
def turnK (s O : List Int) (k : Int) : Int := dotI (unP (O.map Int.toNat) (unr (turnS s O) k) s.length) (rowS s)
def turnL (T : TL) (O : List Int) : TL := if isTensorL T && orderL O T.shape.length then ⟨turnS T.shape O, takenL T.values (offs (turnV T.shape O))⟩ else ⟨[], []⟩
theorem rowS_small {s : List Int} (h : isShapeL s = true) (h0 : 0 < prodI s) : ∀ x ∈ rowS s, 0 ≤ x ∧ x ≤ 60 := by
  obtain ⟨s1, s2, s3⟩ := shape_ext h
  have hp := shape_prod h
  have hpos := prodI_pos (fun x hx => (s2 x hx).1) h0
  intro x hx
  simp only [rowS, List.mem_map, List.mem_range] at hx
  obtain ⟨j, hj, rfl⟩ := hx
  have h1 : ∀ x ∈ s.drop (j + 1), 1 ≤ x := fun x hx => hpos x (List.mem_of_mem_drop hx)
  have h2 := prodI_gt h1
  have e : prodI s = prodI (s.take (j + 1)) * prodI (s.drop (j + 1)) := by rw [← prodI_append, List.take_append_drop]
  have h3 := prodI_gt (xs := s.take (j + 1)) (fun x hx => hpos x (List.mem_of_mem_take hx))
  have := Int.mul_le_mul_of_nonneg_right (show 1 ≤ prodI (s.take (j + 1)) by omega) (show 0 ≤ prodI (s.drop (j + 1)) by omega)
  omega
section
variable {s O : List Int}
theorem turnS_perm (ho : orderL O s.length = true) : (turnS s O).Perm s := by
  have := (order_perm ho).map fun i => s.getD i 0
  rwa [map_range_getD s _ rfl] at this
theorem turnS_prod (ho : orderL O s.length = true) : prodI (turnS s O) = prodI s := prodI_perm (turnS_perm ho)
theorem turnS_len (ho : orderL O s.length = true) : (turnS s O).length = s.length := (turnS_perm ho).length_eq
theorem turnS_shape (hs : isShapeL s = true) (ho : orderL O s.length = true) : isShapeL (turnS s O) = true := by
  obtain ⟨s1, s2, s3⟩ := shape_ext hs
  have ps := turnS_perm (s := s) ho
  have q1 : (turnS s O).length ≤ 4 := by rw [ps.length_eq]; exact s1
  have q2 : ∀ x ∈ turnS s O, 0 ≤ x ∧ x ≤ 60 := fun x hx => s2 x (ps.mem_iff.1 hx)
  have a := shape_prod hs
  have b := prodW_eq q1 q2
  simp only [isShapeL, Bool.and_eq_true, decide_eq_true_eq, List.all_eq_true, okExt, inR_iff]
  exact ⟨⟨q1, q2⟩, by rw [b.1, turnS_prod ho]; exact a.2.2⟩
/-- What the place of a turned value is. -/
theorem turn_at (hs : isShapeL s = true) (ho : orderL O s.length = true) {k : Int} (h0 : 0 ≤ k) (h1 : k < prodI s) :
    InBox (unP (O.map Int.toNat) (unr (turnS s O) k) s.length) s ∧ offW 0 (unr (turnS s O) k) (turnV s O).strides = turnK s O k ∧ 0 ≤ turnK s O k ∧ turnK s O k < prodI s := by
  have hp := order_perm ho
  obtain ⟨s1, s2, s3⟩ := shape_ext hs
  have hpos := prodI_pos (fun x hx => (s2 x hx).1) (show 0 < prodI s by omega)
  have hps : ∀ x ∈ turnS s O, 1 ≤ x := fun x hx => hpos x ((turnS_perm ho).mem_iff.1 hx)
  have hb := unr_box hps k
  have hB := unP_box hp rfl hb
  have hul : (unr (turnS s O) k).length = s.length := by rw [unr_length, turnS_len ho]
  have hr := rowS_small hs (by omega)
  have e : dotI (unr (turnS s O) k) (turnV s O).strides = turnK s O k := by
    have h := dotI_perm hp (xs := unP (O.map Int.toNat) (unr (turnS s O) k) s.length) (ys := rowS s) (unP_len _ _ _) (rowS_length s)
    rw [pick_unP hp hul] at h
    exact h
  have hw := offW_dot (base := 0) (idx := unr (turnS s O) k) (strides := (turnV s O).strides) ⟨by omega, by omega⟩ (box_le hb fun x hx => (s2 x ((turnS_perm ho).mem_iff.1 hx)).2)
    (fun x hx => by
      have : x ∈ pickN (rowS s) (O.map Int.toNat) := hx
      simp only [pickN, List.mem_map] at this
      obtain ⟨i, -, rfl⟩ := this
      simp only [List.getD_eq_getElem?_getD]
      cases hi : (rowS s)[i]? with
      | none => simp
      | some y => have := hr y (List.mem_of_getElem? hi); simp; omega)
    (by rw [hul]; omega)
  obtain ⟨d1, d2, -⟩ := dot_row hB
  exact ⟨hB, by rw [hw, e]; omega, d1, d2⟩
theorem turn_offs_len (hs : isShapeL s = true) (ho : orderL O s.length = true) : (offs (turnV s O)).length = (prodI s).toNat := by
  have := shape_prod (turnS_shape hs ho)
  have e : (offs (turnV s O)).length = (prodW (turnS s O)).toNat := by simp [offs, turnV, permV, turnS]
  rw [e, this.1, turnS_prod ho]
theorem turn_offs_get (hs : isShapeL s = true) (ho : orderL O s.length = true) (k : Nat) (hk : k < (offs (turnV s O)).length) : (offs (turnV s O))[k] = turnK s O k := by
  have hl := turn_offs_len hs ho
  have hp := shape_prod hs
  have h := (turn_at hs ho (k := k) (by omega) (by omega)).2.1
  simp only [offs, List.getElem_map, List.getElem_range]
  exact h
theorem turn_offs_in (hs : isShapeL s = true) (ho : orderL O s.length = true) : ∀ x ∈ offs (turnV s O), 0 ≤ x ∧ x < prodI s := by
  intro x hx
  obtain ⟨k, hk, rfl⟩ := List.getElem_of_mem hx
  have hl := turn_offs_len hs ho
  have hp := shape_prod hs
  rw [turn_offs_get hs ho k hk]
  exact (turn_at hs ho (k := k) (by omega) (by omega)).2.2
/-- The rank of the index before the turn. -/
theorem turn_rank (hs : isShapeL s = true) (ho : orderL O s.length = true) {k : Int} (h0 : 0 ≤ k) (h1 : k < prodI s) :
    rankOfL s (unP (O.map Int.toNat) (unr (turnS s O) k) s.length) = turnK s O k := by
  obtain ⟨hB, -⟩ := turn_at hs ho h0 h1
  obtain ⟨s1, s2, s3⟩ := shape_ext hs
  have hx : isIndexL s (unP (O.map Int.toNat) (unr (turnS s O) k) s.length) = true := box_index hB
  rw [rankOfL, hs, hx]
  simp only [Bool.and_self, if_true]
  rw [rankW_eq s1 s2 (box_le hB fun x hx => (s2 x hx).2), rankF_dot _ _ _ (by rw [unP_len])]
  simp only [Int.zero_mul, Int.zero_add]
  rfl
theorem turnL_len (T : TL) (O : List Int) : (turnL T O).shape.length ≤ 60 ∧ (turnL T O).values.length ≤ 60 := by
  unfold turnL
  split
  · rename_i h
    simp only [Bool.and_eq_true] at h
    have hT := isTensorL_and h.1
    have h1 := turnS_len h.2
    have h2 := (shape_ext hT.1).1
    have h3 := turn_offs_len hT.1 h.2
    have h4 := shape_prod hT.1
    refine ⟨by show (turnS T.shape O).length ≤ 60; omega, ?_⟩
    show (takenL T.values (offs (turnV T.shape O))).length ≤ 60
    simp only [takenL, List.length_map]
    omega
  · simp
end

end Go.Proofs.Ytldblcolnjkcaaa

/-! ## E4p -/
namespace Go.Proofs.Ytldblcolnjkcaaa
open Go.RowKit

def okTo (O : List Int) (n k : Nat) : Bool := (O.take k).all (inR · 0 ((n : Int) - 1)) && diffTo O k
theorem okTo_snoc {O : List Int} {n k : Nat} (h : k < O.length) (h0 : okTo O n k = true) (h1 : 0 ≤ O[k]) (h2 : O[k] < n) (h3 : (O.take k).contains O[k] = false) : okTo O n (k + 1) = true := by
  simp only [okTo, Bool.and_eq_true] at h0 ⊢
  refine ⟨?_, ?_⟩
  · rw [all_snoc (inR · 0 ((n : Int) - 1)) O k h h0.1]
    exact inR_yes h1 (by omega)
  · rw [diffTo_snoc O k h0.2]
    simp only [freshAt, List.getD_eq_getElem?_getD, List.getElem?_eq_getElem h, Option.getD_some, h3, Bool.not_false]
theorem order_bad {O : List Int} {n k : Nat} (h : k < O.length) (h1 : O[k] < 0 ∨ (n : Int) ≤ O[k]) : orderL O n = false := by
  have := all_false (inR · 0 ((n : Int) - 1)) O k h (inR_no (by omega))
  simp [orderL, this]
theorem order_twice {O : List Int} {n k : Nat} (h : k < O.length) (h1 : (O.take k).contains O[k] = true) : orderL O n = false := by
  have := diffTo_false O k h (by simp only [freshAt, List.getD_eq_getElem?_getD, List.getElem?_eq_getElem h, Option.getD_some, h1, Bool.not_true])
  simp [orderL, this]
theorem order_good {O : List Int} {n : Nat} (hl : O.length = n) (h : okTo O n O.length = true) : orderL O n = true := by
  simp only [okTo, List.take_length, Bool.and_eq_true] at h
  simp only [orderL, hl, diffL, Bool.and_eq_true, decide_eq_true_eq]
  rw [hl] at h
  exact ⟨⟨trivial, h.1⟩, h.2⟩


end Go.Proofs.Ytldblcolnjkcaaa

/-! ## TTq -/
namespace Go.Proofs.Ytldblcolnjkcaaa
open Go.RowKit

theorem nodup_order {O : List Int} {n : Nat} (hl : O.length = n) (hb : ∀ x ∈ O, 0 ≤ x ∧ x < n) (hd : O.Nodup) : orderL O n = true := by
  have h : ∀ k, k ≤ O.length → okTo O n k = true := by
    intro k
    induction k with
    | zero => intro _; simp [okTo, diffTo]
    | succ k ih =>
      intro hk
      have hm := hb O[k] (List.getElem_mem _)
      refine okTo_snoc (by omega) (ih (by omega)) hm.1 hm.2 ?_
      rw [← Bool.not_eq_true, List.contains_iff_mem]
      intro hc
      obtain ⟨i, hi, e⟩ := List.getElem_of_mem hc
      simp only [List.getElem_take] at e
      have hik : i < k := by simp at hi; omega
      exact List.pairwise_iff_getElem.1 hd i k (by omega) (by omega) hik e
  exact order_good hl (h _ (Nat.le_refl _))

/-- The order that turns back. -/
def backL (O : List Int) (n : Nat) : List Int := unP (O.map Int.toNat) (upI n) n
theorem upI_getD (n i : Nat) (h : i < n) : (upI n).getD i 0 = (i : Int) := by
  simp [upI, h]
section
variable {P : List Nat} {n : Nat}
theorem idx_lt (hp : P.Perm (List.range n)) {d : Nat} (hd : d < n) : P.idxOf d < n := by
  have hl : P.length = n := by have := hp.length_eq; simpa using this
  have := List.idxOf_lt_length_of_mem (hp.mem_iff.2 (List.mem_range.2 hd))
  omega
theorem idx_at (hp : P.Perm (List.range n)) {d : Nat} (hd : d < n) : P.getD (P.idxOf d) 0 = d := by
  have := List.idxOf_lt_length_of_mem (hp.mem_iff.2 (List.mem_range.2 hd))
  simp only [List.getD_eq_getElem?_getD, List.getElem?_eq_getElem this, Option.getD_some]
  exact List.getElem_idxOf this
/-- The inverse, as places. -/
def inv (P : List Nat) (n : Nat) : List Nat := (List.range n).map fun d => P.idxOf d
theorem inv_len : (inv P n).length = n := by simp [inv]
theorem inv_get {d : Nat} (hd : d < n) : (inv P n).getD d 0 = P.idxOf d := by simp [inv, hd]
theorem inv_nodup (hp : P.Perm (List.range n)) : (inv P n).Nodup := by
  refine List.pairwise_iff_getElem.2 fun i j hi hj hij e => ?_
  rw [inv_len] at hi hj
  simp only [inv, List.getElem_map, List.getElem_range] at e
  have a := idx_at hp hi
  have b := idx_at hp hj
  rw [e] at a
  omega
theorem inv_perm (hp : P.Perm (List.range n)) : (inv P n).Perm (List.range n) :=
  perm_range n _ (inv_nodup hp) (fun x hx => by
    simp only [inv, List.mem_map, List.mem_range] at hx
    obtain ⟨d, hd, rfl⟩ := hx
    exact idx_lt hp hd) inv_len
theorem inv_idx (hp : P.Perm (List.range n)) {d : Nat} (hd : d < n) : (inv P n).idxOf d = P.getD d 0 := by
  have hl : P.length = n := by have := hp.length_eq; simpa using this
  have hn : P.Nodup := hp.nodup_iff.2 List.nodup_range
  have hm : P[d]'(by omega) < n := List.mem_range.1 (hp.mem_iff.1 (List.getElem_mem _))
  have e : (inv P n)[P[d]'(by omega)]'(by rw [inv_len]; exact hm) = d := by
    simp only [inv, List.getElem_map, List.getElem_range]
    exact hn.idxOf_getElem d (by omega)
  have h := (inv_nodup hp).idxOf_getElem (P[d]'(by omega)) (by rw [inv_len]; exact hm)
  rw [e] at h
  rw [h]
  simp [hl, hd]
theorem pick_getD (xs : List Int) {d : Nat} (hd : d < P.length) : (pickN xs P).getD d 0 = xs.getD (P.getD d 0) 0 := by
  simp [pickN, hd]
theorem unP_inv (hp : P.Perm (List.range n)) (idx : List Int) : unP (inv P n) idx n = pickN idx P := by
  have hl : P.length = n := by have := hp.length_eq; simpa using this
  apply List.ext_getElem
  · simp [unP, pickN, hl]
  · intro i h1 h2
    have hi : i < n := by simpa [unP] using h1
    simp only [unP, List.getElem_map, List.getElem_range, pickN]
    rw [inv_idx hp hi]
    simp [hl, hi]
theorem pick_inv (hp : P.Perm (List.range n)) {s : List Int} (hs : s.length = n) : pickN (pickN s P) (inv P n) = s := by
  have hl : P.length = n := by have := hp.length_eq; simpa using this
  apply List.ext_getElem
  · simp [pickN, inv, hs]
  · intro i h1 h2
    have hi : i < n := by omega
    have e : (pickN (pickN s P) (inv P n))[i] = (pickN s P).getD ((inv P n).getD i 0) 0 := by simp [pickN, inv_len, hi]
    rw [e, inv_get hi, pick_getD _ (by rw [hl]; exact idx_lt hp hi), idx_at hp hi]
    simp [hs, hi]
theorem unP_pick (hp : P.Perm (List.range n)) {idx : List Int} (hs : idx.length = n) : unP P (pickN idx P) n = idx := by
  have hl : P.length = n := by have := hp.length_eq; simpa using this
  apply List.ext_getElem
  · simp [unP, hs]
  · intro i h1 h2
    have hi : i < n := by omega
    simp only [unP, List.getElem_map, List.getElem_range]
    rw [pick_getD _ (by rw [hl]; exact idx_lt hp hi), idx_at hp hi]
    simp [hs, hi]
end
section
variable {s O : List Int}
theorem back_inv (ho : orderL O s.length = true) : (backL O s.length).map Int.toNat = inv (O.map Int.toNat) s.length := by
  have hp := order_perm ho
  apply List.ext_getElem
  · simp [backL, unP, inv]
  · intro i h1 h2
    have hi : i < s.length := by simpa [inv] using h2
    simp only [backL, unP, List.getElem_map, List.getElem_range, inv]
    rw [upI_getD _ _ (idx_lt hp hi)]
    simp
theorem back_len (n : Nat) : (backL O n).length = n := by simp [backL, unP]
theorem back_order (ho : orderL O s.length = true) : orderL (backL O s.length) s.length = true := by
  have hp := order_perm ho
  have hget : ∀ i (hi : i < (backL O s.length).length), (backL O s.length)[i] = (((O.map Int.toNat).idxOf i : Nat) : Int) := fun i hi => by
    have hi : i < s.length := by simpa [back_len] using hi
    simp only [backL, unP, List.getElem_map, List.getElem_range]
    exact upI_getD _ _ (idx_lt hp hi)
  refine nodup_order (back_len _) (fun x hx => ?_) (List.pairwise_iff_getElem.2 fun i j hi hj hij e => ?_)
  · obtain ⟨i, hi, rfl⟩ := List.getElem_of_mem hx
    rw [hget]
    have := idx_lt hp (show i < s.length by simpa [back_len] using hi)
    omega
  · rw [hget, hget] at e
    rw [back_len] at hi hj
    have a := idx_at hp hi
    have b := idx_at hp hj
    have e : (O.map Int.toNat).idxOf i = (O.map Int.toNat).idxOf j := by omega
    rw [e] at a
    omega
theorem back_shape (ho : orderL O s.length = true) : turnS (turnS s O) (backL O s.length) = s := by
  show pickN (pickN s _) ((backL O s.length).map Int.toNat) = s
  rw [back_inv ho]
  exact pick_inv (order_perm ho) rfl
/-- There and back, a place is what it was. -/
theorem back_place (hs : isShapeL s = true) (ho : orderL O s.length = true) {k : Int} (h0 : 0 ≤ k) (h1 : k < prodI s) :
    0 ≤ turnK (turnS s O) (backL O s.length) k ∧ turnK (turnS s O) (backL O s.length) k < prodI s ∧ turnK s O (turnK (turnS s O) (backL O s.length) k) = k := by
  have hp := order_perm ho
  have hl := turnS_len ho
  obtain ⟨s1, s2, s3⟩ := shape_ext hs
  have hpos := prodI_pos (fun x hx => (s2 x hx).1) (show 0 < prodI s by omega)
  have hbo : orderL (backL O s.length) (turnS s O).length = true := by rw [hl]; exact back_order ho
  obtain ⟨hB, -, d1, d2⟩ := turn_at (turnS_shape hs ho) hbo (k := k) h0 (by rw [turnS_prod ho]; exact h1)
  rw [turnS_prod ho] at d2
  obtain ⟨-, -, d3⟩ := dot_row hB
  refine ⟨d1, d2, ?_⟩
  have e : unr (turnS s O) (turnK (turnS s O) (backL O s.length) k) = pickN (unr s k) (O.map Int.toNat) := by
    refine d3.trans ?_
    rw [hl, back_inv ho, back_shape ho, unP_inv hp]
  unfold turnK at e ⊢
  rw [e, unP_pick hp (unr_length s k)]
  exact dot_unr hpos k h0 h1
theorem turnK_inj (hs : isShapeL s = true) (ho : orderL O s.length = true) {k j : Int} (h0 : 0 ≤ k) (h1 : k < prodI s) (g0 : 0 ≤ j) (g1 : j < prodI s) (e : turnK s O k = turnK s O j) : k = j := by
  have hp := order_perm ho
  obtain ⟨s1, s2, s3⟩ := shape_ext hs
  have hpos := prodI_pos (fun x hx => (s2 x hx).1) (show 0 < prodI s by omega)
  have hps : ∀ x ∈ turnS s O, 1 ≤ x := fun x hx => hpos x ((turnS_perm ho).mem_iff.1 hx)
  obtain ⟨hB, -⟩ := turn_at hs ho h0 h1
  obtain ⟨hC, -⟩ := turn_at hs ho g0 g1
  have a := (dot_row hB).2.2
  have b := (dot_row hC).2.2
  have e1 : unP (O.map Int.toNat) (unr (turnS s O) k) s.length = unP (O.map Int.toNat) (unr (turnS s O) j) s.length := by
    rw [← a, ← b]; exact congrArg _ e
  have e2 : unr (turnS s O) k = unr (turnS s O) j := by
    rw [← pick_unP hp (show (unr (turnS s O) k).length = s.length by rw [unr_length, turnS_len ho]), e1, pick_unP hp (by rw [unr_length, turnS_len ho])]
  rw [← dot_unr hps k h0 (by rw [turnS_prod ho]; exact h1), e2, dot_unr hps j g0 (by rw [turnS_prod ho]; exact g1)]
end

theorem isTensorL_zero : isTensorL ⟨[], []⟩ = false := by decide
theorem turnL_valid {T : TL} {O : List Int} (h : isTensorL (turnL T O) = true) : isTensorL T = true ∧ orderL O T.shape.length = true ∧ turnL T O = ⟨turnS T.shape O, takenL T.values (offs (turnV T.shape O))⟩ := by
  cases h1 : (isTensorL T && orderL O T.shape.length)
  · rw [show turnL T O = ⟨[], []⟩ by simp [turnL, h1], isTensorL_zero] at h
    cases h
  · have h2 := h1
    simp only [Bool.and_eq_true] at h2
    exact ⟨h2.1, h2.2, by simp [turnL, h1]⟩
theorem turn_get {T : TL} {O : List Int} (hT : isTensorL T = true) (ho : orderL O T.shape.length = true) (k : Nat) (hk : (k : Int) < prodI T.shape) :
    (takenL T.values (offs (turnV T.shape O)))[k]? = some (T.values.getD (turnK T.shape O k).toNat 0) := by
  have hl := turn_offs_len (isTensorL_and hT).1 ho
  have hp := shape_prod (isTensorL_and hT).1
  have hk' : k < (offs (turnV T.shape O)).length := by omega
  simp only [takenL, List.getElem?_map, List.getElem?_eq_getElem hk', Option.map_some]
  rw [turn_offs_get (isTensorL_and hT).1 ho k hk']
/-- There and back. -/
theorem turn_back {T : TL} {O : List Int} (h : isTensorL (turnL T O) = true) : turnL (turnL T O) (backL O T.shape.length) = T := by
  obtain ⟨hT, ho, e⟩ := turnL_valid h
  have hs := (isTensorL_and hT).1
  have hp := shape_prod hs
  have hv := (isTensorL_and hT).2.1
  have hsl : (turnL T O).shape = turnS T.shape O := by rw [e]
  have hbo : orderL (backL O T.shape.length) (turnL T O).shape.length = true := by rw [hsl, turnS_len ho]; exact back_order ho
  have hv2 : (turnL T O).values = takenL T.values (offs (turnV T.shape O)) := by rw [e]
  have e2 : turnL (turnL T O) (backL O T.shape.length) = ⟨turnS (turnL T O).shape (backL O T.shape.length), takenL (turnL T O).values (offs (turnV (turnL T O).shape (backL O T.shape.length)))⟩ := by
    rw [turnL, if_pos (by rw [h, hbo]; rfl)]
  have hs2 : isShapeL (turnL T O).shape = true := (isTensorL_and h).1
  have hp2 : prodI (turnL T O).shape = prodI T.shape := by rw [hsl, turnS_prod ho]
  have hn : T.values.length = (prodI T.shape).toNat := by rw [hp.1] at hv; omega
  have h1 : turnS (turnL T O).shape (backL O T.shape.length) = T.shape := by rw [hsl]; exact back_shape ho
  have h2 : takenL (turnL T O).values (offs (turnV (turnL T O).shape (backL O T.shape.length))) = T.values := by
    have hl := turn_offs_len hs2 hbo
    apply List.ext_getElem?
    intro k
    by_cases hk : k < T.values.length
    · have hk1 : (k : Int) < prodI T.shape := by omega
      rw [turn_get h hbo k (by rw [hp2]; exact hk1)]
      have hq := back_place hs ho (k := k) (by omega) hk1
      rw [← hsl] at hq
      obtain ⟨q0, q1, q2⟩ := hq
      generalize turnK (turnL T O).shape (backL O T.shape.length) k = m at *
      have hm := turn_get hT ho m.toNat (by omega)
      rw [show ((m.toNat : Nat) : Int) = m by omega, q2] at hm
      rw [hv2]
      simp only [List.getD_eq_getElem?_getD, hm, Option.getD_some, Int.toNat_natCast, List.getElem?_eq_getElem hk]
    · rw [List.getElem?_eq_none (by simp only [takenL, List.length_map]; omega), List.getElem?_eq_none (by omega)]
  rw [e2, h1, h2]
theorem turn_perm {T : TL} {O : List Int} (h : isTensorL (turnL T O) = true) : (turnL T O).values.Perm T.values := by
  obtain ⟨hT, ho, e⟩ := turnL_valid h
  have hs := (isTensorL_and hT).1
  have hp := shape_prod hs
  have hv := (isTensorL_and hT).2.1
  have hn : T.values.length = (prodI T.shape).toNat := by rw [hp.1] at hv; omega
  have hl := turn_offs_len hs ho
  have hq : ((offs (turnV T.shape O)).map Int.toNat).Perm (List.range T.values.length) := by
    refine perm_range _ _ (List.pairwise_iff_getElem.2 fun i j hi hj hij e => ?_) (fun x hx => ?_) (by rw [List.length_map, hl, hn])
    · rw [List.length_map] at hi hj
      simp only [List.getElem_map] at e
      rw [turn_offs_get hs ho i hi, turn_offs_get hs ho j hj] at e
      have a := turn_at hs ho (k := i) (by omega) (by omega)
      have b := turn_at hs ho (k := j) (by omega) (by omega)
      have := turnK_inj hs ho (k := i) (j := j) (by omega) (by omega) (by omega) (by omega) (by omega)
      omega
    · simp only [List.mem_map] at hx
      obtain ⟨y, hy, rfl⟩ := hx
      have := turn_offs_in hs ho y hy
      omega
  have := hq.map fun i => T.values.getD i 0
  rw [map_range_getD _ _ rfl] at this
  rw [e]
  simpa [takenL, List.map_map, Function.comp_def] using this

theorem sumW_sum (xs : List Int) : ∀ (a : Int), (∀ x ∈ xs, -1000000 ≤ x ∧ x ≤ 1000000) → -1000000 * (1000 - (xs.length : Int)) ≤ a → a ≤ 1000000 * (1000 - (xs.length : Int)) → xs.length ≤ 1000 →
    xs.foldl (fun a x => wrap64 (a + x)) a = a + sumI xs := by
  induction xs with
  | nil => intro a _ _ _ _; simp only [List.foldl_nil, sumI, List.foldr_nil]; omega
  | cons x xs ih =>
    intro a h h1 h2 hl
    have hx := h x List.mem_cons_self
    simp only [List.length_cons] at hl h1 h2
    have hw : wrap64 (a + x) = a + x := wrap_small (by omega) (by omega)
    rw [List.foldl_cons, hw, ih _ (fun y hy => h y (List.mem_cons_of_mem _ hy)) (by omega) (by omega) (by omega)]
    simp only [sumI, List.foldr_cons]
    omega
theorem turn_total {T : TL} {O : List Int} (h : isTensorL (turnL T O) = true) : sumW (turnL T O).values = sumW T.values := by
  obtain ⟨hT, ho, e⟩ := turnL_valid h
  have hs := (isTensorL_and hT).1
  have hp := shape_prod hs
  obtain ⟨-, hv, hb⟩ := isTensorL_and hT
  have hq := turn_perm h
  have hle : T.values.length ≤ 60 := by rw [hp.1] at hv; omega
  have hle2 := hq.length_eq
  unfold sumW
  rw [sumW_sum _ 0 (fun x hx => hb x (hq.mem_iff.1 hx)) (by omega) (by omega) (by omega), sumW_sum _ 0 hb (by omega) (by omega) (by omega), sumI_perm hq]

end Go.Proofs.Ytldblcolnjkcaaa

/-! ## TT1 -/
namespace Go.Proofs.Ytldblcolnjkcaaa
open Go.RowKit

set_option maxRecDepth 100000 in
set_option maxHeartbeats 6400000 in
theorem sTurnTensor_any (v vo : Value) (T : TL) (O : List Int) (w : World) (hv : TensorV w v T) (ho : Ints w vo O) :
    Calls Try.prog 61 #[v, vo] w (RetTensor w (turnL T O)) := by
  have hv0 := hv
  obtain ⟨sv, tv, rfl, hs, ht⟩ := hv
  obtain ⟨As, cs, es⟩ := hs.form
  obtain ⟨At, ct, et⟩ := ht.form
  obtain ⟨Ao, co, eo⟩ := ho.form
  subst es et eo
  have hA := (Blk.new w 75 #[.slice As T.shape.length cs, .slice At T.values.length ct]).alloc (.cells #[.slice none 0 0, .slice none 0 0] 75)
  have hR := Blk.new (w.alloc (.cells #[.slice As T.shape.length cs, .slice At T.values.length ct] 75)) 75 #[.slice none 0 0, .slice none 0 0]
  have hW : Below w.heap.size w ((w.alloc (.cells #[.slice As T.shape.length cs, .slice At T.values.length ct] 75)).alloc (.cells #[.slice none 0 0, .slice none 0 0] 75)) := ((Below.refl _ _).alloc (Nat.le_refl _) _).alloc (by simp) _
  have hz : ((w.alloc (.cells #[.slice As T.shape.length cs, .slice At T.values.length ct] 75)).alloc (.cells #[.slice none 0 0, .slice none 0 0] 75)).heap.size = w.heap.size + 2 := by simp
  simp only [World.size_alloc] at hR
  cases hok : isTensorL T
  · have HQ := hid (show turnL T O = ⟨[], []⟩ by simp [turnL, hok])
    go_enter Try.func61, Try.ntmps61
    go_upto_region 1 with fail
    generalize ((w.alloc (.cells #[.slice As T.shape.length cs, .slice At T.values.length ct] 75)).alloc (.cells #[.slice none 0 0, .slice none 0 0] 75)) = w1 at *
    have HZ := hid hz
    clear hz
    obtain ⟨⟨a0, a1⟩, -⟩ := id hA.all2
    go_wp2_with fail
    refine (validTensor_any _ T _ (TensorV.ext hv0 hW)).mono ?_; rintro e w2 ⟨rfl, hb⟩
    rw [hok]
    have hR2 := hR.ext hb hR.lt
    have hW2 := hW.nx hb hW.size
    obtain ⟨⟨r0, r1⟩, s0, s1⟩ := id hR2.all2
    clear hok
    go_wp2
    refine bodyPost_ret (v := .agg #[.slice none 0 0, .slice none 0 0]) (by simp [results, Try.results61, go_sem, r0, r1]) rfl ?_
    rw [HQ.out]
    exact ⟨_, _, rfl, Own.nil _ _, Own.nil _ _, Sep.none_left _, below2 hW2 (by omega) _ _⟩
  have hle4 : T.shape.length ≤ 4 := (shape_ext (isTensorL_and hok).1).1
  cases hor : orderL O T.shape.length
  · have HQ := hid (show turnL T O = ⟨[], []⟩ by simp [turnL, hor])
    go_enter Try.func61, Try.ntmps61
    go_upto_region 1 with fail
    generalize ((w.alloc (.cells #[.slice As T.shape.length cs, .slice At T.values.length ct] 75)).alloc (.cells #[.slice none 0 0, .slice none 0 0] 75)) = w1 at *
    have HZ := hid hz
    clear hz
    obtain ⟨⟨a0, a1⟩, -⟩ := id hA.all2
    go_wp2_with fail
    refine (validTensor_any _ T _ (TensorV.ext hv0 hW)).mono ?_; rintro e w2 ⟨rfl, hb⟩
    rw [hok]
    have hA2 := hA.ext hb hA.lt
    have hR2 := hR.ext hb hR.lt
    have hW2 := hW.nx hb hW.size
    have ho2 := ho.ext hW2
    clear hok a0 a1
    obtain ⟨⟨a0, a1⟩, -⟩ := id hA2.all2
    go_wp2_with fail
    refine (validOrder_any _ O T.shape.length _ ho2 hle4).mono ?_; rintro e w3 ⟨rfl, hb3⟩
    rw [hor]
    have hR3 := hR2.ext hb3 hR2.lt
    have hW3 := hW2.nx hb3 hW2.size
    obtain ⟨⟨r0, r1⟩, s0, s1⟩ := id hR3.all2
    clear hor
    go_wp2
    refine bodyPost_ret (v := .agg #[.slice none 0 0, .slice none 0 0]) (by simp [results, Try.results61, go_sem, r0, r1]) rfl ?_
    rw [HQ.out]
    exact ⟨_, _, rfl, Own.nil _ _, Own.nil _ _, Sep.none_left _, below2 hW3 (by omega) _ _⟩
  have HQ := hid (show turnL T O = ⟨turnS T.shape O, takenL T.values (offs (turnV T.shape O))⟩ by simp [turnL, hok, hor])
  have hT := isTensorL_and hok
  have HSH := hid hT.1
  have HTS := hid (turnS_shape hT.1 hor)
  have HTL := hid (show (turnV T.shape O).shape.length = (turnV T.shape O).strides.length by simp [turnV, permV, pickN])
  have HIN := hid (show ∀ x ∈ offs (turnV T.shape O), 0 ≤ x ∧ x < T.values.length from fun x hx => by
    have := turn_offs_in hT.1 hor x hx
    have := shape_prod hT.1
    have := hT.2.1
    omega)
  have hor2 : O.length = T.shape.length ∧ ∀ x ∈ O, 0 ≤ x ∧ x < T.shape.length := by
    simp only [orderL, Bool.and_eq_true, decide_eq_true_eq, List.all_eq_true, inR_iff] at hor
    exact ⟨hor.1.1, fun x hx => by have := hor.1.2 x hx; omega⟩
  have HALL := hid hor2.2
  have HOL := hid (show O.length ≤ 4 by omega)
  clear hor2
  go_enter Try.func61, Try.ntmps61
  go_upto_region 1 with fail
  generalize ((w.alloc (.cells #[.slice As T.shape.length cs, .slice At T.values.length ct] 75)).alloc (.cells #[.slice none 0 0, .slice none 0 0] 75)) = w1 at *
  have HZ := hid hz
  clear hz
  obtain ⟨⟨a0, a1⟩, -⟩ := id hA.all2
  go_wp2_with fail
  refine (validTensor_any _ T _ (TensorV.ext hv0 hW)).mono ?_; rintro e w2 ⟨rfl, hb⟩
  rw [hok]
  have hA2 := hA.ext hb hA.lt
  have hR2 := hR.ext hb hR.lt
  have hW2 := hW.nx hb hW.size
  have ho2 := ho.ext hW2
  clear hok a0 a1 hA hR hW hb
  obtain ⟨⟨a0, a1⟩, -⟩ := id hA2.all2
  go_wp2_with fail
  refine (validOrder_any _ O T.shape.length _ ho2 hle4).mono ?_; rintro e w3 ⟨rfl, hb3⟩
  rw [hor]
  have HA3 := hid (hA2.ext hb3 hA2.lt)
  have HR3 := hid (hR2.ext hb3 hR2.lt)
  have HW3 := hid (hW2.nx hb3 hW2.size)
  clear hor a0 a1 hA2 hR2 hW2 ho2 hb3
  obtain ⟨⟨a0, a1⟩, -⟩ := HA3.out.all2
  go_upto_region 3 with fail
  clear a0 a1
  have qA := fun x : ExtW w3 => (Blk.ext HA3.out x.h HA3.out.lt).all2.1
  have HSx := hid (fun x : ExtW w3 => (hs.ext HW3.out).ext x.h)
  have HOx := hid (fun x : ExtW w3 => (ho.ext HW3.out).ext x.h)
  refine region_mk 9 (by kernel_rfl) (by kernel_rfl) ?_
  apply Exists.intro
  simp only [List.take_succ_cons, List.take_zero, List.drop_succ_cons, List.drop_zero]
  repeat (first
    | (apply grow_val (by rfl); (focus (intro x; (go_simp; try with_reducible rfl); done)); simp only [Act.put, List.setIfInBounds_toArray, List.set_cons_zero, List.set_cons_succ])
    | (apply grow_skip (by rfl); simp only [Act.put, List.setIfInBounds_toArray, List.set_cons_zero, List.set_cons_succ]))
  apply grow_ints (rowS T.shape) (by rfl)
  · intro x hF K Q hK
    go_simp
    (go_at_call 112; refine (srowStrides_any _ T.shape _ (HSx.out x) HSH.out).mono ?_; rintro e w' ⟨v', rfl, ho, hb⟩; exact hK _ _ hb ho)
  intro A4 c4 F4 O4 hF4 hO4
  simp only [Act.put, List.setIfInBounds_toArray, List.set_cons_zero, List.set_cons_succ]
  repeat (first
    | (apply grow_val (by rfl); (focus (intro x; (go_simp; try with_reducible rfl); done)); simp only [Act.put, List.setIfInBounds_toArray, List.set_cons_zero, List.set_cons_succ])
    | (apply grow_skip (by rfl); simp only [Act.put, List.setIfInBounds_toArray, List.set_cons_zero, List.set_cons_succ]))
  apply grow_buildV ⟨0, T.shape, rowS T.shape⟩ (by rfl)
  · intro x hF
    have h4 := hF4 _ (hF 4 (by kernel_rfl))
    exact ⟨.agg #[.int .i64 0, .slice As T.shape.length cs, .slice A4 (rowS T.shape).length c4], by (go_simp; try with_reducible rfl), ⟨_, _, _, _, rfl⟩, ⟨_, _, rfl, HSx.out x, h4.ints⟩⟩
  intro A5 c5 B5 d5 F5 hF5
  simp only [Act.put, List.setIfInBounds_toArray, List.set_cons_zero, List.set_cons_succ]
  repeat (first
    | (apply grow_val (by rfl); (focus (intro x; (go_simp; try with_reducible rfl); done)); simp only [Act.put, List.setIfInBounds_toArray, List.set_cons_zero, List.set_cons_succ])
    | (apply grow_skip (by rfl); simp only [Act.put, List.setIfInBounds_toArray, List.set_cons_zero, List.set_cons_succ]))
  apply grow_viewF (fun v => v) id_inj (turnV T.shape O) (by rfl)
  · intro x hF K Q hK
    go_simp
    have hvv := hF5 _ (hF 5 (by kernel_rfl));(go_at_call 137; refine (permuted_any _ _ ⟨0, T.shape, rowS T.shape⟩ O _ hvv (HOx.out x) HALL.out (rowS_length T.shape).symm HOL.out).mono ?_); rintro e w' ⟨s', t', rfl, ho, hp, hs, hb⟩; exact hK _ _ _ hb ho hp hs
  intro A7 c7 B7 d7 F7 O7 hF7 hO7
  simp only [Act.put, List.setIfInBounds_toArray, List.set_cons_zero, List.set_cons_succ]
  repeat (first
    | (apply grow_val (by rfl); (focus (intro x; (go_simp; try with_reducible rfl); done)); simp only [Act.put, List.setIfInBounds_toArray, List.set_cons_zero, List.set_cons_succ])
    | (apply grow_skip (by rfl); simp only [Act.put, List.setIfInBounds_toArray, List.set_cons_zero, List.set_cons_succ]))
  apply grow_blk (43) (#[.int .i64 0, .slice none 0 0, .slice none 0 0]) (by rfl)
  · intro x
    go_simp
  intro g8 hg8 F8 O8 hF8 hO8
  simp only [Act.put, List.setIfInBounds_toArray, List.set_cons_zero, List.set_cons_succ]
  repeat (first
    | (apply grow_val (by rfl); (focus (intro x; (go_simp; try with_reducible rfl); done)); simp only [Act.put, List.setIfInBounds_toArray, List.set_cons_zero, List.set_cons_succ])
    | (apply grow_skip (by rfl); simp only [Act.put, List.setIfInBounds_toArray, List.set_cons_zero, List.set_cons_succ]))
  refine grow_nil ?_
  intro x hF hS
  have hm := hF7 _ (hF 7 (by omega))
  have hB := hF8 _ (hF 8 (by omega))
  have hdis : ∀ q, within2 (.slice A7 (turnV T.shape O).shape.length c7) (.slice B7 (turnV T.shape O).strides.length d7) q → q ≠ g8 := fun q h e => hS 7 8 (by omega) (by omega) (by omega) q (hO7 q h) (e ▸ hO8)
  obtain ⟨wx, hbx⟩ := x
  simp only at hm hB
  clear hF hS
  have hn1 : ∀ q, Value.ownBlock (.slice A7 (turnV T.shape O).shape.length c7) = some q → q ≠ g8 := fun q h => hdis q ⟨q, q, .inl h, .inl h, Nat.le_refl _, Nat.le_refl _⟩
  have hn2 : ∀ q, Value.ownBlock (.slice B7 (turnV T.shape O).strides.length d7) = some q → q ≠ g8 := fun q h => hdis q ⟨q, q, .inr h, .inr h, Nat.le_refl _, Nat.le_refl _⟩
  obtain ⟨hNg, hbg⟩ := built_view (turnV T.shape O).base hB hbx hm.1 hm.2.1 hm.2.2 hg8 hn1 hn2
  have HN := hid hNg
  have HBG := hid hbg
  obtain ⟨⟨y0, y1, y2⟩, y3, y4, y5⟩ := hB.all3
  clear qA HSx HOx hF4 hF5 hF7 hF8 hO4 hO7 hO8 hNg hbg hdis hn1 hn2 hm
  go_upto_region 4 with fail
  clear y0 y1 y2 y3 y4 y5 hB hbx
  generalize ((wx.setCell ⟨g8, 0, none⟩ (.int .i64 (turnV T.shape O).base)).setCell ⟨g8, 1, none⟩ (.slice A7 (turnV T.shape O).shape.length c7)).setCell ⟨g8, 2, none⟩ (.slice B7 (turnV T.shape O).strides.length d7) = w4 at *
  have HA4 := hid (HA3.out.ext HBG.out HA3.out.lt)
  have HR4 := hid (HR3.out.ext HBG.out HR3.out.lt)
  have HW4 := hid (HW3.out.nx HBG.out HW3.out.size)
  have HNB := hid HN.out.box
  have HVV := hid (HN.out.s.view HN.out.t)
  have HVS := hid HN.out.s.ints
  clear HN HA3 HR3 HW3 HBG
  have qA := fun x : ExtW w4 => (Blk.ext HA4.out x.h HA4.out.lt).all2.1
  have qN := fun x : ExtW w4 => (Blk.ext HNB.out x.h HNB.out.lt).all3.1
  have HC := hid (fun x : ExtW w4 => copyInts_any _ (turnV T.shape O).shape x.v (HVS.out.ext x.h) (show (turnV T.shape O).shape.length ≤ 100000000 by have := (shape_ext HTS.out).1; show (turnS T.shape O).length ≤ 100000000; omega))
  have HL := hid (fun x : ExtW w4 => loadG_any _ _ T.values (turnV T.shape O) x.v ((ht.ext HW4.out).ext x.h) (HVV.out.ext x.h) HTS.out HTL.out HIN.out)
  refine region_mk 8 (by kernel_rfl) (by kernel_rfl) ?_
  apply Exists.intro
  simp only [List.take_succ_cons, List.take_zero, List.drop_succ_cons, List.drop_zero]
  repeat (first
    | (apply grow_val (by rfl); (focus (intro x; (go_simp; try with_reducible rfl); done)); simp only [Act.put, List.setIfInBounds_toArray, List.set_cons_zero, List.set_cons_succ])
    | (apply grow_skip (by rfl); simp only [Act.put, List.setIfInBounds_toArray, List.set_cons_zero, List.set_cons_succ]))
  apply grow_ints ((turnV T.shape O).shape) (by rfl)
  · intro x hF K Q hK
    go_simp
    (go_at_call 111; refine (HC.out x).mono ?_; rintro e w' ⟨v', rfl, ho, hb⟩; exact hK _ _ hb ho)
  intro A2 c2 F2 O2 hF2 hO2
  simp only [Act.put, List.setIfInBounds_toArray, List.set_cons_zero, List.set_cons_succ]
  repeat (first
    | (apply grow_val (by rfl); (focus (intro x; (go_simp; try with_reducible rfl); done)); simp only [Act.put, List.setIfInBounds_toArray, List.set_cons_zero, List.set_cons_succ])
    | (apply grow_skip (by rfl); simp only [Act.put, List.setIfInBounds_toArray, List.set_cons_zero, List.set_cons_succ]))
  apply grow_ints (takenL T.values (offs (turnV T.shape O))) (by rfl)
  · intro x hF K Q hK
    go_simp
    (go_at_call 138; refine (HL.out x).mono ?_; rintro e w' ⟨v', rfl, ho, hb⟩; exact hK _ _ hb ho)
  intro A6 c6 F6 O6 hF6 hO6
  simp only [Act.put, List.setIfInBounds_toArray, List.set_cons_zero, List.set_cons_succ]
  repeat (first
    | (apply grow_val (by rfl); (focus (intro x; (go_simp; try with_reducible rfl); done)); simp only [Act.put, List.setIfInBounds_toArray, List.set_cons_zero, List.set_cons_succ])
    | (apply grow_skip (by rfl); simp only [Act.put, List.setIfInBounds_toArray, List.set_cons_zero, List.set_cons_succ]))
  apply grow_fn (fun d => .agg #[d.getD 0 undef, d.getD 1 undef]) ([.slice A2 (turnV T.shape O).shape.length c2, .slice A6 (takenL T.values (offs (turnV T.shape O))).length c6]) (by kernel_rfl) (by rfl)
  · intro x hF
    refine ⟨_, by (go_simp; try with_reducible rfl), rfl⟩
  intro v7 F7 hF7
  simp only [Act.put, List.setIfInBounds_toArray, List.set_cons_zero, List.set_cons_succ]
  repeat (first
    | (apply grow_val (by rfl); (focus (intro x; (go_simp; try with_reducible rfl); done)); simp only [Act.put, List.setIfInBounds_toArray, List.set_cons_zero, List.set_cons_succ])
    | (apply grow_skip (by rfl); simp only [Act.put, List.setIfInBounds_toArray, List.set_cons_zero, List.set_cons_succ]))
  refine grow_nil ?_
  intro x hF hS
  have e7 : v7 = .agg #[.slice A2 (turnV T.shape O).shape.length c2, .slice A6 (takenL T.values (offs (turnV T.shape O))).length c6] := hF7 _ (hF 7 (by omega))
  subst e7
  have h2 := hF2 _ (hF 2 (by omega))
  have h6 := hF6 _ (hF 6 (by omega))
  have hsp : Sep (.slice A2 (turnV T.shape O).shape.length c2) (.slice A6 (takenL T.values (offs (turnV T.shape O))).length c6) := fun q e1 e2 => hS 2 6 (by omega) (by omega) (by omega) q (hO2 q e1) (hO6 q e2)
  obtain ⟨w5, hb5⟩ := x
  simp only at h2 h6
  have hR5 := HR4.out.ext hb5 HR4.out.lt
  have hW5 := HW4.out.nx hb5 HW4.out.size
  have hz4 : w.heap.size + 2 ≤ w4.heap.size := by have := HR4.out.lt; omega
  have HO := hid (And.intro (h2.mono hz4) (And.intro (h6.mono hz4) (And.intro hsp hW5)))
  clear hF hS hF2 hF6 hF7 hO2 hO6 h2 h6 hsp hW5 qA qN HC HL
  obtain ⟨⟨r0, r1⟩, s0, s1⟩ := id hR5.all2
  go_wp2
  refine bodyPost_ret (v := .agg #[.slice A2 (turnV T.shape O).shape.length c2, .slice A6 (takenL T.values (offs (turnV T.shape O))).length c6]) (by simp [results, Try.results61, go_sem, r0, r1]) rfl ?_
  rw [HQ.out]
  refine ⟨_, _, rfl, ?_, ?_, HO.out.2.2.1, below2 HO.out.2.2.2 (by omega) _ _⟩
  · exact Own.mono (Own.far (Own.far HO.out.1 (by simp) _) (by simp) _) (by omega)
  · exact Own.mono (Own.far (Own.far HO.out.2.1 (by simp) _) (by simp) _) (by omega)

end Go.Proofs.Ytldblcolnjkcaaa

/-! ## TT2 -/
namespace Go.Proofs.Ytldblcolnjkcaaa
open Go.RowKit

theorem pick_snoc {s O : List Int} {P : List Nat} {k j : Nat} (hP : P = O.map Int.toNat) (hk : k < O.length) (hj : O[k] = (j : Int)) (hs : j < s.length) : pickN s (P.take (k + 1)) = pickN s (P.take k) ++ [s[j]] := by
  subst hP
  rw [take_snocI _ k (by simpa using hk), pickN, List.map_append]
  simp [pickN, hj, hs]

set_option maxRecDepth 100000 in
set_option maxHeartbeats 6400000 in
theorem TurnTensor_any (v vo : Value) (T : TL) (O : List Int) (w : World) (hv : TensorV w v T) (ho : Ints w vo O) :
    Calls Try.prog 64 #[v, vo] w (RetTensor w (turnL T O)) := by
  have hv0 := hv
  obtain ⟨sv, tv, rfl, hs, ht⟩ := hv
  obtain ⟨As, cs, es⟩ := hs.form
  obtain ⟨At, ct, et⟩ := ht.form
  obtain ⟨Ao, co, eo, hco, hcm, -⟩ := id ho
  unfold maxLen at hcm
  subst es et eo
  have H1 := ((Hp.start w).alloc 75 #[.slice As T.shape.length cs, .slice At T.values.length ct]).alloc 75 #[.slice none 0 0, .slice none 0 0]
  simp only [World.size_alloc, List.nil_append, List.cons_append] at H1
  cases hok : isTensorL T
  · have HQ := hid (show turnL T O = ⟨[], []⟩ by simp [turnL, hok])
    go_enter Try.func64, Try.ntmps64
    go_upto_region 1 with fail
    generalize ((w.alloc (.cells #[.slice As T.shape.length cs, .slice At T.values.length ct] 75)).alloc (.cells #[.slice none 0 0, .slice none 0 0] 75)) = w1 at *
    obtain ⟨⟨a0, a1⟩, -⟩ := (H1.blk 0 rfl).all2
    go_wp2_with fail
    refine (isTensor_any _ T _ (TensorV.ext hv0 H1.below)).mono ?_; rintro e w2 ⟨rfl, hb⟩
    rw [hok]
    have H2 := hid (H1.nx hb)
    clear a0 a1 hb H1
    obtain ⟨⟨a0, a1⟩, -⟩ := (H2.out.blk 0 rfl).all2
    obtain ⟨⟨r0, r1⟩, s0, s1⟩ := (H2.out.blk 1 rfl).all2
    clear hok
    have HF := hid (H2.out.store2 1 rfl (.slice none 0 0) (.slice none 0 0))
    go_wp2
    refine bodyPost_ret (v := .agg #[.slice none 0 0, .slice none 0 0]) (by simp [results, Try.results64, go_sem, r0, r1]) rfl ?_
    rw [HQ.out]
    exact ⟨_, _, rfl, Own.nil _ _, Own.nil _ _, Sep.none_left _, HF.out.below⟩
  have HT := hid (isTensorL_and hok)
  have hle4 : T.shape.length ≤ 4 := (shape_ext HT.out.1).1
  by_cases hl : O.length = T.shape.length
  case neg =>
    have HQ := hid (show turnL T O = ⟨[], []⟩ by
      have : orderL O T.shape.length = false := by simp [orderL, hl]
      simp [turnL, this])
    have hne : ((O.length : Int) != (T.shape.length : Int)) = true := by simp; omega
    clear hl
    go_enter Try.func64, Try.ntmps64
    go_upto_region 1 with fail
    generalize ((w.alloc (.cells #[.slice As T.shape.length cs, .slice At T.values.length ct] 75)).alloc (.cells #[.slice none 0 0, .slice none 0 0] 75)) = w1 at *
    obtain ⟨⟨a0, a1⟩, -⟩ := (H1.blk 0 rfl).all2
    go_wp2_with fail
    refine (isTensor_any _ T _ (TensorV.ext hv0 H1.below)).mono ?_; rintro e w2 ⟨rfl, hb⟩
    rw [hok]
    have H2 := hid (H1.nx hb)
    clear a0 a1 hb H1
    obtain ⟨⟨a0, a1⟩, -⟩ := (H2.out.blk 0 rfl).all2
    obtain ⟨⟨r0, r1⟩, s0, s1⟩ := (H2.out.blk 1 rfl).all2
    clear hok
    have HF := hid (H2.out.store2 1 rfl (.slice none 0 0) (.slice none 0 0))
    go_wp2
    refine bodyPost_ret (v := .agg #[.slice none 0 0, .slice none 0 0]) (by simp [results, Try.results64, go_sem, r0, r1]) rfl ?_
    rw [HQ.out]
    exact ⟨_, _, rfl, Own.nil _ _, Own.nil _ _, Sep.none_left _, HF.out.below⟩
  have hne : ((O.length : Int) != (T.shape.length : Int)) = false := by simp [hl]
  have HLE := hid hl
  have HORD := hid (fun b (h : orderL O T.shape.length = b) => show turnL T O = (if b then ⟨turnS T.shape O, takenL T.values (offs (turnV T.shape O))⟩ else ⟨[], []⟩) by subst h; simp [turnL, hok])
  have hO4 : O.length ≤ 4 := by omega
  obtain ⟨P, hP⟩ : ∃ P, P = O.map Int.toNat := ⟨_, rfl⟩
  have HP := hid hP
  have HPL := hid (show P.length = O.length by rw [hP]; simp)
  clear hP
  clear hl
  go_enter Try.func64, Try.ntmps64
  go_upto_region 1 with fail
  generalize ((w.alloc (.cells #[.slice As T.shape.length cs, .slice At T.values.length ct] 75)).alloc (.cells #[.slice none 0 0, .slice none 0 0] 75)) = w1 at *
  obtain ⟨⟨a0, a1⟩, -⟩ := (H1.blk 0 rfl).all2
  go_wp2_with fail
  refine (isTensor_any _ T _ (TensorV.ext hv0 H1.below)).mono ?_; rintro e w2 ⟨rfl, hb⟩
  rw [hok]
  have H2 := hid (H1.nx hb)
  clear a0 a1 hb H1
  obtain ⟨⟨a0, a1⟩, -⟩ := (H2.out.blk 0 rfl).all2
  obtain ⟨⟨r0, r1⟩, s0, s1⟩ := (H2.out.blk 1 rfl).all2
  clear hok
  go_upto_region 3 with fail
  have H3 := hid (((H2.out.alloc 75 #[.slice none 0 0, .slice none 0 0]).row (Own.nil _ _) (Below.refl _ _)).row (Own.nil _ _) (Below.refl _ _))
  go_upto_region 5 with fail
  simp only [List.cons_append, List.nil_append] at H3
  clear a0 a1 r0 r1 s0 s1 H2
  generalize w2.alloc (.cells #[.slice none 0 0, .slice none 0 0] 75) = w3 at *
  generalize w2.heap.size = g5 at *
  go_loopg [28] O.length (fun m i wr => ∃ (k : Nat) (s : Value), k ≤ O.length ∧ m = O.length - k ∧ i = .int .i64 k ∧ Hid (okTo O T.shape.length k = true) ∧
    Hp w.heap.size w wr [.blk w.heap.size 75 #[.slice As T.shape.length cs, .slice At T.values.length ct], .blk (w.heap.size + 1) 75 #[.slice none 0 0, .slice none 0 0], .blk g5 75 #[s, .slice none 0 0], .ints s (pickN T.shape (P.take k)), .ints (.slice none 0 0) []])
  case atStart => exact ⟨0, _, Nat.zero_le _, rfl, rfl, hid rfl, H3.out⟩
  case round =>
    obtain ⟨k, s, hk, rfl, rfl, HK, H⟩ := hrel
    clear H3
    have HH := hid H
    obtain ⟨sA, sc, es⟩ := (H.ints 3 rfl).form
    subst es
    obtain ⟨⟨a0, a1⟩, -⟩ := (H.blk 0 rfl).all2
    obtain ⟨⟨r0, r1⟩, s0, s1⟩ := (H.blk 1 rfl).all2
    obtain ⟨⟨z0, z1⟩, y0, y1⟩ := (H.blk 2 rfl).all2
    clear H
    by_cases hlt : k < O.length
    · have hki : (k : Int) < (O.length : Int) := by omega
      have hin := ho.ext HH.out.below
      obtain ⟨bo, oo, rfl, xo⟩ := hin.elem k hlt
      have HTK := hid (hin.take k hk)
      have hkc : k ≤ co := by omega
      clear hin
      by_cases h1 : O[k] < 0
      · have HQ := hid (show turnL T O = ⟨[], []⟩ from HORD.out false (order_bad hlt (.inl h1)))
        have HF := hid (HH.out.store2 1 rfl (.slice none 0 0) (.slice none 0 0))
        go_wp2
        refine bodyPost_ret (v := .agg #[.slice none 0 0, .slice none 0 0]) (by simp [results, Try.results64, go_sem, r0, r1]) rfl ?_
        rw [HQ.out]
        exact ⟨_, _, rfl, Own.nil _ _, Own.nil _ _, Sep.none_left _, HF.out.below⟩
      have h1' : 0 ≤ O[k] := by omega
      by_cases h2 : (T.shape.length : Int) ≤ O[k]
      · have HQ := hid (show turnL T O = ⟨[], []⟩ from HORD.out false (order_bad hlt (.inr h2)))
        have h2' : (O.length : Int) ≤ O[k] := by have := HLE.out; omega
        have HF := hid (HH.out.store2 1 rfl (.slice none 0 0) (.slice none 0 0))
        go_wp2
        refine bodyPost_ret (v := .agg #[.slice none 0 0, .slice none 0 0]) (by simp [results, Try.results64, go_sem, r0, r1]) rfl ?_
        rw [HQ.out]
        exact ⟨_, _, rfl, Own.nil _ _, Own.nil _ _, Sep.none_left _, HF.out.below⟩
      have h2' : O[k] < (O.length : Int) := by have := HLE.out; omega
      have h2s : O[k] < (T.shape.length : Int) := by omega
      clear h1 h2
      cases h3 : (O.take k).contains O[k]
      case true =>
        have HQ := hid (show turnL T O = ⟨[], []⟩ from HORD.out false (order_twice (n := T.shape.length) hlt h3))
        have HC := hid h3
        clear h3
        go_wp2_with fail
        refine (Contains_any _ (O.take k) _ _ HTK.out).mono ?_; rintro e w' ⟨rfl, rfl⟩
        rw [HC.out]
        have HF := hid (HH.out.store2 1 rfl (.slice none 0 0) (.slice none 0 0))
        go_wp2
        refine bodyPost_ret (v := .agg #[.slice none 0 0, .slice none 0 0]) (by simp [results, Try.results64, go_sem, r0, r1]) rfl ?_
        rw [HQ.out]
        exact ⟨_, _, rfl, Own.nil _ _, Own.nil _ _, Sep.none_left _, HF.out.below⟩
      have HN := hid (okTo_snoc hlt HK.out (by omega) (by omega) h3)
      have HC := hid h3
      obtain ⟨j, hj⟩ : ∃ j : Nat, O[k] = (j : Int) := ⟨(O[k]).toNat, by omega⟩
      have hjs : j < T.shape.length := by omega
      have HPK := hid (pick_snoc HP.out hlt hj hjs)
      have HLN := hid (show (pickN T.shape (P.take k)).length + [T.shape[j]].length ≤ 1000000000000 by have := HPL.out; simp [pickN]; omega)
      have hlp : (pickN T.shape (P.take k)).length = k := by have := HPL.out; simp [pickN]; omega
      obtain ⟨bs, os, rfl, xs⟩ := (hs.ext HH.out.below).elem j hjs
      have hjsi : (j : Int) < (T.shape.length : Int) := by omega
      obtain ⟨X, eX⟩ : ∃ X, T.shape[j] = X := ⟨_, rfl⟩
      rw [eX] at xs HPK HLN
      rw [hj] at xo h1' h2' HC
      clear h3 hj eX hlp h2s
      go_wp2_with fail
      refine (Contains_any _ (O.take k) _ _ HTK.out).mono ?_; rintro e w' ⟨rfl, rfl⟩
      rw [HC.out]
      go_upto_region 9 with fail
      have q0 := fun x : ExtW wr => (Blk.ext (HH.out.blk 0 rfl) x.h (HH.out.blk 0 rfl).lt).all2.1
      have q2 := fun x : ExtW wr => (Blk.ext (HH.out.blk 2 rfl) x.h (HH.out.blk 2 rfl).lt).all2.1
      have qs := fun x : ExtW wr => (x.h.cell (p := ⟨bs, os + j, none⟩) (World.block_lt_of_cell? _ _ xs)).trans xs
      clear a0 a1 r0 r1 s0 s1 z0 z1 y0 y1 xo
      refine region_mk 8 (by kernel_rfl) (by kernel_rfl) ?_
      apply Exists.intro
      simp only [List.take_succ_cons, List.take_zero, List.drop_succ_cons, List.drop_zero]
      repeat (first
        | (apply grow_val (by rfl); (focus (intro x; (go_simp; try with_reducible rfl); done)); simp only [Act.put, List.setIfInBounds_toArray, List.set_cons_zero, List.set_cons_succ])
        | (apply grow_skip (by rfl); simp only [Act.put, List.setIfInBounds_toArray, List.set_cons_zero, List.set_cons_succ]))
      apply grow_lit1 (.tmp 55) X rfl (by rfl) (by rfl)
      intro g7 c7 hg7 F7 O7 hF7 hO7
      simp only [Act.put, List.setIfInBounds_toArray, List.set_cons_zero, List.set_cons_succ]
      refine grow_nil ?_
      rintro ⟨w5, hb5⟩ hF hS
      have h7 := hF7 _ (hF 7 (by omega))
      have hb5 : Below wr.heap.size wr w5 := hb5
      have H5 := hid (HH.out.nx hb5)
      have HX5 := hid (H5.out.ints 3 rfl)
      have H7i := hid h7.ints
      clear hF hS hF7 hO7 q0 q2 qs xs h7 HTK HC
      go_wp2_with (at_builtin; refine appI _ rfl _ _ rfl w.heap.size _ (pickN T.shape (P.take k)) rfl HX5.out _ _ _ [X] rfl H7i.out HLN.out H5.out.size ?_)
      intro v1 w6 ho1 hg1 hat1
      rw [← HPK.out] at ho1
      have H6 := H5.out.grown 3 rfl ho1 hg1 hat1
      simp only [List.set_cons_succ, List.set_cons_zero] at H6
      obtain ⟨vA, vc, ev⟩ := ho1.form
      subst ev
      obtain ⟨⟨z0, z1⟩, y0, y1⟩ := (H6.blk 2 rfl).all2
      have H7 := H6.store 2 rfl 0 (.slice vA (pickN T.shape (P.take (k + 1))).length vc)
      simp only [List.set_cons_succ, List.set_cons_zero, List.setIfInBounds_toArray] at H7
      have HFIN := hid H7
      clear H6 H7 hg1 hat1 ho1 hb5 H5 HX5 H7i
      go_wp2
      go_roundg (O.length - (k + 1))
      case measure => omega
      case rel => exact ⟨k + 1, _, by omega, rfl, by go_num, HN, HFIN.out⟩
    · obtain rfl : O.length = k := by omega
      have hor := order_good HLE.out HK.out
      have HQ := hid (show turnL T O = ⟨turnS T.shape O, takenL T.values (offs (turnV T.shape O))⟩ from HORD.out true hor)
      have HOR := hid hor
      have HPT := hid (show P.take O.length = P by rw [← HPL.out, List.take_length])
      rw [HPT.out] at HH
      have HTU := hid (show pickN T.shape P = turnS T.shape O by rw [HP.out]; rfl)
      rw [HTU.out] at HH
      have HSH := hid (turnS_shape HT.out.1 hor)
      have HPR := hid (turnS_prod (s := T.shape) hor)
      have hl4 : (turnS T.shape O).length ≤ 4 := by rw [turnS_len hor]; exact hle4
      have HUN := hid (fun k : Int => show (unr (turnS T.shape O) k).length = O.length by rw [unr_length, turnS_len hor, HLE.out])
      have HOFL := hid (turn_offs_len HT.out.1 hor)
      have HSP := hid (shape_prod HT.out.1)
      have HPRM := hid (order_perm hor)
      obtain ⟨m, hm⟩ : ∃ m : Nat, prodW (turnS T.shape O) = (m : Int) := ⟨(prodW (turnS T.shape O)).toNat, by have := shape_prod HSH.out; omega⟩
      have HM := hid hm
      have hm60 : m ≤ 60 := by have := shape_prod HSH.out; omega
      have HMP := hid (show prodI T.shape = (m : Int) by have := shape_prod HSH.out; have := HPR.out; omega)
      have HPOS := hid (fun (hm0 : 0 < m) => show ∀ x ∈ turnS T.shape O, 1 ≤ x ∧ x ≤ 60 from fun x hx => by
        obtain ⟨s1, s2, -⟩ := shape_ext HSH.out
        have := prodI_pos (fun x hx => (s2 x hx).1) (show 0 < prodI (turnS T.shape O) by have := HPR.out; have := HMP.out; omega) x hx
        exact ⟨this, (s2 x hx).2⟩)
      have HVL := hid (show T.values.length = m by have := HT.out.2.1; have := HSP.out; have := HMP.out; omega)
      clear a0 a1 r0 r1 s0 s1 z0 z1 y0 y1 hm
      obtain ⟨⟨z0, z1⟩, y0, y1⟩ := (HH.out.blk 2 rfl).all2
      go_wp2_with fail
      refine (countOf_any _ (turnS T.shape O) _ (HH.out.ints 3 rfl).ints).mono ?_; rintro e w' ⟨rfl, rfl⟩
      rw [HM.out]
      clear z0 z1 y0 y1
      obtain ⟨wz, rfl⟩ : ∃ wz : World, wz = wr := ⟨_, rfl⟩
      go_upto_region 12 with fail
      go_loopg [63] m (fun q i wr => ∃ (k : Nat) (t : Value), k ≤ m ∧ q = m - k ∧ i = .int .i64 k ∧ Hp w.heap.size w wr [.blk w.heap.size 75 #[.slice As T.shape.length cs, .slice At T.values.length ct], .blk (w.heap.size + 1) 75 #[.slice none 0 0, .slice none 0 0], .blk g5 75 #[.slice sA (turnS T.shape O).length sc, t], .ints (.slice sA (turnS T.shape O).length sc) (turnS T.shape O), .ints (t) (takenL T.values ((offs (turnV T.shape O)).take k))])
      case atStart => exact ⟨0, _, Nat.zero_le _, rfl, rfl, HH.out⟩
      case round =>
        obtain ⟨k, t, hk, rfl, rfl, H⟩ := hrel
        clear HH
        have HH := hid H
        obtain ⟨tA, tc, et⟩ := (H.ints 4 rfl).form
        subst et
        obtain ⟨⟨z0, z1⟩, y0, y1⟩ := (H.blk 2 rfl).all2
        clear H
        by_cases hlt : k < m
        · have hki : (k : Int) < (m : Int) := by omega
          have hTA := turn_at HT.out.1 HOR.out (k := k) (by omega) (by rw [HMP.out]; omega)
          have hRK := turn_rank HT.out.1 HOR.out (k := k) (by omega) (by rw [HMP.out]; omega)
          have hko : k < (offs (turnV T.shape O)).length := by rw [HOFL.out, HMP.out]; omega
          have hOG := turn_offs_get HT.out.1 HOR.out k hko
          obtain ⟨q, hq⟩ : ∃ q : Nat, turnK T.shape O k = (q : Int) := ⟨(turnK T.shape O k).toNat, by have := hTA.2.2.1; omega⟩
          have hqv : q < T.values.length := by have := hTA.2.2.2; have := HMP.out; have := HVL.out; omega
          have hqi : (q : Int) < (T.values.length : Int) := by omega
          rw [hq] at hRK hOG
          rw [← HP.out, ← HLE.out] at hRK
          have HRK := hid hRK
          have HTK := hid (show takenL T.values ((offs (turnV T.shape O)).take (k + 1)) = takenL T.values ((offs (turnV T.shape O)).take k) ++ [T.values[q]] by rw [takenL_snoc T.values _ k hko, hOG]; simp [hqv])
          have HLN := hid (show (takenL T.values ((offs (turnV T.shape O)).take k)).length + [T.values[q]].length ≤ 1000000000000 by simp [takenL]; omega)
          obtain ⟨Z, eZ⟩ : ∃ Z, T.values[q] = Z := ⟨_, rfl⟩
          rw [eZ] at HTK HLN
          have HZQ := hid eZ
          clear hTA hRK hko hOG hq eZ
          go_wp2_with fail
          refine (indexAt_any _ (turnS T.shape O) k _ (HH.out.ints 3 rfl).ints (HPOS.out (by omega)) hl4 (by omega) (by omega)).mono ?_; rintro e w5 ⟨r9, rfl, ho9, hb5⟩
          have HH5 := hid (HH.out.row ho9 hb5)
          obtain ⟨A9, c9, e9⟩ := ho9.form
          rw [HUN.out] at e9
          subst e9
          clear z0 z1 y0 y1 hb5 ho9 HH
          go_wp2_with (at_make; refine mk0 _ rfl _ _ rfl O.length rfl rfl (by omega) ?_)
          intro w6 ho10 hb6
          have HH6 := hid (HH5.out.row ho10 hb6)
          clear ho10 hb6 HH5
          generalize w5.heap.size = g10 at *
          simp only [List.cons_append, List.nil_append] at HH6
          obtain ⟨wy, rfl⟩ : ∃ wy : World, wy = w6 := ⟨_, rfl⟩
          go_upto_region 17 with fail
          go_loopg [75] O.length (fun q' i wr => ∃ j : Nat, j ≤ O.length ∧ q' = O.length - j ∧ i = .int .i64 j ∧ Hp w.heap.size w wr [.blk w.heap.size 75 #[.slice As T.shape.length cs, .slice At T.values.length ct], .blk (w.heap.size + 1) 75 #[.slice none 0 0, .slice none 0 0], .blk g5 75 #[.slice sA (turnS T.shape O).length sc, .slice tA (takenL T.values ((offs (turnV T.shape O)).take k)).length tc], .ints (.slice sA (turnS T.shape O).length sc) (turnS T.shape O), .ints (.slice tA (takenL T.values ((offs (turnV T.shape O)).take k)).length tc) (takenL T.values ((offs (turnV T.shape O)).take k)), .ints (.slice A9 O.length c9) (unr (turnS T.shape O) k), .ints (.slice (some ⟨g10, 0, none⟩) O.length O.length) (unPk P (unr (turnS T.shape O) k) O.length j)])
          case atStart => exact ⟨0, Nat.zero_le _, rfl, rfl, by rw [unPk_zero]; exact HH6.out⟩
          case round =>
            obtain ⟨j, hj, rfl, rfl, H⟩ := hrel
            clear HH6
            have HJ := hid H
            clear H
            by_cases hltj : j < O.length
            · have hji : (j : Int) < (O.length : Int) := by omega
              obtain ⟨bo, oo, rfl, xo⟩ := (ho.ext HJ.out.below).elem j hltj
              have hjP : j < P.length := by rw [HPL.out]; exact hltj
              have hjU : j < (unr (turnS T.shape O) k).length := by rw [HUN.out]; exact hltj
              obtain ⟨b9, o9, rfl, x9⟩ := (HJ.out.ints 5 rfl).ints.elem j hjU
              obtain ⟨p, hp⟩ : ∃ p, P[j] = p := ⟨_, rfl⟩
              have hpm : p < T.shape.length := by
                have : P[j] ∈ List.range T.shape.length := by have := HPRM.out; rw [← HP.out] at this; exact this.mem_iff.1 (List.getElem_mem hjP)
                rw [hp] at this
                exact List.mem_range.1 this
              have hOj : O[j] = (p : Int) := by
                have h2 : 0 ≤ O[j] := by
                  have := HOR.out
                  simp only [orderL, Bool.and_eq_true, decide_eq_true_eq, List.all_eq_true, inR_iff] at this
                  exact (this.1.2 _ (List.getElem_mem hltj)).1
                have h3 : P[j] = (O[j]).toNat := by simp [HP.out]
                omega
              have hpO : p < O.length := by rw [HLE.out]; exact hpm
              have hpi : (p : Int) < (O.length : Int) := by omega
              rw [hOj] at xo
              have x10 := (HJ.out.ints 6 rfl).cell p (by rw [unPk_len]; exact hpO)
              have f10 := (HJ.out.ints 6 rfl).free p
              have hnd : P.Nodup := by rw [HP.out]; exact HPRM.out.nodup_iff.2 List.nodup_range
              have hput := unPk_put (n := O.length) hnd hjP hjU
              rw [hp] at hput
              have H7 := HJ.out.put 6 rfl p (unr (turnS T.shape O) k)[j]
              simp only [List.set_cons_succ, List.set_cons_zero] at H7
              rw [hput] at H7
              obtain ⟨Y, eY⟩ : ∃ Y, (unr (turnS T.shape O) k)[j] = Y := ⟨_, rfl⟩
              rw [eY] at x9 H7
              have HFIN := hid H7
              clear H7 hput hnd hOj hp hjP hjU eY hpm HJ
              go_wp2
              go_roundg (O.length - (j + 1))
              case measure => omega
              case rel => exact ⟨j + 1, by omega, rfl, by go_num, HFIN.out⟩
            · obtain rfl : O.length = j := by omega
              have HOLD := hid (show unPk P (unr (turnS T.shape O) k) O.length O.length = unP P (unr (turnS T.shape O) k) O.length from unPk_all (by rw [HP.out, HLE.out]; exact HPRM.out))
              rw [HOLD.out] at HJ
              obtain ⟨bv, ov, rfl, xv⟩ := (ht.ext HJ.out.below).elem q hqv
              rw [HZQ.out] at xv
              go_upto_region 21 with fail
              have q0 := fun x : ExtW wr => (Blk.ext (HJ.out.blk 0 rfl) x.h (HJ.out.blk 0 rfl).lt).all2.1
              have q2 := fun x : ExtW wr => (Blk.ext (HJ.out.blk 2 rfl) x.h (HJ.out.blk 2 rfl).lt).all2.1
              have qv := fun x : ExtW wr => (x.h.cell (p := ⟨bv, ov + q, none⟩) (World.block_lt_of_cell? _ _ xv)).trans xv
              have HRX : ∀ x : ExtW wr, Calls Try.prog 16 #[.slice As T.shape.length cs, .slice (some ⟨g10, 0, none⟩) O.length O.length] x.v fun e w' => e = .returned (.int .i64 (q : Int)) ∧ Below x.v.heap.size x.v w' := fun x => (RankOf_any _ _ T.shape (unP P (unr (turnS T.shape O) k) O.length) x.v ((hs.ext HJ.out.below).ext x.h) ((HJ.out.ints 6 rfl).ext x.h).ints).mono fun _ _ h => ⟨by rw [h.1, HRK.out], h.2 ▸ Below.refl _ _⟩
              have HRX := hid HRX
              refine region_mk 11 (by kernel_rfl) (by kernel_rfl) ?_
              apply Exists.intro
              simp only [List.take_succ_cons, List.take_zero, List.drop_succ_cons, List.drop_zero]
              repeat (first
                | (apply grow_val (by rfl); (focus (intro x; (go_simp; try with_reducible rfl); done)); simp only [Act.put, List.setIfInBounds_toArray, List.set_cons_zero, List.set_cons_succ])
                | (apply grow_skip (by rfl); simp only [Act.put, List.setIfInBounds_toArray, List.set_cons_zero, List.set_cons_succ])
                | (apply grow_call (by rfl); (focus (intro x K Q hK; go_simp; (first | (go_at_call 16; (with_reducible refine (HRX.out x).mono ?_); rintro e w' ⟨rfl, hb⟩; exact hK _ hb)); done)); simp only [Act.put, List.setIfInBounds_toArray, List.set_cons_zero, List.set_cons_succ]))
              apply grow_lit1 (.tmp 97) Z rfl (by rfl) (by rfl)
              intro g7 c7 hg7 F7 O7 hF7 hO7
              simp only [Act.put, List.setIfInBounds_toArray, List.set_cons_zero, List.set_cons_succ]
              refine grow_nil ?_
              rintro ⟨w7, hb7⟩ hF hS
              have h7 := hF7 _ (hF 10 (by omega))
              have hb7 : Below wr.heap.size wr w7 := hb7
              have H5 := hid (HJ.out.nx hb7)
              have HX5 := hid (H5.out.ints 4 rfl)
              have H7i := hid h7.ints
              clear hF hS hF7 hO7 q0 q2 qv xv h7 HRX HJ
              go_wp2_with (at_builtin; refine appI _ rfl _ _ rfl w.heap.size _ (takenL T.values ((offs (turnV T.shape O)).take k)) rfl HX5.out _ _ _ [Z] rfl H7i.out HLN.out H5.out.size ?_)
              intro v1 w8 ho1 hg1 hat1
              rw [← HTK.out] at ho1
              have H6 := H5.out.grown 4 rfl ho1 hg1 hat1
              simp only [List.set_cons_succ, List.set_cons_zero] at H6
              obtain ⟨vA, vc, ev⟩ := ho1.form
              subst ev
              obtain ⟨⟨z0, z1⟩, y0, y1⟩ := (H6.blk 2 rfl).all2
              have H7 := H6.store 2 rfl 1 (.slice vA (takenL T.values ((offs (turnV T.shape O)).take (k + 1))).length vc)
              simp only [List.set_cons_succ, List.set_cons_zero, List.setIfInBounds_toArray] at H7
              have HFIN := hid (H7.pick [0, 1, 2, 3, 4] (by decide))
              clear H6 H7 hg1 hat1 ho1 hb7 H5 HX5 H7i
              go_wp2
              go_roundg (m - (k + 1))
              case measure => omega
              case rel => exact ⟨k + 1, _, by omega, rfl, by go_num, HFIN.out⟩
        · obtain rfl : m = k := by omega
          have HTE := hid (show (offs (turnV T.shape O)).take m = offs (turnV T.shape O) from List.take_of_length_le (by rw [HOFL.out, HMP.out]; omega))
          clear z0 z1 y0 y1
          rw [HTE.out] at HH
          obtain ⟨⟨z0, z1⟩, y0, y1⟩ := (HH.out.blk 2 rfl).all2
          obtain ⟨⟨r0, r1⟩, s0, s1⟩ := (HH.out.blk 1 rfl).all2
          have HF := hid (HH.out.store2 1 rfl (.slice sA (turnS T.shape O).length sc) (.slice tA (takenL T.values (offs (turnV T.shape O))).length tc))
          go_wp2
          refine bodyPost_ret (v := .agg #[.slice sA (turnS T.shape O).length sc, .slice tA (takenL T.values (offs (turnV T.shape O))).length tc]) (by simp [results, Try.results64, go_sem, r0, r1]) rfl ?_
          rw [HQ.out]
          exact ⟨_, _, rfl, HF.out.ints 3 rfl, HF.out.ints 4 rfl, HF.out.apart 3 4 rfl rfl (by decide), HF.out.below⟩

end Go.Proofs.Ytldblcolnjkcaaa

/-! ## TT3 -/
namespace Go.Proofs.Ytldblcolnjkcaaa
open Go.RowKit

set_option maxRecDepth 100000 in
set_option maxHeartbeats 6400000 in
theorem equalTensor_same (v u : Value) (T : TL) (w : World) (h : TensorV w v T) (k : TensorV w u T) :
    Calls Try.prog 79 #[v, u] w fun e w' => e = .returned (.bool true) ∧ Below w.heap.size w w' := by
  obtain ⟨s1, t1, rfl, hs1, ht1⟩ := h
  obtain ⟨s2, t2, rfl, hs2, ht2⟩ := k
  obtain ⟨A1, c1, rfl⟩ := hs1.form
  obtain ⟨A2, c2, rfl⟩ := ht1.form
  obtain ⟨A3, c3, rfl⟩ := hs2.form
  obtain ⟨A4, c4, rfl⟩ := ht2.form
  have hA := (Blk.new w 75 #[.slice A1 T.shape.length c1, .slice A2 T.values.length c2]).alloc (.cells #[.slice A3 T.shape.length c3, .slice A4 T.values.length c4] 75)
  have hB := Blk.new (w.alloc (.cells #[.slice A1 T.shape.length c1, .slice A2 T.values.length c2] 75)) 75 #[.slice A3 T.shape.length c3, .slice A4 T.values.length c4]
  simp only [World.size_alloc] at hB
  have hW : Below w.heap.size w ((w.alloc (.cells #[.slice A1 T.shape.length c1, .slice A2 T.values.length c2] 75)).alloc (.cells #[.slice A3 T.shape.length c3, .slice A4 T.values.length c4] 75)) := ((Below.refl _ _).alloc (Nat.le_refl _) _).alloc (by simp) _
  go_enter Try.func79, Try.ntmps79
  go_upto_region 1 with fail
  generalize ((w.alloc (.cells #[.slice A1 T.shape.length c1, .slice A2 T.values.length c2] 75)).alloc (.cells #[.slice A3 T.shape.length c3, .slice A4 T.values.length c4] 75)) = W1 at *
  obtain ⟨⟨q0, q1⟩, -⟩ := id hA.all2
  obtain ⟨⟨r0, r1⟩, -⟩ := id hB.all2
  have hs1 := hs1.ext hW
  have ht1 := ht1.ext hW
  have hs2 := hs2.ext hW
  have ht2 := ht2.ext hW
  go_wp2_with fail
  refine (equalInts_same _ _ _ _ hs1 hs2).mono ?_; rintro e w1 ⟨rfl, hb⟩
  have hA := hA.nx hb
  have hB := hB.nx hb
  have ht1 := ht1.nx hb
  have ht2 := ht2.nx hb
  have hW := hW.nx hb hW.size
  clear hb q0 q1 r0 r1
  obtain ⟨⟨q0, q1⟩, -⟩ := id hA.all2
  obtain ⟨⟨r0, r1⟩, -⟩ := id hB.all2
  go_wp2_with fail
  refine (equalInts_same _ _ _ _ ht1 ht2).mono ?_; rintro e w2 ⟨rfl, hb⟩
  go_wp2
  go_ret
  exact ⟨rfl, hW.nx hb hW.size⟩

set_option maxRecDepth 100000 in
set_option maxHeartbeats 6400000 in
theorem total_any (v : Value) (L : List Int) (w : World) (h : Ints w v L) :
    Calls Try.prog 81 #[v] w fun e w' => e = .returned (.int .i64 (sumW L)) ∧ Below w.heap.size w w' := by
  obtain ⟨A, c, rfl, h1, h2, h3⟩ := h
  unfold maxLen at h2
  go_enter Try.func81, Try.ntmps81
  go_wp2
  go_loopg [3, 4] L.length (fun m n i wr => ∃ k : Nat, k ≤ L.length ∧ m = L.length - k ∧ i = .int .i64 k ∧ n = .int .i64 (sumW (L.take k)) ∧ w = wr)
  case atStart => exact ⟨0, Nat.zero_le _, rfl, rfl, rfl, rfl⟩
  case round =>
    obtain ⟨k, hk, rfl, rfl, rfl, rfl⟩ := hrel
    by_cases hlt : k < L.length
    · obtain ⟨b, off, rfl, hb, hc⟩ := h3 (by omega)
      have hx := hc k L[k] (by simp [hlt])
      have HS := hid (sumW_snoc L k hlt)
      have hki : (k : Int) < (L.length : Int) := by omega
      have hw : IntKind.i64.wrap ((k : Int) + 1) = (k : Int) + 1 := IntWalk.i64_in _ (by omega)
      clear hc h3
      go_wp2
      go_roundg (L.length - (k + 1))
      case measure => omega
      case rel => exact ⟨k + 1, by omega, rfl, by congr 1, by rw [HS.out], rfl⟩
    · have HE := hid (show sumW (L.take k) = sumW L by rw [List.take_of_length_le (by omega)])
      have hki : ¬ (k : Int) < (L.length : Int) := by omega
      go_wp2
      go_ret
      exact ⟨ret_int HE.out, Below.refl _ _⟩

end Go.Proofs.Ytldblcolnjkcaaa

/-! ## TT4 -/
namespace Go.Proofs.Ytldblcolnjkcaaa
open Go.RowKit

theorem unP_put {O : List Int} {n k j : Nat} (ho : orderL O n = true) (hk : k < O.length) (hj : O[k] = (j : Int)) : (unPk (O.map Int.toNat) (upI n) n k).set j (k : Int) = unPk (O.map Int.toNat) (upI n) n (k + 1) := by
  have hp := order_perm ho
  have hl : (O.map Int.toNat).length = n := by have := hp.length_eq; simpa using this
  have hkn : k < n := by simpa using hl ▸ (show k < (O.map Int.toNat).length by simpa using hk)
  have hn : (O.map Int.toNat).Nodup := hp.nodup_iff.2 List.nodup_range
  have h := unPk_put (idx := upI n) (n := n) hn (by omega) (show k < (upI n).length by rw [upI_length]; exact hkn)
  have e : (O.map Int.toNat)[k]'(by omega) = j := by simp [hj]
  have e2 : (upI n)[k]'(by rw [upI_length]; exact hkn) = (k : Int) := by simp [upI]
  rw [e, e2] at h
  exact h
theorem order_len {O : List Int} {n : Nat} (ho : orderL O n = true) : O.length = n := by
  simp only [orderL, Bool.and_eq_true, decide_eq_true_eq] at ho
  exact ho.1.1
theorem order_in {O : List Int} {n : Nat} (ho : orderL O n = true) {k : Nat} (hk : k < O.length) : 0 ≤ O[k] ∧ O[k] < n := by
  simp only [orderL, Bool.and_eq_true, decide_eq_true_eq, List.all_eq_true, inR_iff] at ho
  have := ho.1.2 _ (List.getElem_mem hk)
  omega
theorem TensorV.parts {w : World} {s t : Value} {T : TL} (h : TensorV w (.agg #[s, t]) T) : Ints w s T.shape ∧ Ints w t T.values := by
  obtain ⟨sv, tv, e, h1, h2⟩ := h
  have e' : s = sv ∧ t = tv := by simpa using e
  rw [e'.1, e'.2]
  exact ⟨h1, h2⟩
theorem back_all {O : List Int} {n : Nat} (ho : orderL O n = true) (hl : O.length = n) : unPk (O.map Int.toNat) (upI O.length) O.length O.length = backL O n := by
  subst hl
  exact unPk_all (order_perm ho)

set_option maxRecDepth 100000 in
set_option maxHeartbeats 6400000 in
theorem FnTurnTensor_walk (v : Value) (n : Nat) (w : World) (h : BytesV w v n) :
    Calls Try.prog 12 #[v] w fun e w' => e = .returned (.bool true) ∧ Below w.heap.size w w' := by
  have hv := h
  obtain ⟨A, c, rfl, h1, h2, -⟩ := h
  by_cases hn : 1048576 < n
  · have hni : (1048576 : Int) < (n : Int) := by omega
    go_enter Try.func12, Try.ntmps12
    go_wp2
    go_ret
    exact ⟨rfl, Below.refl _ _⟩
  have hni : ¬ (1048576 : Int) < (n : Int) := by omega
  go_enter Try.func12, Try.ntmps12
  go_wp2_with fail
  refine (DrawTurnTensor_any _ n _ hv).mono ?_; rintro e w1 ⟨T, O, sv, tv, vo, rfl, hl1, hl2, hl3, hS, hV, hO, hz⟩
  obtain ⟨As, cs, rfl⟩ := hS.form
  obtain ⟨At, ct, rfl⟩ := hV.form
  obtain ⟨Ao, co, rfl⟩ := hO.form
  clear hv h1 h2
  have hb := below_alloc w1 (.cells #[.slice As T.shape.length cs, .slice At T.values.length ct] 75)
  have hB := Blk.new w1 75 #[.slice As T.shape.length cs, .slice At T.values.length ct]
  have hT : TensorV (w1.alloc (.cells #[.slice As T.shape.length cs, .slice At T.values.length ct] 75)) (.agg #[.slice As T.shape.length cs, .slice At T.values.length ct]) T := ⟨_, _, rfl, hS.nx hb, hV.nx hb⟩
  have hO := hO.nx hb
  have hz := hz.nx hb hz.size
  clear hb hS hV
  go_upto_region 4 with fail
  generalize w1.alloc (.cells #[.slice As T.shape.length cs, .slice At T.values.length ct] 75) = w2 at *
  generalize w1.heap.size = g3 at *
  obtain ⟨⟨q0, q1⟩, -⟩ := id hB.all2
  go_wp2_with fail
  refine (TurnTensor_any _ _ T O _ hT hO).mono ?_; rintro e w3 ⟨su, tu, rfl, hsu, htu, hsep, hb⟩
  obtain ⟨Au, cu, rfl⟩ := hsu.form
  obtain ⟨Bu, du, rfl⟩ := htu.form
  have hU := Own.tensor hsu htu
  have hB := hB.nx hb
  have hT := TensorV.ext hT hb
  have hO := hO.nx hb
  have hz := hz.nx hb hz.size
  clear q0 q1 hb hsu htu hsep
  obtain ⟨V, hV⟩ : ∃ V, turnL T O = V := ⟨_, rfl⟩
  have HV := hid hV
  rw [hV] at hU ⊢
  have hb := below_alloc w3 (.cells #[.slice Au V.shape.length cu, .slice Bu V.values.length du] 75)
  have hX := Blk.new w3 75 #[.slice Au V.shape.length cu, .slice Bu V.values.length du]
  have hB := hB.nx hb
  have hT := TensorV.ext hT hb
  have hU := TensorV.ext hU hb
  have hO := hO.nx hb
  have hz := hz.nx hb hz.size
  clear hb hV
  go_upto_region 5 with fail
  generalize w3.alloc (.cells #[.slice Au V.shape.length cu, .slice Bu V.values.length du] 75) = w4 at *
  generalize w3.heap.size = g5 at *
  obtain ⟨wd, rfl⟩ : ∃ wd, wd = w4 := ⟨_, rfl⟩
  have qA := fun x : ExtW wd => (x.at_ hB).all2.1
  have qX := fun x : ExtW wd => (x.at_ hX).all2.1
  have HN := hid (fun x : ExtW wd => sTurnTensor_any _ _ T O x.v (TensorV.ext hT x.h) (hO.nx x.h))
  rw [HV.out] at HN
  have HU := hid (fun x : ExtW wd => TensorV.ext hU x.h)
  have HV1 := hid (fun x : ExtW wd => ValidTensor_any _ T x.v (TensorV.ext hT x.h))
  have HV2 := hid (fun x : ExtW wd => ValidTensor_any _ V x.v (TensorV.ext hU x.h))
  have HL := hid (And.intro hl1 (And.intro hl2 hl3))
  clear hl1 hl2 hl3
  cases hc1 : isTensorL T
  · rw [hc1] at HV1
    clear hc1
    refine region_mk 32 (by kernel_rfl) (by kernel_rfl) ?_
    apply Exists.intro
    simp only [List.take_succ_cons, List.take_zero, List.drop_succ_cons, List.drop_zero]
    repeat (first
      | (apply grow_val (by rfl); (focus (intro x; (go_simp; try with_reducible rfl); done)); simp only [Act.put, List.setIfInBounds_toArray, List.set_cons_zero, List.set_cons_succ])
      | (apply grow_skip (by rfl); simp only [Act.put, List.setIfInBounds_toArray, List.set_cons_zero, List.set_cons_succ]))
    apply grow_tensF (fun v => v) id_inj (V) (by rfl)
    · intro x hF K Q hK
      go_simp
      go_at_call 61;(with_reducible refine (HN.out x).mono ?_); rintro e w' ⟨s', t', rfl, ho, hp, hs, hb⟩; exact hK _ _ _ hb ho hp hs
    intro A3 c3 B3 d3 F3 O3 hF3 hO3
    simp only [Act.put, List.setIfInBounds_toArray, List.set_cons_zero, List.set_cons_succ]
    repeat (first
      | (apply grow_val (by rfl); (focus (intro x; (go_simp; try with_reducible rfl); done)); simp only [Act.put, List.setIfInBounds_toArray, List.set_cons_zero, List.set_cons_succ])
      | (apply grow_skip (by rfl); simp only [Act.put, List.setIfInBounds_toArray, List.set_cons_zero, List.set_cons_succ]))
    apply grow_callG (by rfl)
    · intro x hF K Q hK
      have hv2 := hF3 _ (hF 3 (by kernel_rfl))
      go_simp
      refine (equalTensor_same _ _ V _ (HU.out x) (Own.tensor hv2.1 hv2.2.1)).mono ?_
      rintro e w' ⟨rfl, hb⟩
      exact hK _ hb
    simp only [Act.put, List.setIfInBounds_toArray, List.set_cons_zero, List.set_cons_succ]
    repeat (first
      | (apply grow_val (by rfl); (focus (intro x; (go_simp; try with_reducible rfl); done)); simp only [Act.put, List.setIfInBounds_toArray, List.set_cons_zero, List.set_cons_succ])
      | (apply grow_skip (by rfl); simp only [Act.put, List.setIfInBounds_toArray, List.set_cons_zero, List.set_cons_succ])
      | (apply grow_call (by rfl); (focus (intro x K Q hK; go_simp; (first | (go_at_call 80; (with_reducible refine (HV1.out x).mono ?_); rintro e w' ⟨rfl, hb⟩; exact hK _ hb) | (go_at_call 80; (with_reducible refine (HV2.out x).mono ?_); rintro e w' ⟨rfl, hb⟩; exact hK _ hb)); done)); simp only [Act.put, List.setIfInBounds_toArray, List.set_cons_zero, List.set_cons_succ]))
    refine grow_nil ?_
    intro x hF hS9
    obtain ⟨w4, hb4⟩ := x
    have hB := hB.nx hb4
    have hX := hX.nx hb4
    have hT := TensorV.ext hT hb4
    have hU := TensorV.ext hU hb4
    have hO := hO.nx hb4
    have hz := hz.nx hb4 hz.size
    clear hF hS9 hF3 hO3 qA qX HN HU HV1 HV2
    go_upto_region 6 with fail
    have qA := fun x : ExtW w4 => (x.at_ hB).all2.1
    have qX := fun x : ExtW w4 => (x.at_ hX).all2.1
    have HN := hid (fun x : ExtW w4 => sTurnTensor_any _ _ T O x.v (TensorV.ext hT x.h) (hO.nx x.h))
    rw [HV.out] at HN
    have HU := hid (fun x : ExtW w4 => TensorV.ext hU x.h)
    refine region_mk 5 (by kernel_rfl) (by kernel_rfl) ?_
    apply Exists.intro
    simp only [List.take_succ_cons, List.take_zero, List.drop_succ_cons, List.drop_zero]
    repeat (first
      | (apply grow_val (by rfl); (focus (intro x; (go_simp; try with_reducible rfl); done)); simp only [Act.put, List.setIfInBounds_toArray, List.set_cons_zero, List.set_cons_succ])
      | (apply grow_skip (by rfl); simp only [Act.put, List.setIfInBounds_toArray, List.set_cons_zero, List.set_cons_succ]))
    apply grow_tensF (fun v => v) id_inj (V) (by rfl)
    · intro x hF K Q hK
      go_simp
      go_at_call 61;(with_reducible refine (HN.out x).mono ?_); rintro e w' ⟨s', t', rfl, ho, hp, hs, hb⟩; exact hK _ _ _ hb ho hp hs
    intro A3 c3 B3 d3 F3 O3 hF3 hO3
    simp only [Act.put, List.setIfInBounds_toArray, List.set_cons_zero, List.set_cons_succ]
    repeat (first
      | (apply grow_val (by rfl); (focus (intro x; (go_simp; try with_reducible rfl); done)); simp only [Act.put, List.setIfInBounds_toArray, List.set_cons_zero, List.set_cons_succ])
      | (apply grow_skip (by rfl); simp only [Act.put, List.setIfInBounds_toArray, List.set_cons_zero, List.set_cons_succ]))
    apply grow_callG (by rfl)
    · intro x hF K Q hK
      have hv2 := hF3 _ (hF 3 (by kernel_rfl))
      go_simp
      refine (equalTensor_same _ _ V _ (HU.out x) (Own.tensor hv2.1 hv2.2.1)).mono ?_
      rintro e w' ⟨rfl, hb⟩
      exact hK _ hb
    simp only [Act.put, List.setIfInBounds_toArray, List.set_cons_zero, List.set_cons_succ]
    refine grow_nil ?_
    intro x hF hS9
    obtain ⟨w5, hb5⟩ := x
    clear hF hS9 hF3 hO3 qA qX
    go_wp2
    go_ret
    exact ⟨rfl, hz.nx hb5 hz.size⟩
  rw [hc1] at HV1
  by_cases hc2 : O.length = T.shape.length
  case neg =>
    have hne : ((O.length : Int) != (T.shape.length : Int)) = true := by simp; omega
    clear hc1 hc2
    refine region_mk 32 (by kernel_rfl) (by kernel_rfl) ?_
    apply Exists.intro
    simp only [List.take_succ_cons, List.take_zero, List.drop_succ_cons, List.drop_zero]
    repeat (first
      | (apply grow_val (by rfl); (focus (intro x; (go_simp; try with_reducible rfl); done)); simp only [Act.put, List.setIfInBounds_toArray, List.set_cons_zero, List.set_cons_succ])
      | (apply grow_skip (by rfl); simp only [Act.put, List.setIfInBounds_toArray, List.set_cons_zero, List.set_cons_succ]))
    apply grow_tensF (fun v => v) id_inj (V) (by rfl)
    · intro x hF K Q hK
      go_simp
      go_at_call 61;(with_reducible refine (HN.out x).mono ?_); rintro e w' ⟨s', t', rfl, ho, hp, hs, hb⟩; exact hK _ _ _ hb ho hp hs
    intro A3 c3 B3 d3 F3 O3 hF3 hO3
    simp only [Act.put, List.setIfInBounds_toArray, List.set_cons_zero, List.set_cons_succ]
    repeat (first
      | (apply grow_val (by rfl); (focus (intro x; (go_simp; try with_reducible rfl); done)); simp only [Act.put, List.setIfInBounds_toArray, List.set_cons_zero, List.set_cons_succ])
      | (apply grow_skip (by rfl); simp only [Act.put, List.setIfInBounds_toArray, List.set_cons_zero, List.set_cons_succ]))
    apply grow_callG (by rfl)
    · intro x hF K Q hK
      have hv2 := hF3 _ (hF 3 (by kernel_rfl))
      go_simp
      refine (equalTensor_same _ _ V _ (HU.out x) (Own.tensor hv2.1 hv2.2.1)).mono ?_
      rintro e w' ⟨rfl, hb⟩
      exact hK _ hb
    simp only [Act.put, List.setIfInBounds_toArray, List.set_cons_zero, List.set_cons_succ]
    repeat (first
      | (apply grow_val (by rfl); (focus (intro x; (go_simp; try with_reducible rfl); done)); simp only [Act.put, List.setIfInBounds_toArray, List.set_cons_zero, List.set_cons_succ])
      | (apply grow_skip (by rfl); simp only [Act.put, List.setIfInBounds_toArray, List.set_cons_zero, List.set_cons_succ])
      | (apply grow_call (by rfl); (focus (intro x K Q hK; go_simp; (first | (go_at_call 80; (with_reducible refine (HV1.out x).mono ?_); rintro e w' ⟨rfl, hb⟩; exact hK _ hb) | (go_at_call 80; (with_reducible refine (HV2.out x).mono ?_); rintro e w' ⟨rfl, hb⟩; exact hK _ hb)); done)); simp only [Act.put, List.setIfInBounds_toArray, List.set_cons_zero, List.set_cons_succ]))
    refine grow_nil ?_
    intro x hF hS9
    obtain ⟨w4, hb4⟩ := x
    have hB := hB.nx hb4
    have hX := hX.nx hb4
    have hT := TensorV.ext hT hb4
    have hU := TensorV.ext hU hb4
    have hO := hO.nx hb4
    have hz := hz.nx hb4 hz.size
    clear hF hS9 hF3 hO3 qA qX HN HU HV1 HV2
    go_upto_region 6 with fail
    have qA := fun x : ExtW w4 => (x.at_ hB).all2.1
    have qX := fun x : ExtW w4 => (x.at_ hX).all2.1
    have HN := hid (fun x : ExtW w4 => sTurnTensor_any _ _ T O x.v (TensorV.ext hT x.h) (hO.nx x.h))
    rw [HV.out] at HN
    have HU := hid (fun x : ExtW w4 => TensorV.ext hU x.h)
    refine region_mk 5 (by kernel_rfl) (by kernel_rfl) ?_
    apply Exists.intro
    simp only [List.take_succ_cons, List.take_zero, List.drop_succ_cons, List.drop_zero]
    repeat (first
      | (apply grow_val (by rfl); (focus (intro x; (go_simp; try with_reducible rfl); done)); simp only [Act.put, List.setIfInBounds_toArray, List.set_cons_zero, List.set_cons_succ])
      | (apply grow_skip (by rfl); simp only [Act.put, List.setIfInBounds_toArray, List.set_cons_zero, List.set_cons_succ]))
    apply grow_tensF (fun v => v) id_inj (V) (by rfl)
    · intro x hF K Q hK
      go_simp
      go_at_call 61;(with_reducible refine (HN.out x).mono ?_); rintro e w' ⟨s', t', rfl, ho, hp, hs, hb⟩; exact hK _ _ _ hb ho hp hs
    intro A3 c3 B3 d3 F3 O3 hF3 hO3
    simp only [Act.put, List.setIfInBounds_toArray, List.set_cons_zero, List.set_cons_succ]
    repeat (first
      | (apply grow_val (by rfl); (focus (intro x; (go_simp; try with_reducible rfl); done)); simp only [Act.put, List.setIfInBounds_toArray, List.set_cons_zero, List.set_cons_succ])
      | (apply grow_skip (by rfl); simp only [Act.put, List.setIfInBounds_toArray, List.set_cons_zero, List.set_cons_succ]))
    apply grow_callG (by rfl)
    · intro x hF K Q hK
      have hv2 := hF3 _ (hF 3 (by kernel_rfl))
      go_simp
      refine (equalTensor_same _ _ V _ (HU.out x) (Own.tensor hv2.1 hv2.2.1)).mono ?_
      rintro e w' ⟨rfl, hb⟩
      exact hK _ hb
    simp only [Act.put, List.setIfInBounds_toArray, List.set_cons_zero, List.set_cons_succ]
    refine grow_nil ?_
    intro x hF hS9
    obtain ⟨w5, hb5⟩ := x
    clear hF hS9 hF3 hO3 qA qX
    go_wp2
    go_ret
    exact ⟨rfl, hz.nx hb5 hz.size⟩
  have hne : ((O.length : Int) != (T.shape.length : Int)) = false := by simp [hc2]
  cases hc3 : isTensorL V
  · rw [hc3] at HV2
    clear hc1 hc2 hc3
    refine region_mk 32 (by kernel_rfl) (by kernel_rfl) ?_
    apply Exists.intro
    simp only [List.take_succ_cons, List.take_zero, List.drop_succ_cons, List.drop_zero]
    repeat (first
      | (apply grow_val (by rfl); (focus (intro x; (go_simp; try with_reducible rfl); done)); simp only [Act.put, List.setIfInBounds_toArray, List.set_cons_zero, List.set_cons_succ])
      | (apply grow_skip (by rfl); simp only [Act.put, List.setIfInBounds_toArray, List.set_cons_zero, List.set_cons_succ]))
    apply grow_tensF (fun v => v) id_inj (V) (by rfl)
    · intro x hF K Q hK
      go_simp
      go_at_call 61;(with_reducible refine (HN.out x).mono ?_); rintro e w' ⟨s', t', rfl, ho, hp, hs, hb⟩; exact hK _ _ _ hb ho hp hs
    intro A3 c3 B3 d3 F3 O3 hF3 hO3
    simp only [Act.put, List.setIfInBounds_toArray, List.set_cons_zero, List.set_cons_succ]
    repeat (first
      | (apply grow_val (by rfl); (focus (intro x; (go_simp; try with_reducible rfl); done)); simp only [Act.put, List.setIfInBounds_toArray, List.set_cons_zero, List.set_cons_succ])
      | (apply grow_skip (by rfl); simp only [Act.put, List.setIfInBounds_toArray, List.set_cons_zero, List.set_cons_succ]))
    apply grow_callG (by rfl)
    · intro x hF K Q hK
      have hv2 := hF3 _ (hF 3 (by kernel_rfl))
      go_simp
      refine (equalTensor_same _ _ V _ (HU.out x) (Own.tensor hv2.1 hv2.2.1)).mono ?_
      rintro e w' ⟨rfl, hb⟩
      exact hK _ hb
    simp only [Act.put, List.setIfInBounds_toArray, List.set_cons_zero, List.set_cons_succ]
    repeat (first
      | (apply grow_val (by rfl); (focus (intro x; (go_simp; try with_reducible rfl); done)); simp only [Act.put, List.setIfInBounds_toArray, List.set_cons_zero, List.set_cons_succ])
      | (apply grow_skip (by rfl); simp only [Act.put, List.setIfInBounds_toArray, List.set_cons_zero, List.set_cons_succ])
      | (apply grow_call (by rfl); (focus (intro x K Q hK; go_simp; (first | (go_at_call 80; (with_reducible refine (HV1.out x).mono ?_); rintro e w' ⟨rfl, hb⟩; exact hK _ hb) | (go_at_call 80; (with_reducible refine (HV2.out x).mono ?_); rintro e w' ⟨rfl, hb⟩; exact hK _ hb)); done)); simp only [Act.put, List.setIfInBounds_toArray, List.set_cons_zero, List.set_cons_succ]))
    refine grow_nil ?_
    intro x hF hS9
    obtain ⟨w4, hb4⟩ := x
    have hB := hB.nx hb4
    have hX := hX.nx hb4
    have hT := TensorV.ext hT hb4
    have hU := TensorV.ext hU hb4
    have hO := hO.nx hb4
    have hz := hz.nx hb4 hz.size
    clear hF hS9 hF3 hO3 qA qX HN HU HV1 HV2
    go_upto_region 6 with fail
    have qA := fun x : ExtW w4 => (x.at_ hB).all2.1
    have qX := fun x : ExtW w4 => (x.at_ hX).all2.1
    have HN := hid (fun x : ExtW w4 => sTurnTensor_any _ _ T O x.v (TensorV.ext hT x.h) (hO.nx x.h))
    rw [HV.out] at HN
    have HU := hid (fun x : ExtW w4 => TensorV.ext hU x.h)
    refine region_mk 5 (by kernel_rfl) (by kernel_rfl) ?_
    apply Exists.intro
    simp only [List.take_succ_cons, List.take_zero, List.drop_succ_cons, List.drop_zero]
    repeat (first
      | (apply grow_val (by rfl); (focus (intro x; (go_simp; try with_reducible rfl); done)); simp only [Act.put, List.setIfInBounds_toArray, List.set_cons_zero, List.set_cons_succ])
      | (apply grow_skip (by rfl); simp only [Act.put, List.setIfInBounds_toArray, List.set_cons_zero, List.set_cons_succ]))
    apply grow_tensF (fun v => v) id_inj (V) (by rfl)
    · intro x hF K Q hK
      go_simp
      go_at_call 61;(with_reducible refine (HN.out x).mono ?_); rintro e w' ⟨s', t', rfl, ho, hp, hs, hb⟩; exact hK _ _ _ hb ho hp hs
    intro A3 c3 B3 d3 F3 O3 hF3 hO3
    simp only [Act.put, List.setIfInBounds_toArray, List.set_cons_zero, List.set_cons_succ]
    repeat (first
      | (apply grow_val (by rfl); (focus (intro x; (go_simp; try with_reducible rfl); done)); simp only [Act.put, List.setIfInBounds_toArray, List.set_cons_zero, List.set_cons_succ])
      | (apply grow_skip (by rfl); simp only [Act.put, List.setIfInBounds_toArray, List.set_cons_zero, List.set_cons_succ]))
    apply grow_callG (by rfl)
    · intro x hF K Q hK
      have hv2 := hF3 _ (hF 3 (by kernel_rfl))
      go_simp
      refine (equalTensor_same _ _ V _ (HU.out x) (Own.tensor hv2.1 hv2.2.1)).mono ?_
      rintro e w' ⟨rfl, hb⟩
      exact hK _ hb
    simp only [Act.put, List.setIfInBounds_toArray, List.set_cons_zero, List.set_cons_succ]
    refine grow_nil ?_
    intro x hF hS9
    obtain ⟨w5, hb5⟩ := x
    clear hF hS9 hF3 hO3 qA qX
    go_wp2
    go_ret
    exact ⟨rfl, hz.nx hb5 hz.size⟩
  rw [hc3] at HV2
  have hc3' := hc3
  rw [← HV.out] at hc3'
  have HW := hid hc3'
  have HO := hid (turnL_valid hc3').2.1
  have hsl : V.shape.length = O.length := by
    rw [← HV.out, (turnL_valid hc3').2.2]
    show (turnS T.shape O).length = _
    rw [turnS_len HO.out, hc2]
  have hne2 : ((V.shape.length : Int) != (O.length : Int)) = false := by simp [hsl]
  have HSL := hid hsl
  have HC2 := hid hc2
  clear hc1 hc2 hc3 hc3' hsl
  refine region_mk 32 (by kernel_rfl) (by kernel_rfl) ?_
  apply Exists.intro
  simp only [List.take_succ_cons, List.take_zero, List.drop_succ_cons, List.drop_zero]
  repeat (first
    | (apply grow_val (by rfl); (focus (intro x; (go_simp; try with_reducible rfl); done)); simp only [Act.put, List.setIfInBounds_toArray, List.set_cons_zero, List.set_cons_succ])
    | (apply grow_skip (by rfl); simp only [Act.put, List.setIfInBounds_toArray, List.set_cons_zero, List.set_cons_succ]))
  apply grow_tensF (fun v => v) id_inj (V) (by rfl)
  · intro x hF K Q hK
    go_simp
    go_at_call 61;(with_reducible refine (HN.out x).mono ?_); rintro e w' ⟨s', t', rfl, ho, hp, hs, hb⟩; exact hK _ _ _ hb ho hp hs
  intro A3 c3 B3 d3 F3 O3 hF3 hO3
  simp only [Act.put, List.setIfInBounds_toArray, List.set_cons_zero, List.set_cons_succ]
  repeat (first
    | (apply grow_val (by rfl); (focus (intro x; (go_simp; try with_reducible rfl); done)); simp only [Act.put, List.setIfInBounds_toArray, List.set_cons_zero, List.set_cons_succ])
    | (apply grow_skip (by rfl); simp only [Act.put, List.setIfInBounds_toArray, List.set_cons_zero, List.set_cons_succ]))
  apply grow_callG (by rfl)
  · intro x hF K Q hK
    have hv2 := hF3 _ (hF 3 (by kernel_rfl))
    go_simp
    refine (equalTensor_same _ _ V _ (HU.out x) (Own.tensor hv2.1 hv2.2.1)).mono ?_
    rintro e w' ⟨rfl, hb⟩
    exact hK _ hb
  simp only [Act.put, List.setIfInBounds_toArray, List.set_cons_zero, List.set_cons_succ]
  repeat (first
    | (apply grow_val (by rfl); (focus (intro x; (go_simp; try with_reducible rfl); done)); simp only [Act.put, List.setIfInBounds_toArray, List.set_cons_zero, List.set_cons_succ])
    | (apply grow_skip (by rfl); simp only [Act.put, List.setIfInBounds_toArray, List.set_cons_zero, List.set_cons_succ])
    | (apply grow_call (by rfl); (focus (intro x K Q hK; go_simp; (first | (go_at_call 80; (with_reducible refine (HV1.out x).mono ?_); rintro e w' ⟨rfl, hb⟩; exact hK _ hb) | (go_at_call 80; (with_reducible refine (HV2.out x).mono ?_); rintro e w' ⟨rfl, hb⟩; exact hK _ hb)); done)); simp only [Act.put, List.setIfInBounds_toArray, List.set_cons_zero, List.set_cons_succ]))
  refine grow_nil ?_
  intro x hF hS9
  obtain ⟨w4, hb4⟩ := x
  have hB := hB.nx hb4
  have hX := hX.nx hb4
  have hT := TensorV.ext hT hb4
  have hU := TensorV.ext hU hb4
  have hO := hO.nx hb4
  have hz := hz.nx hb4 hz.size
  clear hF hS9 hF3 hO3 qA qX HN HU HV1 HV2
  have ho60 : O.length ≤ 61 := HL.out.2.2
  go_upto_region 7 with fail
  go_wp2_with (at_make; refine mk0 _ rfl _ _ rfl O.length rfl rfl (by omega) ?_)
  intro w5 hR hb
  have HR := hid (show Own w5 w4.heap.size (.slice (some ⟨w4.heap.size, 0, none⟩) O.length O.length) (unPk (O.map Int.toNat) (upI O.length) O.length 0) by rw [unPk_zero]; exact hR)
  have HB := hid hB
  have HX := hid hX
  have HT := hid hT
  have HU := hid hU
  have HOR := hid hO
  have HZ := hid hz
  have HBL := hid hb
  clear hR hb hB hX hT hU hO hz hne hne2
  go_wp2_with fail
  go_loopg [7] O.length (fun m i wr => ∃ k : Nat, k ≤ O.length ∧ m = O.length - k ∧ i = .int .i64 k ∧ Own wr w4.heap.size (.slice (some ⟨w4.heap.size, 0, none⟩) O.length O.length) (unPk (O.map Int.toNat) (upI O.length) O.length k) ∧ Below w4.heap.size w4 wr)
  case atStart => exact ⟨0, Nat.zero_le _, rfl, rfl, HR.out, HBL.out⟩
  case round =>
    obtain ⟨k, hk, rfl, rfl, hR, hBel⟩ := hrel
    have HRW := hid hR
    have HBW := hid hBel
    clear HBL HR hR
    have hO := HOR.out.nx hBel
    clear hBel
    by_cases hlt : k < O.length
    · have hki : (k : Int) < (O.length : Int) := by omega
      have hin := order_in HO.out hlt
      obtain ⟨bo, oo, rfl, xo⟩ := hO.elem k hlt
      obtain ⟨j, hj⟩ : ∃ j : Nat, O[k] = (j : Int) := ⟨(O[k]).toNat, by omega⟩
      have HPU := hid (unP_put (n := O.length) (by rw [HC2.out]; exact HO.out) hlt hj)
      rw [hj] at hin xo
      have hj0 : (0 : Int) ≤ (j : Int) := by omega
      have hjl : (j : Int) < (O.length : Int) := by have := HC2.out; omega
      have hjn : ¬ (j : Int) < 0 := by omega
      have hjn2 : ¬ (O.length : Int) ≤ (j : Int) := by omega
      have hvf := HRW.out.free j
      obtain ⟨y, hvc⟩ : ∃ y, wr.cell? ⟨w4.heap.size, j, none⟩ = some (.int .i64 y) := ⟨_, HRW.out.cell j (by rw [unPk_len]; omega)⟩
      have hw : IntKind.i64.wrap ((k : Int) + 1) = (k : Int) + 1 := IntWalk.i64_in _ (by omega)
      have HNX := hid (show Own (wr.setCell ⟨w4.heap.size, j, none⟩ (.int .i64 k)) w4.heap.size (.slice (some ⟨w4.heap.size, 0, none⟩) O.length O.length) (unPk (O.map Int.toNat) (upI O.length) O.length (k + 1)) by rw [← HPU.out]; exact HRW.out.put j k)
      have HNB := hid (HBW.out.setCell (p := ⟨w4.heap.size, j, none⟩) (Nat.le_refl _) (.int .i64 k))
      clear hj hin hO
      go_wp2
      go_roundg (O.length - (k + 1))
      case measure => omega
      case rel => exact ⟨k + 1, by omega, rfl, by congr 1, HNX.out, HNB.out⟩
    · have hki : ¬ (k : Int) < (O.length : Int) := by omega
      have hkk : k = O.length := by omega
      have HBK := hid (back_all HO.out HC2.out)
      have hrow := HRW.out.ints
      rw [hkk, HBK.out] at hrow
      have hB := HB.out.nx HBW.out
      have hX := HX.out.nx HBW.out
      have hT := TensorV.ext HT.out HBW.out
      have hU := TensorV.ext HU.out HBW.out
      have hz := hid (HZ.out.nx HBW.out HZ.out.size)
      have hTB := hid (show turnL V (backL O T.shape.length) = T by rw [← HV.out]; exact turn_back HW.out)
      have hSM := hid (show sumW V.values = sumW T.values by rw [← HV.out]; exact turn_total HW.out)
      clear hkk hO
      go_upto_region 14 with fail
      have qA := fun x : ExtW wr => (x.at_ hB).all2.1
      have qX := fun x : ExtW wr => (x.at_ hX).all2.1
      have HN := hid (fun x : ExtW wr => TurnTensor_any _ _ V (backL O T.shape.length) x.v (TensorV.ext hU x.h) (hrow.nx x.h))
      rw [hTB.out] at HN
      have HTE := hid (fun x : ExtW wr => TensorV.ext hT x.h)
      have HTV := hid (fun x : ExtW wr => total_any _ V.values x.v (TensorV.parts (TensorV.ext hU x.h)).2)
      have HTT := hid (fun x : ExtW wr => total_any _ T.values x.v (TensorV.parts (TensorV.ext hT x.h)).2)
      rw [hSM.out] at HTV
      obtain ⟨X, hX0⟩ : ∃ X, sumW T.values = X := ⟨_, rfl⟩
      rw [hX0] at HTV HTT
      have hbb : (X == X) = true := by simp
      clear hX0
      refine region_mk 14 (by kernel_rfl) (by kernel_rfl) ?_
      apply Exists.intro
      simp only [List.take_succ_cons, List.take_zero, List.drop_succ_cons, List.drop_zero]
      repeat (first
        | (apply grow_val (by rfl); (focus (intro x; (go_simp; try with_reducible rfl); done)); simp only [Act.put, List.setIfInBounds_toArray, List.set_cons_zero, List.set_cons_succ])
        | (apply grow_skip (by rfl); simp only [Act.put, List.setIfInBounds_toArray, List.set_cons_zero, List.set_cons_succ]))
      apply grow_tensF (fun v => v) id_inj (T) (by rfl)
      · intro x hF K Q hK
        go_simp
        go_at_call 64;(with_reducible refine (HN.out x).mono ?_); rintro e w' ⟨s', t', rfl, ho, hp, hs, hb⟩; exact hK _ _ _ hb ho hp hs
      intro A2 c2 B2 d2 F2 O2 hF2 hO2
      simp only [Act.put, List.setIfInBounds_toArray, List.set_cons_zero, List.set_cons_succ]
      repeat (first
        | (apply grow_val (by rfl); (focus (intro x; (go_simp; try with_reducible rfl); done)); simp only [Act.put, List.setIfInBounds_toArray, List.set_cons_zero, List.set_cons_succ])
        | (apply grow_skip (by rfl); simp only [Act.put, List.setIfInBounds_toArray, List.set_cons_zero, List.set_cons_succ]))
      apply grow_callG (by rfl)
      · intro x hF K Q hK
        have hv2 := hF2 _ (hF 2 (by kernel_rfl))
        go_simp
        refine (equalTensor_same _ _ T _ (Own.tensor hv2.1 hv2.2.1) (HTE.out x)).mono ?_
        rintro e w' ⟨rfl, hb⟩
        exact hK _ hb
      simp only [Act.put, List.setIfInBounds_toArray, List.set_cons_zero, List.set_cons_succ]
      repeat (first
        | (apply grow_val (by rfl); (focus (intro x; (go_simp; try with_reducible rfl); done)); simp only [Act.put, List.setIfInBounds_toArray, List.set_cons_zero, List.set_cons_succ])
        | (apply grow_skip (by rfl); simp only [Act.put, List.setIfInBounds_toArray, List.set_cons_zero, List.set_cons_succ])
        | (apply grow_call (by rfl); (focus (intro x K Q hK; go_simp; (first | (go_at_call 81; (with_reducible refine (HTV.out x).mono ?_); rintro e w' ⟨rfl, hb⟩; exact hK _ hb) | (go_at_call 81; (with_reducible refine (HTT.out x).mono ?_); rintro e w' ⟨rfl, hb⟩; exact hK _ hb)); done)); simp only [Act.put, List.setIfInBounds_toArray, List.set_cons_zero, List.set_cons_succ]))
      refine grow_nil ?_
      intro x hF hS9
      obtain ⟨w6, hb6⟩ := x
      clear hF hS9 hF2 hO2 qA qX
      go_wp2
      go_ret
      exact ⟨rfl, hz.out.nx hb6 hz.out.size⟩

end Go.Proofs.Ytldblcolnjkcaaa
