/- Contracts: reshaping, the reference. No conditions. -/
import Derived.Test.YtmglcapjccbknaaV4
import Derived.Test.YtmglcapjccbknaaD2
import Derived.Test.YtmglcapjccbknaaC7
import Derived.Outline
import Derived.Deep.RegionHeld3
import Derived.Deep.QuietTactic
import Derived.BigQuiet
import Derived.Deep.DeepCutAuto
import Derived.IntWalk
namespace Go.Proofs.Ytmglcapjccbknaa
open Go.RowKit

/-- A view that is being built: its box, its shape, its strides, all of the call's own. -/
structure NewView (N : Nat) (wx : World) (g : Nat) (b : Int) (A1 : Option Addr) (c1 : Nat) (g2 : Nat) (xs ys : List Int) : Prop where
  box : Blk wx g 28 #[.int .i64 b, .slice A1 xs.length c1, .slice (some ⟨g2, 0, none⟩) ys.length ys.length]
  s : Own wx N (.slice A1 xs.length c1) xs
  t : Own wx N (.slice (some ⟨g2, 0, none⟩) ys.length ys.length) ys
  n : N ≤ g
  m : N ≤ g2
  ne : g ≠ g2
  sx : ∀ k, (Value.slice A1 xs.length c1).ownBlock = some k → k ≠ g ∧ k ≠ g2
def Built (W1 : World) (b : Int) (xs : List Int) (s6 : Value) (wx : World) : Prop :=
  ∃ g A1 c1 g2, s6 = .pointer (some ⟨g, 0, none⟩) ∧ NewView W1.heap.size wx g b A1 c1 g2 xs (zerosL xs.length) ∧ Below W1.heap.size W1 wx

theorem built_last {W1 W : World} {B1 B2 : Nat} {A1 : Option Addr} {c1 g2 : Nat} {xs : List Int} (b : Int) (hU : Below W1.heap.size W1 W) (h1 : Own W B1 (.slice A1 xs.length c1) xs) (hB1 : W1.heap.size ≤ B1)
    (h2 : Own W B2 (.slice (some ⟨g2, 0, none⟩) xs.length xs.length) (List.replicate xs.length 0)) (hB2 : W1.heap.size ≤ B2) (hne : ∀ k, (Value.slice A1 xs.length c1).ownBlock = some k → k ≠ g2) :
    Built W1 b xs (.pointer (some ⟨W.heap.size, 0, none⟩)) (W.alloc (.cells #[.int .i64 b, .slice A1 xs.length c1, .slice (some ⟨g2, 0, none⟩) xs.length xs.length] 28)) := by
  have hs := hU.size
  have l2 := h2.lt g2 rfl
  have e : (zerosL xs.length).length = xs.length := zerosL_length _
  refine ⟨W.heap.size, A1, c1, g2, rfl, ⟨by rw [e]; exact Blk.new W _ _, (h1.alloc _).mono hB1, by rw [e]; exact (h2.alloc _).mono hB2, hs, by omega, by omega, fun k hk => ⟨by have := h1.lt k hk; omega, hne k hk⟩⟩, hU.alloc hs _⟩
theorem built_early {W1 W : World} {B1 B2 gX : Nat} {A1 : Option Addr} {c1 g2 : Nat} {xs : List Int} (b : Int) {x y z : Value} (hX : Blk W gX 28 #[x, y, z]) (hU : Below W1.heap.size W1 W) (h1 : Own W B1 (.slice A1 xs.length c1) xs) (hB1 : W1.heap.size ≤ B1)
    (h2 : Own W B2 (.slice (some ⟨g2, 0, none⟩) xs.length xs.length) (List.replicate xs.length 0)) (hB2 : W1.heap.size ≤ B2) (hg : W1.heap.size ≤ gX) (hgg : gX ≠ g2) (hne : ∀ k, (Value.slice A1 xs.length c1).ownBlock = some k → k ≠ gX ∧ k ≠ g2) :
    Built W1 b xs (.pointer (some ⟨gX, 0, none⟩)) (((W.setCell ⟨gX, 0, none⟩ (.int .i64 b)).setCell ⟨gX, 1, none⟩ (.slice A1 xs.length c1)).setCell ⟨gX, 2, none⟩ (.slice (some ⟨g2, 0, none⟩) xs.length xs.length)) := by
  have l2 := h2.lt g2 rfl
  have e : (zerosL xs.length).length = xs.length := zerosL_length _
  have o1 : Own (((W.setCell ⟨gX, 0, none⟩ (.int .i64 b)).setCell ⟨gX, 1, none⟩ (.slice A1 xs.length c1)).setCell ⟨gX, 2, none⟩ (.slice (some ⟨g2, 0, none⟩) xs.length xs.length)) B1 (.slice A1 xs.length c1) xs :=
    ((h1.off (fun k hk => (hne k hk).1) _).off (fun k hk => (hne k hk).1) _).off (fun k hk => (hne k hk).1) _
  have o2 : Own (((W.setCell ⟨gX, 0, none⟩ (.int .i64 b)).setCell ⟨gX, 1, none⟩ (.slice A1 xs.length c1)).setCell ⟨gX, 2, none⟩ (.slice (some ⟨g2, 0, none⟩) xs.length xs.length)) B2 (.slice (some ⟨g2, 0, none⟩) xs.length xs.length) (List.replicate xs.length 0) :=
    ((h2.off (fun k hk => by cases hk; simp; omega) _).off (fun k hk => by cases hk; simp; omega) _).off (fun k hk => by cases hk; simp; omega) _
  exact ⟨gX, A1, c1, g2, rfl, ⟨by rw [e]; exact hX.store3 _ _ _, o1.mono hB1, by rw [e]; exact o2.mono hB2, hg, by omega, hgg, hne⟩, below3 hU hg _ _ _⟩

theorem scount_eq2 (v : Value) (xs : List Int) (n : Nat) (w : World) (h : Ints w v xs) (hn : prodW xs = n) :
    Calls Try.prog 65 #[v] w fun e w' => e = .returned (.int .i64 n) ∧ w = w' := by
  have := count_any v xs w h
  rwa [hn] at this
theorem rank_nat (v iv : Value) (shape index : List Int) (m : Nat) (w : World) (h : Ints w v shape) (hi : Ints w iv index) (hlen : shape.length = index.length) (hm : rankW shape index = m) :
    Calls Try.prog 107 #[v, iv] w fun e w' => e = .returned (.int .i64 m) ∧ Below w.heap.size w w' := by
  have := rank_any v iv shape index w h hi hlen
  rwa [hm] at this
/-- What a try leaves: a view of the call's own, the one that is asked for if the try is good. -/
def RetTry (w : World) (V : VL) (b : Bool) (e : Ending) (w' : World) : Prop := ∃ U sv tv, e = .returned (.tuple #[.agg #[.int .i64 U.base, sv, tv], .bool b]) ∧
  Own w' w.heap.size sv U.shape ∧ Own w' w.heap.size tv U.strides ∧ (b = true → U = V) ∧ Below w.heap.size w w'

set_option maxRecDepth 100000 in
set_option maxHeartbeats 6400000 in
theorem reshaped_any (v sh : Value) (V : VL) (shape : List Int) (w : World) (hv : ViewV w v V) (hs : Ints w sh shape) (hV : isViewL V = true) (hS : isShapeL shape = true) :
    Calls Try.prog 81 #[v, sh] w (RetTry w (reV V shape) (okTryL V shape)) := by
  have hv0 := hv
  have hs0 := hs
  obtain ⟨sv, tv, rfl, hsv, htv⟩ := hv
  obtain ⟨Ah, ch, rfl, hk0, hm0, hr0⟩ := hs
  unfold maxLen at hm0
  have hl4 := (shape_ext hS).1
  have hl1 : shape.length ≤ 100000000 := by omega
  have hl2 : shape.length ≤ 1000000000000 := by omega
  have hA := (Blk.new w 28 #[.int .i64 V.base, sv, tv]).alloc (.cells #[.int .i64 0, .slice none 0 0, .slice none 0 0] 28)
  have hR := Blk.new (w.alloc (.cells #[.int .i64 V.base, sv, tv] 28)) 28 #[.int .i64 0, .slice none 0 0, .slice none 0 0]
  have hW : Below w.heap.size w ((w.alloc (.cells #[.int .i64 V.base, sv, tv] 28)).alloc (.cells #[.int .i64 0, .slice none 0 0, .slice none 0 0] 28)) := ((Below.refl _ _).alloc (Nat.le_refl _) _).alloc (by simp) _
  simp only [World.size_alloc] at hR
  go_enter Try.func81, Try.ntmps81
  go_wp2_with fail
  generalize (w.alloc (.cells #[.int .i64 V.base, sv, tv] 28)).alloc (.cells #[.int .i64 0, .slice none 0 0, .slice none 0 0] 28) = W1 at *
  obtain ⟨⟨q0, q1, q2⟩, -⟩ := id hA.all3
  go_upto_region 1 with fail
  go_cut [6] (fun s6 wx => Built W1 V.base shape s6 wx)
  case first =>
    have hn0 := hA.lt
    have hdz : W1.heap.size ≤ W1.drew.heap.size := Nat.le_refl _
    have hNow := below_drew W1
    have hA0 := hA
    have hA := hA.nx hNow
    go_region_held3 (fun w' => w'.cell? ⟨w.heap.size, 0, none⟩ = some (.int .i64 V.base))
      (first | with_reducible exact hA.all3.1.1 | with_reducible exact (hA.alloc _).all3.1.1 | with_reducible exact (hA0.nx (below_alloc W1 _).drew).all3.1.1 | exact (hA.far3 (by omega) _ _ _).all3.1.1)
      (first
        | (go_at_call 61; ((with_reducible refine (copyInts_any _ shape _ (hs0.ext (hW.trans (hNow.mono hW.size))) hl1).mono ?_); rintro e w2 ⟨s1, rfl, ho1, hb⟩; have zc := hb.size; have sg1 := ho1.seg; have hNow := hNow.nxt hb; (try have hA := hA.nx hb); (try have ho2 := ho2.nx hb); (try have hX := hX.nx hb); obtain ⟨A1, c1, e1⟩ := ho1.form; subst e1; (try obtain ⟨⟨r0, r1, r2⟩, rf0, rf1, rf2⟩ := id hX.all3)))
        | (go_at_call 61; have hX := Blk.newAt hNow 28 #[.int .i64 0, .slice none 0 0, .slice none 0 0]; have hbx := below_at hNow (.cells #[.int .i64 0, .slice none 0 0, .slice none 0 0] 28); have zx := hbx.size; have zx1 := hX.lt; (try have hA := hA.nx hbx); (try have ho1 := ho1.nx hbx); (try have ho2 := ho2.nx hbx); have hNow := hNow.nxt hbx; have hX0 := hX.all3; ((with_reducible refine (copyInts_any _ shape _ (hs0.ext (hW.trans (hNow.mono hW.size))) hl1).mono ?_); rintro e w2 ⟨s1, rfl, ho1, hb⟩; have zc := hb.size; have sg1 := ho1.seg; have hNow := hNow.nxt hb; (try have hA := hA.nx hb); (try have ho2 := ho2.nx hb); (try have hX := hX.nx hb); obtain ⟨A1, c1, e1⟩ := ho1.form; subst e1; (try obtain ⟨⟨r0, r1, r2⟩, rf0, rf1, rf2⟩ := id hX.all3)))
        | (go_at_call 61; have hX : Blk (W1.alloc (.cells #[.int .i64 0, .slice none 0 0, .slice none 0 0] 28)).drew W1.heap.size 28 #[.int .i64 0, .slice none 0 0, .slice none 0 0] := Blk.new W1 28 #[.int .i64 0, .slice none 0 0, .slice none 0 0]; have zx := hX.lt; have zx1 := hX.lt; have hNow := (below_alloc W1 (.cells #[.int .i64 0, .slice none 0 0, .slice none 0 0] 28)).drew; have hX0 := hX.all3; have hA := hA0.nx hNow; ((with_reducible refine (copyInts_any _ shape _ (hs0.ext (hW.trans (hNow.mono hW.size))) hl1).mono ?_); rintro e w2 ⟨s1, rfl, ho1, hb⟩; have zc := hb.size; have sg1 := ho1.seg; have hNow := hNow.nxt hb; (try have hA := hA.nx hb); (try have ho2 := ho2.nx hb); (try have hX := hX.nx hb); obtain ⟨A1, c1, e1⟩ := ho1.form; subst e1; (try obtain ⟨⟨r0, r1, r2⟩, rf0, rf1, rf2⟩ := id hX.all3)))
        | (skip; ((with_reducible refine upon_mk hNow shape.length hl2 ?_); intro g2 w3 ho2 hg2 hg2' hb; have zm := hb.size; have hNow := hNow.nxt hb; (try have hA := hA.nx hb); (try have ho1 := ho1.nx hb); (try have hX := hX.nx hb); (try obtain ⟨⟨r0, r1, r2⟩, rf0, rf1, rf2⟩ := id hX.all3)))
        | (skip; have hX := Blk.newAt hNow 28 #[.int .i64 0, .slice none 0 0, .slice none 0 0]; have hbx := below_at hNow (.cells #[.int .i64 0, .slice none 0 0, .slice none 0 0] 28); have zx := hbx.size; have zx1 := hX.lt; (try have hA := hA.nx hbx); (try have ho1 := ho1.nx hbx); (try have ho2 := ho2.nx hbx); have hNow := hNow.nxt hbx; have hX0 := hX.all3; ((with_reducible refine upon_mk hNow shape.length hl2 ?_); intro g2 w3 ho2 hg2 hg2' hb; have zm := hb.size; have hNow := hNow.nxt hb; (try have hA := hA.nx hb); (try have ho1 := ho1.nx hb); (try have hX := hX.nx hb); (try obtain ⟨⟨r0, r1, r2⟩, rf0, rf1, rf2⟩ := id hX.all3)))
        | (skip; have hX : Blk (W1.alloc (.cells #[.int .i64 0, .slice none 0 0, .slice none 0 0] 28)).drew W1.heap.size 28 #[.int .i64 0, .slice none 0 0, .slice none 0 0] := Blk.new W1 28 #[.int .i64 0, .slice none 0 0, .slice none 0 0]; have zx := hX.lt; have zx1 := hX.lt; have hNow := (below_alloc W1 (.cells #[.int .i64 0, .slice none 0 0, .slice none 0 0] 28)).drew; have hX0 := hX.all3; have hA := hA0.nx hNow; ((with_reducible refine upon_mk hNow shape.length hl2 ?_); intro g2 w3 ho2 hg2 hg2' hb; have zm := hb.size; have hNow := hNow.nxt hb; (try have hA := hA.nx hb); (try have ho1 := ho1.nx hb); (try have hX := hX.nx hb); (try obtain ⟨⟨r0, r1, r2⟩, rf0, rf1, rf2⟩ := id hX.all3))))
    all_goals go_wp2_with fail
    all_goals go_meet
    all_goals first
      | exact built_last _ hNow ho1 (by omega) ho2 (by omega) (fun k hk => by have := sg1 k hk; omega)
      | exact built_early _ hX hNow ho1 (by omega) ho2 (by omega) (by omega) (by omega) (fun k hk => by have := sg1 k hk; constructor <;> omega)
  case rest =>
    obtain ⟨g, A1, c1, g2, rfl, hN, hU⟩ := hcut
    have hA1 := hA.ext hU hA.lt
    have hR1 := hR.ext hU hR.lt
    have hn0 := hA.lt
    have hn1 := hR.lt
    have hz1 := hU.size
    have hD0 := hW.trans (hU.mono hW.size)
    have hDD := hD0.drew
    by_cases c1 : prodW shape = prodW V.shape
    · have hne : (prodW shape != prodW V.shape) = false := by simpa using c1
      have HC1 := hid c1
      clear c1
      clear q0 q1 q2
      obtain ⟨⟨q0, q1, q2⟩, -⟩ := id hA1.all3
      go_wp2_with fail
      go_region_held3 (fun w' => w'.cell? ⟨w.heap.size, 1, none⟩ = some sv) (first | with_reducible exact hA1.all3.1.2.1 | go_keep)
        (first
          | (go_at_call 65; (with_reducible refine (count_any _ shape _ (hs0.ext hDD)).mono ?_); rintro e w' ⟨rfl, rfl⟩)
          | (go_at_call 65; (with_reducible refine (count_any _ V.shape _ (hsv.ext hDD)).mono ?_); rintro e w' ⟨rfl, rfl⟩))
      have hN2 : NewView W1.heap.size wc.drew g V.base A1 c1 g2 shape (zerosL shape.length) := ⟨hN.box, hN.s.drew, hN.t.drew, hN.n, hN.m, hN.ne, hN.sx⟩
      have hA2 := hA1.nx (below_drew wc)
      have hR2 := hR1.nx (below_drew wc)
      clear q0 q1 q2 hN hA1 hR1 hDD
      have hzz : W1.heap.size ≤ wc.drew.heap.size := hz1
      have hD1 := hD0.drew
      have hsv1 := hsv.ext hD1
      have hs1 := hs0.ext hD1
      generalize wc.drew = w3 at *
      by_cases c0 : prodW shape = 0
      · have HC0 := hid c0
        have HQ := hid (show okTryL V shape = true by simp [okTryL, c0, ← HC1.out])
        have HR := hid (show reV V shape = ⟨0, shape, zerosL shape.length⟩ by simp [reV, c0])
        clear c0
        obtain ⟨⟨x0, x1, x2⟩, xf0, xf1, xf2⟩ := id hN2.box.all3
        obtain ⟨⟨r0, r1, r2⟩, rf0, rf1, rf2⟩ := id hR2.all3
        have hgn := hN2.n
        have hgg : g ≠ w.heap.size + 1 := by omega
        go_wp2_with fail
        refine (count_any _ shape _ hs1).mono ?_; rintro e w' ⟨rfl, rfl⟩
        rw [HC0.out]
        go_wp2
        refine bodyPost_ret (v := .tuple #[.agg #[.int .i64 0, .slice A1 shape.length c1, .slice (some ⟨g2, 0, none⟩) (zerosL shape.length).length (zerosL shape.length).length], .bool true]) (by simp [results, Try.results81, go_sem, r0, r1, r2]) rfl ?_
        rw [HQ.out]
        exact ⟨⟨0, shape, zerosL shape.length⟩, _, _, rfl, (own3b (hN2.s.off (fun k hk => (hN2.sx k hk).1) _) (by omega) _ _ _).mono (by omega), (own3b (hN2.t.off (fun k hk => by cases hk; exact Ne.symm hN2.ne) _) (by omega) _ _ _).mono (by omega), (fun _ => HR.out.symm), below3 (hD1.setCell (by simp; omega) _) (by omega) _ _ _⟩
      · have hc0 : (prodW shape == 0) = false := by simpa using c0
        have HC0 := hid c0
        clear c0
        obtain ⟨⟨q0, q1, q2⟩, -⟩ := id hA2.all3
        go_wp2_with fail
        refine (count_any _ shape _ hs1).mono ?_; rintro e w' ⟨rfl, rfl⟩
        go_wp2_with fail
        refine (offsets_any _ V _ (hv0.ext hD1) (isViewL_and hV).1 (isViewL_and hV).2.1).mono ?_; rintro e w4 ⟨rv, rfl, hol, hb4⟩
        have HF := hid (fun k hk h1 => re_facts hV hS HC1.out HC0.out k hk h1)
        have hz4 := hb4.size
        have hD4 := hD1.trans (hb4.mono hD1.size)
        have hN4 : NewView W1.heap.size w4 g V.base A1 c1 g2 shape (zerosL shape.length) := ⟨hN2.box.nx hb4, hN2.s.nx hb4, hN2.t.nx hb4, hN2.n, hN2.m, hN2.ne, hN2.sx⟩
        have hA4 := hA2.nx hb4
        have hR4 := hR2.nx hb4
        have hsl := hol.seg
        have hg3 := hN2.box.lt
        have hg23 := (hN2.t.lt g2 rfl).2
        obtain ⟨Al, cl, el⟩ := hol.form
        subst el
        have hcl : cl ≤ 9223372036854775807 := by obtain ⟨_, _, e, _, h, _⟩ := hol.ints; simp only [Value.slice.injEq] at e; obtain ⟨-, -, rfl⟩ := e; unfold maxLen at h; omega
        have hlb : (offs V).length ≤ 1000 := by have := shape_prod (isViewL_and hV).1; rw [offs_length]; omega
        have hol := hol.mono (B' := W1.heap.size) hzz
        clear q0 q1 q2 hN2 hA2 hR2 hsv1 hs1 hv0 hb4
        generalize hL : offs V = L at *
        go_wp2
        go_loopw [8] (fun i wr => ∃ (k : Nat) (ys : List Int), k ≤ shape.length ∧ i = .int .i64 k ∧ Hid (ReRel shape L k ys) ∧ NewView W1.heap.size wr g V.base A1 c1 g2 shape ys ∧ Own wr W1.heap.size (.slice Al L.length cl) L ∧ Below w.heap.size w wr ∧ Blk wr (w.heap.size + 1) 28 #[.int .i64 0, .slice none 0 0, .slice none 0 0] ∧ Hid (w4.heap.size ≤ wr.heap.size)) (fun i _ => shape.length - (intOf i).toNat)
        case atStart => exact ⟨0, _, Nat.zero_le _, rfl, hid (ReRel.start _ _), hN4, hol, hD4, hR4, hid (Nat.le_refl _)⟩
        case round =>
          obtain ⟨k, ys, hk, rfl, hys, hNr, hLr, hb, hRr, hzr⟩ := hrel
          have hzr1 := hzr.out
          have hgn := hNr.n
          have hgne := hNr.ne
          by_cases hlt : k < shape.length
          · have HYL := hid (hys.out.len hk)
            have hyk : k < ys.length := by have := HYL.out; omega
            obtain ⟨b0, off0, rfl, hltb, hc⟩ := hr0 (by omega)
            have hx := (hb.cell (p := ⟨b0, off0 + k, none⟩) hltb).trans (hc k shape[k] (by simp [hlt]))
            clear hr0 hc
            by_cases h1 : 1 < shape[k]
            · obtain ⟨m, hm1, -, hml, hz0, hre, hp1, hp2, hp3, hp4⟩ := HF.out k hlt h1
              have HM := hid hm1
              have HS := hid (hys.out.step hlt)
              have HRE := hid hre
              clear hm1 hre
              obtain ⟨gl, capl, el, hgl1, hgl2⟩ := hLr.row (by omega)
              simp only [Value.slice.injEq, true_and] at el
              obtain ⟨rfl, rfl⟩ := el
              have hgl3 := hsl gl rfl
              go_wp2_with (at_make; refine mk0 _ rfl _ _ rfl shape.length rfl rfl (by omega) ?_)
              intro w5 hou hb5
              have hou1 := hou.put k 1
              have hu0 := hou.cell k (by simpa using hlt)
              have huf := hou.free k
              have hz5 := hb5.size
              have hB5 : Below wr.heap.size wr (w5.setCell ⟨wr.heap.size, k, none⟩ (.int .i64 1)) := hb5.setCell (p := ⟨wr.heap.size, k, none⟩) (Nat.le_refl _) _
              have HLU := hid (unitL_length shape.length k).symm
              go_wp2_with fail
              generalize w5.setCell ⟨wr.heap.size, k, none⟩ (.int .i64 1) = w6 at *
              have hou1 : Own w6 wr.heap.size (.slice (some ⟨wr.heap.size, 0, none⟩) shape.length shape.length) (unitL shape.length k) := hou1
              clear hou hu0 huf hb5 hz5
              have hN6 : NewView W1.heap.size w6 g V.base A1 c1 g2 shape ys := ⟨hNr.box.nx hB5, hNr.s.nx hB5, hNr.t.nx hB5, hgn, hNr.m, hgne, hNr.sx⟩
              have hL6 := hLr.nx hB5
              have hR6 := hRr.nx hB5
              have hb6 := hb.trans (hB5.mono hb.size)
              have hz6 := hB5.size
              have hd6 := hb6.drew
              have hq0 : w6.drew.cell? ⟨g, 2, none⟩ = some (.slice (some ⟨g2, 0, none⟩) ys.length ys.length) := hN6.box.cell 2
              have hq1 : w6.drew.cell? ⟨gl, m, none⟩ = some (.int .i64 L[m]) := hL6.cell m hml
              have hq2 : w6.drew.cell? ⟨gl, 0, none⟩ = some (.int .i64 L[0]) := hL6.cell 0 hz0
              have hgl4 : gl ≠ g2 := by omega
              have hgl5 : ∀ q, (Value.slice (some (⟨gl, 0, none⟩ : Addr)) L.length cl).ownBlock = some q → q ≠ (⟨g2, k, none⟩ : Addr).block := fun q hq => by cases hq; exact hgl4
              have hwm : IntKind.i64.wrap (L[m] - L[0]) = L[m] - L[0] := IntWalk.i64_in _ (by omega)
              have hmi : (m : Int) < (L.length : Int) := by omega
              have hki : (k : Int) < (ys.length : Int) := by omega
              have hki2 : (k : Int) < (shape.length : Int) := by omega
              go_region_held3 (fun w' => w'.cell? ⟨g, 2, none⟩ = some (.slice (some ⟨g2, 0, none⟩) ys.length ys.length) ∧ w'.cell? ⟨gl, m, none⟩ = some (.int .i64 L[m]) ∧ w'.cell? ⟨gl, 0, none⟩ = some (.int .i64 L[0]))
                (first | with_reducible exact ⟨hq0, hq1, hq2⟩ | with_reducible exact hK1 | exact ⟨(hB7.far (p := ⟨g2, k, none⟩) hgne _).cell 2, (hL7.off (p := ⟨g2, k, none⟩) hgl5 _).cell m hml, (hL7.off (p := ⟨g2, k, none⟩) hgl5 _).cell 0 hz0⟩)
                (first
                  | (go_at_call 107; (with_reducible refine (rank_nat _ _ shape (unitL shape.length k) m _ (hs0.ext hd6) (Own.ints (hou1.drew)) HLU.out HM.out).mono ?_); rintro e w7 ⟨rfl, hb7⟩; have hB7 := hN6.box.drew7 hb7; have hL7 := hL6.drew.nx hb7; have hK1 : w7.cell? ⟨g, 2, none⟩ = some (.slice (some ⟨g2, 0, none⟩) ys.length ys.length) ∧ w7.cell? ⟨gl, m, none⟩ = some (.int .i64 L[m]) ∧ w7.cell? ⟨gl, 0, none⟩ = some (.int .i64 L[0]) := ⟨hB7.cell 2, hL7.cell m hml, hL7.cell 0 hz0⟩; have hy7 := (hN6.t.drew.nx hb7).cell k hyk; have hf7 := (hN6.t.drew.nx hb7).free k))
              have hN7 : NewView W1.heap.size (w7.setCell ⟨g2, k, none⟩ (.int .i64 (L[m] - L[0]))) g V.base A1 c1 g2 shape (ys.set k (L[m] - L[0])) :=
                ⟨by rw [List.length_set]; exact hB7.far (p := ⟨g2, k, none⟩) hgne _, (hN6.s.drew.nx hb7).off (fun q hq => (hN6.sx q hq).2) _, by rw [List.length_set]; exact (hN6.t.drew.nx hb7).put k _, hgn, hNr.m, hgne, hNr.sx⟩
              have hL8 := hL7.off (p := ⟨g2, k, none⟩) hgl5 (.int .i64 (L[m] - L[0]))
              have hR8 := (hR6.drew7 hb7).far (p := ⟨g2, k, none⟩) (by have := hNr.m; simp; omega) (.int .i64 (L[m] - L[0]))
              have hb8 := (hd6.trans (hb7.mono hd6.size)).setCell (p := ⟨g2, k, none⟩) (by have := hNr.m; simp; omega) (.int .i64 (L[m] - L[0]))
              have hz8 := hid (show w4.heap.size ≤ (w7.setCell ⟨g2, k, none⟩ (.int .i64 (L[m] - L[0]))).heap.size by have := hb7.size; simp at *; omega)
              have HS8 := hid (show ReRel shape L (k + 1) (ys.set k (L[m] - L[0])) by rw [← HRE.out]; exact HS.out)
              clear hN6 hL6 hR6 hb6 hB7 hL7 hNr hLr hRr hb hys
              go_wp2
              go_roundw
              case rel => exact ⟨k + 1, _, by omega, by go_num, HS8, hN7, hL8, hb8, hR8, hz8⟩
              case measure => simp [intOf]; omega
            · have HS := hid (hys.out.skip hlt h1)
              have hNN := hid hNr
              clear hNr
              go_wp2
              go_roundw
              case rel => exact ⟨k + 1, _, by omega, by go_num, HS, hNN.out, hLr, hb, hRr, hzr⟩
              case measure => simp [intOf]; omega
          · have e : k = shape.length := by omega
            have HE := hid (show ys = reS shape L from (by have h := hys.out; rw [e] at h; exact h.end_))
            have HQ := hid (okTry_eq HC1.out HC0.out)
            have HV := hid (reV_eq (V := V) HC0.out)
            rw [hL] at HQ HV
            clear e hys
            have hy0 := HE.out
            subst hy0
            have HLN := hid (show shape.length = (reS shape L).length by rw [reS_length])
            obtain ⟨Ah', c', e', -, hm', -⟩ := hLr.ints
            clear Ah' c' e' hm'
            have hlt2 : shape.length ≤ k := by omega
            obtain ⟨⟨x0, x1, x2⟩, xf0, xf1, xf2⟩ := id hNr.box.all3
            have hB0 := hNr.box
            have hgx : g ≠ w.heap.size + 1 := by omega
            have hbd := hb.drew
            go_wp2_with fail
            go_region_held3 (fun w' => w'.cell? ⟨g, 0, none⟩ = some (.int .i64 V.base) ∧ w'.cell? ⟨g, 1, none⟩ = some (.slice A1 shape.length c1) ∧ w'.cell? ⟨g, 2, none⟩ = some (.slice (some ⟨g2, 0, none⟩) (reS shape L).length (reS shape L).length))
              (first | with_reducible exact hB0.all3.1 | with_reducible exact (hB0.nx (below_drew wr)).all3.1 | with_reducible exact hB1.all3.1 | with_reducible exact hB2.all3.1 | exact (hB2.far3 hgx _ _ _).all3.1)
              (first
                | (go_at_call 62; refine (offsets_any _ ⟨V.base, shape, reS shape L⟩ _ ⟨_, _, rfl, Own.ints hNr.s.drew, Own.ints hNr.t.drew⟩ hS HLN.out).mono ?_; rintro e w7 ⟨r7, rfl, ho7, hb7⟩; have hB1 := hB0.drew7 hb7)
                | (go_at_call 102; refine (sameInts_any _ _ (offs ⟨V.base, shape, reS shape L⟩) L _ ho7.ints (Own.ints (hLr.drew.nx hb7))).mono ?_; rintro e w8 ⟨rfl, hb8⟩; have hB2 := hB1.nx hb8; obtain ⟨⟨r0, r1, r2⟩, rf0, rf1, rf2⟩ := ((hRr.drew7 hb7).nx hb8).all3))
            have hz7 : wr.heap.size ≤ w7.heap.size := hb7.size
            have hz8 := hb8.size
            have hD7 := hbd.trans (hb7.mono hbd.size)
            have hD8 := hD7.trans (hb8.mono hD7.size)
            have hs8 := (hNr.s.drew.nx hb7).nx hb8
            have ht8 := (hNr.t.drew.nx hb7).nx hb8
            go_wp2
            refine bodyPost_ret (v := .tuple #[.agg #[.int .i64 V.base, .slice A1 shape.length c1, .slice (some ⟨g2, 0, none⟩) (reS shape L).length (reS shape L).length], .bool (eqL (offs ⟨V.base, shape, reS shape L⟩) L)]) (by simp [results, Try.results81, go_sem, r0, r1, r2]) rfl ?_
            rw [HQ.out]
            exact ⟨⟨V.base, shape, reS shape L⟩, _, _, rfl, (own3b hs8 (by omega) _ _ _).mono (by omega), (own3b ht8 (by omega) _ _ _).mono (by omega), (fun _ => HV.out.symm), below3 hD8 (by omega) _ _ _⟩
    · have hne : (prodW shape != prodW V.shape) = true := by simpa using c1
      have HQ := hid (show okTryL V shape = false by simp [okTryL, c1])
      clear c1
      clear q0 q1 q2
      obtain ⟨⟨q0, q1, q2⟩, -⟩ := id hA1.all3
      obtain ⟨⟨r0, r1, r2⟩, rf0, rf1, rf2⟩ := id hR1.all3
      go_wp2_with fail
      go_region_held3 (fun w' => w'.cell? ⟨w.heap.size, 1, none⟩ = some sv) (first | with_reducible exact hA1.all3.1.2.1 | go_keep)
        (first
          | (go_at_call 65; (with_reducible refine (count_any _ shape _ (hs0.ext hDD)).mono ?_); rintro e w' ⟨rfl, rfl⟩)
          | (go_at_call 65; (with_reducible refine (count_any _ V.shape _ (hsv.ext hDD)).mono ?_); rintro e w' ⟨rfl, rfl⟩))
      go_wp2
      refine bodyPost_ret (v := .tuple #[.agg #[.int .i64 0, .slice none 0 0, .slice none 0 0], .bool false]) (by simp [results, Try.results81, go_sem, r0, r1, r2]) rfl ?_
      rw [HQ.out]
      exact ⟨VL.zero, _, _, rfl, Own.nil _ _, Own.nil _ _, (fun h => by cases h), (below3 hD0 (by omega) _ _ _).drew⟩

end Go.Proofs.Ytmglcapjccbknaa
