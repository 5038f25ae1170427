/- Contracts: reshaping. No conditions. (printed by mkv.py) -/
import Derived.Test.YtmglcapjccbknaaK14
import Derived.Test.YtmglcapjccbknaaV1
import Derived.Test.YtmglcapjccbknaaC7
import Derived.Outline
import Derived.Deep.RegionHeld3
import Derived.Deep.QuietTactic
import Derived.BigQuiet
import Derived.Deep.DeepCutAuto
import Derived.IntWalk
namespace Go.Proofs.Ytmglcapjccbknaa
open Go.RowKit


theorem countOf_nat (v : Value) (xs : List Int) (m : Nat) (w : World) (h : Ints w v xs) (hn : prodW xs = m) :
    Calls Try.prog 97 #[v] w fun e w' => e = .returned (.int .i64 m) ∧ w = w' := by
  have := countOf_any v xs w h
  rwa [hn] at this
def reGood (V : VL) (shape : List Int) : VL := if okReL V shape then reV V shape else VL.zero

set_option maxRecDepth 100000 in
set_option maxHeartbeats 6400000 in
theorem reshape_any (v sh : Value) (V : VL) (shape : List Int) (w : World) (hv : ViewV w v V) (hs : Ints w sh shape) (hV : isViewL V = true) (hS : isShapeL shape = true) :
    Calls Try.prog 85 #[v, sh] w (RetViewB w (reGood V shape) (okReL V shape)) := by
  have hv0 := hv
  have hs0 := hs
  obtain ⟨sv, tv, rfl, hsv, htv⟩ := hv
  obtain ⟨Ah, ch, rfl, hk0, hm0, hr0⟩ := hs
  unfold maxLen at hm0
  have hl4 := (shape_ext hS).1
  have hl2 : shape.length ≤ 1000000000000 := by omega
  have hA := (Blk.new w 28 #[.int .i64 V.base, sv, tv]).alloc (.cells #[.int .i64 0, .slice none 0 0, .slice none 0 0] 28)
  have hR := Blk.new (w.alloc (.cells #[.int .i64 V.base, sv, tv] 28)) 28 #[.int .i64 0, .slice none 0 0, .slice none 0 0]
  have hW : Below w.heap.size w ((w.alloc (.cells #[.int .i64 V.base, sv, tv] 28)).alloc (.cells #[.int .i64 0, .slice none 0 0, .slice none 0 0] 28)) := ((Below.refl _ _).alloc (Nat.le_refl _) _).alloc (by simp) _
  simp only [World.size_alloc] at hR
  by_cases c1 : prodW shape = prodW V.shape
  · have hne : (prodW shape != prodW V.shape) = false := by simpa using c1
    have HC1 := hid c1
    clear c1
    go_enter Try.func85, Try.ntmps85
    go_wp2_with fail
    generalize (w.alloc (.cells #[.int .i64 V.base, sv, tv] 28)).alloc (.cells #[.int .i64 0, .slice none 0 0, .slice none 0 0] 28) = W1 at *
    have hDD := hW.drew
    go_region_held3 (fun w' => w'.cell? ⟨w.heap.size, 1, none⟩ = some sv) (first | with_reducible exact hA.all3.1.2.1 | with_reducible exact (hA.nx (below_drew _)).all3.1.2.1)
      (first
        | (go_at_call 97; (with_reducible refine (countOf_any _ shape _ (hs0.ext hDD)).mono ?_); rintro e w' ⟨rfl, rfl⟩)
        | (go_at_call 97; (with_reducible refine (countOf_any _ V.shape _ (hsv.ext hDD)).mono ?_); rintro e w' ⟨rfl, rfl⟩))
    have hA := hA.nx (below_drew W1)
    have hR := hR.nx (below_drew W1)
    have hW := hW.drew
    clear hDD
    generalize W1.drew = W2 at *
    have hlt0 := hA.lt
    have hlt1 := hR.lt
    obtain ⟨⟨q0, q1, q2⟩, -⟩ := id hA.all3
    go_wp2_with fail
    go_upto_region 3 with fail
    go_cut [6] (fun s6 wx => Built W2 V.base shape s6 wx)
    case first =>
      have hNow := Below.refl W2.heap.size W2
      go_region_held3 (fun w' => w'.cell? ⟨w.heap.size, 0, none⟩ = some (.int .i64 V.base))
        (first | with_reducible exact hA.all3.1.1 | with_reducible exact (hA.nx (below_drew _)).all3.1.1 | with_reducible exact (hA.alloc _).all3.1.1 | with_reducible exact ((hA.alloc _).nx (below_drew _)).all3.1.1 | with_reducible exact ((hA.alloc _).alloc _).all3.1.1 | with_reducible exact (((hA.alloc _).alloc _).nx (below_drew _)).all3.1.1 | exact (hA.far3 (by omega) _ _ _).all3.1.1)
        (first
          | ((with_reducible refine step_at hNow ?_); refine step_applit _ (by rfl) _ _ (by rfl) _ hE (by rfl) _ _ _ _ (hs0.ext (hW.trans (hNow.mono hW.size))) (by rfl) hl2 ?_; intro A1 c1 wa ho1 sgho1 hb; have zho1 := hb.size; have hNow := hNow.nxt hb; (try have hA := hA.nx hb); (try have hX := hX.nx hb); (try have hE := hE.nx hb); (try have ho2 := ho2.nx hb); (try obtain ⟨⟨r0, r1, r2⟩, rf0, rf1, rf2⟩ := id hX.all3))
          | (have hX := Blk.newAt hNow 28 #[.int .i64 0, .slice none 0 0, .slice none 0 0]; have hbp := below_at hNow (.cells #[.int .i64 0, .slice none 0 0, .slice none 0 0] 28); have zhX := hbp.size; have yhX := hX.lt; (try simp only [World.size_alloc] at hX); (try have hA := hA.nx hbp); (try have hE := hE.nx hbp); (try have ho1 := ho1.nx hbp); (try have ho2 := ho2.nx hbp); have hNow := hNow.nxt hbp; (with_reducible refine step_at hNow ?_); refine step_applit _ (by rfl) _ _ (by rfl) _ hE (by rfl) _ _ _ _ (hs0.ext (hW.trans (hNow.mono hW.size))) (by rfl) hl2 ?_; intro A1 c1 wa ho1 sgho1 hb; have zho1 := hb.size; have hNow := hNow.nxt hb; (try have hA := hA.nx hb); (try have hX := hX.nx hb); (try have hE := hE.nx hb); (try have ho2 := ho2.nx hb); (try obtain ⟨⟨r0, r1, r2⟩, rf0, rf1, rf2⟩ := id hX.all3))
          | (have hE := Own.litAt hNow; have hbp := below_at hNow (.cells #[] 3); have zhE := hbp.size; have yhE := lit_lt hNow; (try simp only [World.size_alloc] at hE); (try have hA := hA.nx hbp); (try have hX := hX.nx hbp); (try have ho1 := ho1.nx hbp); (try have ho2 := ho2.nx hbp); have hNow := hNow.nxt hbp; (with_reducible refine step_at hNow ?_); refine step_applit _ (by rfl) _ _ (by rfl) _ hE (by rfl) _ _ _ _ (hs0.ext (hW.trans (hNow.mono hW.size))) (by rfl) hl2 ?_; intro A1 c1 wa ho1 sgho1 hb; have zho1 := hb.size; have hNow := hNow.nxt hb; (try have hA := hA.nx hb); (try have hX := hX.nx hb); (try have hE := hE.nx hb); (try have ho2 := ho2.nx hb); (try obtain ⟨⟨r0, r1, r2⟩, rf0, rf1, rf2⟩ := id hX.all3))
          | (have hX := Blk.newAt hNow 28 #[.int .i64 0, .slice none 0 0, .slice none 0 0]; have hbp := below_at hNow (.cells #[.int .i64 0, .slice none 0 0, .slice none 0 0] 28); have zhX := hbp.size; have yhX := hX.lt; (try simp only [World.size_alloc] at hX); (try have hA := hA.nx hbp); (try have hE := hE.nx hbp); (try have ho1 := ho1.nx hbp); (try have ho2 := ho2.nx hbp); have hNow := hNow.nxt hbp; have hE := Own.litAt hNow; have hbp := below_at hNow (.cells #[] 3); have zhE := hbp.size; have yhE := lit_lt hNow; (try simp only [World.size_alloc] at hE); (try have hA := hA.nx hbp); (try have hX := hX.nx hbp); (try have ho1 := ho1.nx hbp); (try have ho2 := ho2.nx hbp); have hNow := hNow.nxt hbp; (with_reducible refine step_at hNow ?_); refine step_applit _ (by rfl) _ _ (by rfl) _ hE (by rfl) _ _ _ _ (hs0.ext (hW.trans (hNow.mono hW.size))) (by rfl) hl2 ?_; intro A1 c1 wa ho1 sgho1 hb; have zho1 := hb.size; have hNow := hNow.nxt hb; (try have hA := hA.nx hb); (try have hX := hX.nx hb); (try have hE := hE.nx hb); (try have ho2 := ho2.nx hb); (try obtain ⟨⟨r0, r1, r2⟩, rf0, rf1, rf2⟩ := id hX.all3))
          | (have hE := Own.litAt hNow; have hbp := below_at hNow (.cells #[] 3); have zhE := hbp.size; have yhE := lit_lt hNow; (try simp only [World.size_alloc] at hE); (try have hA := hA.nx hbp); (try have hX := hX.nx hbp); (try have ho1 := ho1.nx hbp); (try have ho2 := ho2.nx hbp); have hNow := hNow.nxt hbp; have hX := Blk.newAt hNow 28 #[.int .i64 0, .slice none 0 0, .slice none 0 0]; have hbp := below_at hNow (.cells #[.int .i64 0, .slice none 0 0, .slice none 0 0] 28); have zhX := hbp.size; have yhX := hX.lt; (try simp only [World.size_alloc] at hX); (try have hA := hA.nx hbp); (try have hE := hE.nx hbp); (try have ho1 := ho1.nx hbp); (try have ho2 := ho2.nx hbp); have hNow := hNow.nxt hbp; (with_reducible refine step_at hNow ?_); refine step_applit _ (by rfl) _ _ (by rfl) _ hE (by rfl) _ _ _ _ (hs0.ext (hW.trans (hNow.mono hW.size))) (by rfl) hl2 ?_; intro A1 c1 wa ho1 sgho1 hb; have zho1 := hb.size; have hNow := hNow.nxt hb; (try have hA := hA.nx hb); (try have hX := hX.nx hb); (try have hE := hE.nx hb); (try have ho2 := ho2.nx hb); (try obtain ⟨⟨r0, r1, r2⟩, rf0, rf1, rf2⟩ := id hX.all3))
          | (have hbp := below_drewAt hNow; have zdr := hbp.size; (try have hA := hA.nx hbp); (try have hX := hX.nx hbp); (try have hE := hE.nx hbp); (try have ho1 := ho1.nx hbp); (try have ho2 := ho2.nx hbp); have hNow := hNow.nxt hbp; (with_reducible refine step_at hNow ?_); refine step_applit _ (by rfl) _ _ (by rfl) _ hE (by rfl) _ _ _ _ (hs0.ext (hW.trans (hNow.mono hW.size))) (by rfl) hl2 ?_; intro A1 c1 wa ho1 sgho1 hb; have zho1 := hb.size; have hNow := hNow.nxt hb; (try have hA := hA.nx hb); (try have hX := hX.nx hb); (try have hE := hE.nx hb); (try have ho2 := ho2.nx hb); (try obtain ⟨⟨r0, r1, r2⟩, rf0, rf1, rf2⟩ := id hX.all3))
          | (have hX := Blk.newAt hNow 28 #[.int .i64 0, .slice none 0 0, .slice none 0 0]; have hbp := below_at hNow (.cells #[.int .i64 0, .slice none 0 0, .slice none 0 0] 28); have zhX := hbp.size; have yhX := hX.lt; (try simp only [World.size_alloc] at hX); (try have hA := hA.nx hbp); (try have hE := hE.nx hbp); (try have ho1 := ho1.nx hbp); (try have ho2 := ho2.nx hbp); have hNow := hNow.nxt hbp; have hbp := below_drewAt hNow; have zdr := hbp.size; (try have hA := hA.nx hbp); (try have hX := hX.nx hbp); (try have hE := hE.nx hbp); (try have ho1 := ho1.nx hbp); (try have ho2 := ho2.nx hbp); have hNow := hNow.nxt hbp; (with_reducible refine step_at hNow ?_); refine step_applit _ (by rfl) _ _ (by rfl) _ hE (by rfl) _ _ _ _ (hs0.ext (hW.trans (hNow.mono hW.size))) (by rfl) hl2 ?_; intro A1 c1 wa ho1 sgho1 hb; have zho1 := hb.size; have hNow := hNow.nxt hb; (try have hA := hA.nx hb); (try have hX := hX.nx hb); (try have hE := hE.nx hb); (try have ho2 := ho2.nx hb); (try obtain ⟨⟨r0, r1, r2⟩, rf0, rf1, rf2⟩ := id hX.all3))
          | (have hE := Own.litAt hNow; have hbp := below_at hNow (.cells #[] 3); have zhE := hbp.size; have yhE := lit_lt hNow; (try simp only [World.size_alloc] at hE); (try have hA := hA.nx hbp); (try have hX := hX.nx hbp); (try have ho1 := ho1.nx hbp); (try have ho2 := ho2.nx hbp); have hNow := hNow.nxt hbp; have hbp := below_drewAt hNow; have zdr := hbp.size; (try have hA := hA.nx hbp); (try have hX := hX.nx hbp); (try have hE := hE.nx hbp); (try have ho1 := ho1.nx hbp); (try have ho2 := ho2.nx hbp); have hNow := hNow.nxt hbp; (with_reducible refine step_at hNow ?_); refine step_applit _ (by rfl) _ _ (by rfl) _ hE (by rfl) _ _ _ _ (hs0.ext (hW.trans (hNow.mono hW.size))) (by rfl) hl2 ?_; intro A1 c1 wa ho1 sgho1 hb; have zho1 := hb.size; have hNow := hNow.nxt hb; (try have hA := hA.nx hb); (try have hX := hX.nx hb); (try have hE := hE.nx hb); (try have ho2 := ho2.nx hb); (try obtain ⟨⟨r0, r1, r2⟩, rf0, rf1, rf2⟩ := id hX.all3))
          | (have hX := Blk.newAt hNow 28 #[.int .i64 0, .slice none 0 0, .slice none 0 0]; have hbp := below_at hNow (.cells #[.int .i64 0, .slice none 0 0, .slice none 0 0] 28); have zhX := hbp.size; have yhX := hX.lt; (try simp only [World.size_alloc] at hX); (try have hA := hA.nx hbp); (try have hE := hE.nx hbp); (try have ho1 := ho1.nx hbp); (try have ho2 := ho2.nx hbp); have hNow := hNow.nxt hbp; have hE := Own.litAt hNow; have hbp := below_at hNow (.cells #[] 3); have zhE := hbp.size; have yhE := lit_lt hNow; (try simp only [World.size_alloc] at hE); (try have hA := hA.nx hbp); (try have hX := hX.nx hbp); (try have ho1 := ho1.nx hbp); (try have ho2 := ho2.nx hbp); have hNow := hNow.nxt hbp; have hbp := below_drewAt hNow; have zdr := hbp.size; (try have hA := hA.nx hbp); (try have hX := hX.nx hbp); (try have hE := hE.nx hbp); (try have ho1 := ho1.nx hbp); (try have ho2 := ho2.nx hbp); have hNow := hNow.nxt hbp; (with_reducible refine step_at hNow ?_); refine step_applit _ (by rfl) _ _ (by rfl) _ hE (by rfl) _ _ _ _ (hs0.ext (hW.trans (hNow.mono hW.size))) (by rfl) hl2 ?_; intro A1 c1 wa ho1 sgho1 hb; have zho1 := hb.size; have hNow := hNow.nxt hb; (try have hA := hA.nx hb); (try have hX := hX.nx hb); (try have hE := hE.nx hb); (try have ho2 := ho2.nx hb); (try obtain ⟨⟨r0, r1, r2⟩, rf0, rf1, rf2⟩ := id hX.all3))
          | (have hE := Own.litAt hNow; have hbp := below_at hNow (.cells #[] 3); have zhE := hbp.size; have yhE := lit_lt hNow; (try simp only [World.size_alloc] at hE); (try have hA := hA.nx hbp); (try have hX := hX.nx hbp); (try have ho1 := ho1.nx hbp); (try have ho2 := ho2.nx hbp); have hNow := hNow.nxt hbp; have hX := Blk.newAt hNow 28 #[.int .i64 0, .slice none 0 0, .slice none 0 0]; have hbp := below_at hNow (.cells #[.int .i64 0, .slice none 0 0, .slice none 0 0] 28); have zhX := hbp.size; have yhX := hX.lt; (try simp only [World.size_alloc] at hX); (try have hA := hA.nx hbp); (try have hE := hE.nx hbp); (try have ho1 := ho1.nx hbp); (try have ho2 := ho2.nx hbp); have hNow := hNow.nxt hbp; have hbp := below_drewAt hNow; have zdr := hbp.size; (try have hA := hA.nx hbp); (try have hX := hX.nx hbp); (try have hE := hE.nx hbp); (try have ho1 := ho1.nx hbp); (try have ho2 := ho2.nx hbp); have hNow := hNow.nxt hbp; (with_reducible refine step_at hNow ?_); refine step_applit _ (by rfl) _ _ (by rfl) _ hE (by rfl) _ _ _ _ (hs0.ext (hW.trans (hNow.mono hW.size))) (by rfl) hl2 ?_; intro A1 c1 wa ho1 sgho1 hb; have zho1 := hb.size; have hNow := hNow.nxt hb; (try have hA := hA.nx hb); (try have hX := hX.nx hb); (try have hE := hE.nx hb); (try have ho2 := ho2.nx hb); (try obtain ⟨⟨r0, r1, r2⟩, rf0, rf1, rf2⟩ := id hX.all3))
          | ((with_reducible refine upon_mk hNow shape.length hl2 ?_); intro g2 wm ho2 hgg2 hgg2' hb; have zho2 := hb.size; have hNow := hNow.nxt hb; (try have hA := hA.nx hb); (try have hX := hX.nx hb); (try have hE := hE.nx hb); (try have ho1 := ho1.nx hb); (try obtain ⟨⟨r0, r1, r2⟩, rf0, rf1, rf2⟩ := id hX.all3))
          | (have hX := Blk.newAt hNow 28 #[.int .i64 0, .slice none 0 0, .slice none 0 0]; have hbp := below_at hNow (.cells #[.int .i64 0, .slice none 0 0, .slice none 0 0] 28); have zhX := hbp.size; have yhX := hX.lt; (try simp only [World.size_alloc] at hX); (try have hA := hA.nx hbp); (try have hE := hE.nx hbp); (try have ho1 := ho1.nx hbp); (try have ho2 := ho2.nx hbp); have hNow := hNow.nxt hbp; (with_reducible refine upon_mk hNow shape.length hl2 ?_); intro g2 wm ho2 hgg2 hgg2' hb; have zho2 := hb.size; have hNow := hNow.nxt hb; (try have hA := hA.nx hb); (try have hX := hX.nx hb); (try have hE := hE.nx hb); (try have ho1 := ho1.nx hb); (try obtain ⟨⟨r0, r1, r2⟩, rf0, rf1, rf2⟩ := id hX.all3))
          | (have hE := Own.litAt hNow; have hbp := below_at hNow (.cells #[] 3); have zhE := hbp.size; have yhE := lit_lt hNow; (try simp only [World.size_alloc] at hE); (try have hA := hA.nx hbp); (try have hX := hX.nx hbp); (try have ho1 := ho1.nx hbp); (try have ho2 := ho2.nx hbp); have hNow := hNow.nxt hbp; (with_reducible refine upon_mk hNow shape.length hl2 ?_); intro g2 wm ho2 hgg2 hgg2' hb; have zho2 := hb.size; have hNow := hNow.nxt hb; (try have hA := hA.nx hb); (try have hX := hX.nx hb); (try have hE := hE.nx hb); (try have ho1 := ho1.nx hb); (try obtain ⟨⟨r0, r1, r2⟩, rf0, rf1, rf2⟩ := id hX.all3))
          | (have hX := Blk.newAt hNow 28 #[.int .i64 0, .slice none 0 0, .slice none 0 0]; have hbp := below_at hNow (.cells #[.int .i64 0, .slice none 0 0, .slice none 0 0] 28); have zhX := hbp.size; have yhX := hX.lt; (try simp only [World.size_alloc] at hX); (try have hA := hA.nx hbp); (try have hE := hE.nx hbp); (try have ho1 := ho1.nx hbp); (try have ho2 := ho2.nx hbp); have hNow := hNow.nxt hbp; have hE := Own.litAt hNow; have hbp := below_at hNow (.cells #[] 3); have zhE := hbp.size; have yhE := lit_lt hNow; (try simp only [World.size_alloc] at hE); (try have hA := hA.nx hbp); (try have hX := hX.nx hbp); (try have ho1 := ho1.nx hbp); (try have ho2 := ho2.nx hbp); have hNow := hNow.nxt hbp; (with_reducible refine upon_mk hNow shape.length hl2 ?_); intro g2 wm ho2 hgg2 hgg2' hb; have zho2 := hb.size; have hNow := hNow.nxt hb; (try have hA := hA.nx hb); (try have hX := hX.nx hb); (try have hE := hE.nx hb); (try have ho1 := ho1.nx hb); (try obtain ⟨⟨r0, r1, r2⟩, rf0, rf1, rf2⟩ := id hX.all3))
          | (have hE := Own.litAt hNow; have hbp := below_at hNow (.cells #[] 3); have zhE := hbp.size; have yhE := lit_lt hNow; (try simp only [World.size_alloc] at hE); (try have hA := hA.nx hbp); (try have hX := hX.nx hbp); (try have ho1 := ho1.nx hbp); (try have ho2 := ho2.nx hbp); have hNow := hNow.nxt hbp; have hX := Blk.newAt hNow 28 #[.int .i64 0, .slice none 0 0, .slice none 0 0]; have hbp := below_at hNow (.cells #[.int .i64 0, .slice none 0 0, .slice none 0 0] 28); have zhX := hbp.size; have yhX := hX.lt; (try simp only [World.size_alloc] at hX); (try have hA := hA.nx hbp); (try have hE := hE.nx hbp); (try have ho1 := ho1.nx hbp); (try have ho2 := ho2.nx hbp); have hNow := hNow.nxt hbp; (with_reducible refine upon_mk hNow shape.length hl2 ?_); intro g2 wm ho2 hgg2 hgg2' hb; have zho2 := hb.size; have hNow := hNow.nxt hb; (try have hA := hA.nx hb); (try have hX := hX.nx hb); (try have hE := hE.nx hb); (try have ho1 := ho1.nx hb); (try obtain ⟨⟨r0, r1, r2⟩, rf0, rf1, rf2⟩ := id hX.all3))
          | (have hbp := below_drewAt hNow; have zdr := hbp.size; (try have hA := hA.nx hbp); (try have hX := hX.nx hbp); (try have hE := hE.nx hbp); (try have ho1 := ho1.nx hbp); (try have ho2 := ho2.nx hbp); have hNow := hNow.nxt hbp; (with_reducible refine upon_mk hNow shape.length hl2 ?_); intro g2 wm ho2 hgg2 hgg2' hb; have zho2 := hb.size; have hNow := hNow.nxt hb; (try have hA := hA.nx hb); (try have hX := hX.nx hb); (try have hE := hE.nx hb); (try have ho1 := ho1.nx hb); (try obtain ⟨⟨r0, r1, r2⟩, rf0, rf1, rf2⟩ := id hX.all3))
          | (have hX := Blk.newAt hNow 28 #[.int .i64 0, .slice none 0 0, .slice none 0 0]; have hbp := below_at hNow (.cells #[.int .i64 0, .slice none 0 0, .slice none 0 0] 28); have zhX := hbp.size; have yhX := hX.lt; (try simp only [World.size_alloc] at hX); (try have hA := hA.nx hbp); (try have hE := hE.nx hbp); (try have ho1 := ho1.nx hbp); (try have ho2 := ho2.nx hbp); have hNow := hNow.nxt hbp; have hbp := below_drewAt hNow; have zdr := hbp.size; (try have hA := hA.nx hbp); (try have hX := hX.nx hbp); (try have hE := hE.nx hbp); (try have ho1 := ho1.nx hbp); (try have ho2 := ho2.nx hbp); have hNow := hNow.nxt hbp; (with_reducible refine upon_mk hNow shape.length hl2 ?_); intro g2 wm ho2 hgg2 hgg2' hb; have zho2 := hb.size; have hNow := hNow.nxt hb; (try have hA := hA.nx hb); (try have hX := hX.nx hb); (try have hE := hE.nx hb); (try have ho1 := ho1.nx hb); (try obtain ⟨⟨r0, r1, r2⟩, rf0, rf1, rf2⟩ := id hX.all3))
          | (have hE := Own.litAt hNow; have hbp := below_at hNow (.cells #[] 3); have zhE := hbp.size; have yhE := lit_lt hNow; (try simp only [World.size_alloc] at hE); (try have hA := hA.nx hbp); (try have hX := hX.nx hbp); (try have ho1 := ho1.nx hbp); (try have ho2 := ho2.nx hbp); have hNow := hNow.nxt hbp; have hbp := below_drewAt hNow; have zdr := hbp.size; (try have hA := hA.nx hbp); (try have hX := hX.nx hbp); (try have hE := hE.nx hbp); (try have ho1 := ho1.nx hbp); (try have ho2 := ho2.nx hbp); have hNow := hNow.nxt hbp; (with_reducible refine upon_mk hNow shape.length hl2 ?_); intro g2 wm ho2 hgg2 hgg2' hb; have zho2 := hb.size; have hNow := hNow.nxt hb; (try have hA := hA.nx hb); (try have hX := hX.nx hb); (try have hE := hE.nx hb); (try have ho1 := ho1.nx hb); (try obtain ⟨⟨r0, r1, r2⟩, rf0, rf1, rf2⟩ := id hX.all3))
          | (have hX := Blk.newAt hNow 28 #[.int .i64 0, .slice none 0 0, .slice none 0 0]; have hbp := below_at hNow (.cells #[.int .i64 0, .slice none 0 0, .slice none 0 0] 28); have zhX := hbp.size; have yhX := hX.lt; (try simp only [World.size_alloc] at hX); (try have hA := hA.nx hbp); (try have hE := hE.nx hbp); (try have ho1 := ho1.nx hbp); (try have ho2 := ho2.nx hbp); have hNow := hNow.nxt hbp; have hE := Own.litAt hNow; have hbp := below_at hNow (.cells #[] 3); have zhE := hbp.size; have yhE := lit_lt hNow; (try simp only [World.size_alloc] at hE); (try have hA := hA.nx hbp); (try have hX := hX.nx hbp); (try have ho1 := ho1.nx hbp); (try have ho2 := ho2.nx hbp); have hNow := hNow.nxt hbp; have hbp := below_drewAt hNow; have zdr := hbp.size; (try have hA := hA.nx hbp); (try have hX := hX.nx hbp); (try have hE := hE.nx hbp); (try have ho1 := ho1.nx hbp); (try have ho2 := ho2.nx hbp); have hNow := hNow.nxt hbp; (with_reducible refine upon_mk hNow shape.length hl2 ?_); intro g2 wm ho2 hgg2 hgg2' hb; have zho2 := hb.size; have hNow := hNow.nxt hb; (try have hA := hA.nx hb); (try have hX := hX.nx hb); (try have hE := hE.nx hb); (try have ho1 := ho1.nx hb); (try obtain ⟨⟨r0, r1, r2⟩, rf0, rf1, rf2⟩ := id hX.all3))
          | (have hE := Own.litAt hNow; have hbp := below_at hNow (.cells #[] 3); have zhE := hbp.size; have yhE := lit_lt hNow; (try simp only [World.size_alloc] at hE); (try have hA := hA.nx hbp); (try have hX := hX.nx hbp); (try have ho1 := ho1.nx hbp); (try have ho2 := ho2.nx hbp); have hNow := hNow.nxt hbp; have hX := Blk.newAt hNow 28 #[.int .i64 0, .slice none 0 0, .slice none 0 0]; have hbp := below_at hNow (.cells #[.int .i64 0, .slice none 0 0, .slice none 0 0] 28); have zhX := hbp.size; have yhX := hX.lt; (try simp only [World.size_alloc] at hX); (try have hA := hA.nx hbp); (try have hE := hE.nx hbp); (try have ho1 := ho1.nx hbp); (try have ho2 := ho2.nx hbp); have hNow := hNow.nxt hbp; have hbp := below_drewAt hNow; have zdr := hbp.size; (try have hA := hA.nx hbp); (try have hX := hX.nx hbp); (try have hE := hE.nx hbp); (try have ho1 := ho1.nx hbp); (try have ho2 := ho2.nx hbp); have hNow := hNow.nxt hbp; (with_reducible refine upon_mk hNow shape.length hl2 ?_); intro g2 wm ho2 hgg2 hgg2' hb; have zho2 := hb.size; have hNow := hNow.nxt hb; (try have hA := hA.nx hb); (try have hX := hX.nx hb); (try have hE := hE.nx hb); (try have ho1 := ho1.nx hb); (try obtain ⟨⟨r0, r1, r2⟩, rf0, rf1, rf2⟩ := id hX.all3)))
      all_goals go_wp2_with fail
      all_goals go_meet
      all_goals first
        | exact built_last _ hNow ho1 (by omega) ho2 (by omega) (fun k hk => by have := sgho1 k hk; omega)
        | exact built_early _ hX hNow ho1 (by omega) ho2 (by omega) (by omega) (by omega) (fun k hk => by have := sgho1 k hk; constructor <;> omega)
    case rest =>
      obtain ⟨g, A1, c1, g2, rfl, hN, hU⟩ := hcut
      have hA1 := hA.ext hU hA.lt
      have hR1 := hR.ext hU hR.lt
      have hz1 := hU.size
      have hD1 := hW.trans (hU.mono hW.size)
      have hs1 := hs0.ext hD1
      have hgn := hN.n
      clear q0 q1 q2
      by_cases c0 : prodW shape = 0
      · have HC0 := hid c0
        have HQ := hid (show okReL V shape = true by simp [okReL, okTryL, c0, ← HC1.out, reV_empty_ok hS c0])
        have HR := hid (show reGood V shape = ⟨0, shape, zerosL shape.length⟩ by unfold reGood; rw [HQ.out]; simp [reV, c0])
        have HT := hid (show tidyL ⟨V.base, shape, zerosL shape.length⟩ = ⟨0, shape, zerosL shape.length⟩ by simp [tidyL, c0])
        clear c0
        obtain ⟨⟨x0, x1, x2⟩, xf0, xf1, xf2⟩ := id hN.box.all3
        have hl6 : shape.length ≤ 1000000 := by omega
        have hsep : Sep (.slice A1 shape.length c1) (.slice (some ⟨g2, 0, none⟩) (zerosL shape.length).length (zerosL shape.length).length) := fun k h1 h2 => by cases h2; exact (hN.sx g2 h1).2 rfl
        go_wp2_with fail
        refine (countOf_any _ shape _ hs1).mono ?_; rintro e w' ⟨rfl, rfl⟩
        rw [HC0.out]
        go_wp2_with fail
        refine (cleared_any _ _ ⟨V.base, shape, zerosL shape.length⟩ W2.heap.size _ hN.s hN.t hsep hz1 hl6).mono ?_; rintro e w4 ⟨s4, t4, rfl, ho4, ho5, hsep4, hb4⟩
        rw [HT.out] at ho4 ho5
        rw [HT.out]
        obtain ⟨⟨r0, r1, r2⟩, rf0, rf1, rf2⟩ := (hR1.nx hb4).all3
        obtain ⟨A4, c4, e4⟩ := ho4.form
        obtain ⟨A5, c5, e5⟩ := ho5.form
        subst e4 e5
        have hD4 := hD1.nx hb4 hD1.size
        go_wp2
        refine bodyPost_ret (v := .tuple #[.agg #[.int .i64 0, .slice A4 shape.length c4, .slice A5 (zerosL shape.length).length c5], .bool true]) (by simp [results, Try.results85, go_sem, r0, r1, r2]) rfl ?_
        rw [HQ.out, HR.out]
        exact ⟨_, _, rfl, (own3b ho4 (by omega) _ _ _).mono (by omega), (own3b ho5 (by omega) _ _ _).mono (by omega), hsep4, below3 hD4 (by omega) _ _ _⟩
      · have hc0 : (prodW shape == 0) = false := by simpa using c0
        have HC0 := hid c0
        clear c0
        obtain ⟨⟨q0, q1, q2⟩, -⟩ := id hA1.all3
        go_wp2_with fail
        refine (countOf_any _ shape _ hs1).mono ?_; rintro e w' ⟨rfl, rfl⟩
        go_wp2_with fail
        refine (offsetsOf_any _ V _ (hv0.ext hD1) (isViewL_and hV).1 (isViewL_and hV).2.1).mono ?_; rintro e w4 ⟨rv, rfl, hol, hb4⟩
        have HF := hid (fun k hk h1 => re_facts hV hS HC1.out HC0.out k hk h1)
        have hz4 := hb4.size
        have hD4 := hD1.trans (hb4.mono hD1.size)
        have hN4 : NewView W2.heap.size w4 g V.base A1 c1 g2 shape (zerosL shape.length) := ⟨hN.box.nx hb4, hN.s.nx hb4, hN.t.nx hb4, hN.n, hN.m, hN.ne, hN.sx⟩
        have hR4 := hR1.nx hb4
        have hsl := hol.seg
        have hg3 := hN.box.lt
        have hg23 := (hN.t.lt g2 rfl).2
        obtain ⟨Al, cl, el⟩ := hol.form
        subst el
        have hcl : cl ≤ 9223372036854775807 := by obtain ⟨_, _, e, _, h, _⟩ := hol.ints; simp only [Value.slice.injEq] at e; obtain ⟨-, -, rfl⟩ := e; unfold maxLen at h; omega
        have hlb : (offs V).length ≤ 1000 := by have := shape_prod (isViewL_and hV).1; rw [offs_length]; omega
        have hol := hol.mono (B' := W2.heap.size) hz1
        clear q0 q1 q2 hN hA1 hR1 hs1 hv0 hb4
        generalize hL : offs V = L at *
        go_wp2
        go_loopw [35] (fun i wr => ∃ (k : Nat) (ys : List Int), k ≤ shape.length ∧ i = .int .i64 k ∧ Hid (ReRel shape L k ys) ∧ NewView W2.heap.size wr g V.base A1 c1 g2 shape ys ∧ Own wr W2.heap.size (.slice Al L.length cl) L ∧ Below w.heap.size w wr ∧ Blk wr (w.heap.size + 1) 28 #[.int .i64 0, .slice none 0 0, .slice none 0 0] ∧ Hid (w4.heap.size ≤ wr.heap.size)) (fun i _ => shape.length - (intOf i).toNat)
        case atStart => exact ⟨0, _, Nat.zero_le _, rfl, hid (ReRel.start _ _), hN4, hol, hD4, hR4, hid (Nat.le_refl _)⟩
        case round =>
          obtain ⟨k, ys, hk, rfl, hys, hNr, hLr, hb, hRr, hzr⟩ := hrel
          have hzr1 := hzr.out
          have hgne := hNr.ne
          by_cases hlt : k < shape.length
          · have HYL := hid (hys.out.len hk)
            have hyk : k < ys.length := by have := HYL.out; omega
            obtain ⟨b0, off0, rfl, hltb, hc⟩ := hr0 (by omega)
            have hx := (hb.cell (p := ⟨b0, off0 + k, none⟩) hltb).trans (hc k shape[k] (by simp [hlt]))
            clear hr0 hc
            by_cases h1 : 1 < shape[k]
            · obtain ⟨m, -, hm1, hml, hz0, hre, hp1, hp2, hp3, hp4⟩ := HF.out k hlt h1
              have HM := hid hm1
              have HS := hid (hys.out.step hlt)
              have HRE := hid hre
              clear hm1 hre
              obtain ⟨gl, capl, el, hgl1, hgl2⟩ := hLr.row (by omega)
              simp only [Value.slice.injEq, true_and] at el
              obtain ⟨rfl, rfl⟩ := el
              have hgl3 := hsl gl rfl
              have hd6 := hb.drew
              have hI := hs0.ext hd6
              have hq0 : wr.drew.cell? ⟨g, 2, none⟩ = some (.slice (some ⟨g2, 0, none⟩) ys.length ys.length) := hNr.box.cell 2
              have hq1 : wr.drew.cell? ⟨gl, m, none⟩ = some (.int .i64 L[m]) := hLr.cell m hml
              have hq2 : wr.drew.cell? ⟨gl, 0, none⟩ = some (.int .i64 L[0]) := hLr.cell 0 hz0
              have hgl4 : gl ≠ g2 := by omega
              have hgl5 : ∀ q, (Value.slice (some (⟨gl, 0, none⟩ : Addr)) L.length cl).ownBlock = some q → q ≠ (⟨g2, k, none⟩ : Addr).block := fun q hq => by cases hq; exact hgl4
              have hwm : IntKind.i64.wrap (L[m] - L[0]) = L[m] - L[0] := IntWalk.i64_in _ (by omega)
              have hmi : (m : Int) < (L.length : Int) := by omega
              have hki : (k : Int) < (ys.length : Int) := by omega
              have hki2 : (k : Int) < (shape.length : Int) := by omega
              have hB7 := hNr.box.drew7 (Below.refl _ _)
              have hL7 := hLr.drew
              have hy7 := hNr.t.drew.cell k hyk
              have hf7 := hNr.t.drew.free k
              have hKi : IntKind.i64.wrap ((k : Int) + 1) = (k : Int) + 1 := IntWalk.i64_in _ (by omega)
              have hKn : ((k : Int) + 1).toNat = k + 1 := by omega
              have hKp : (0 : Int) ≤ (k : Int) + 1 := by omega
              by_cases hcap : ch = k + 1
              · subst hcap
                have hJ := Ints.dropAll (k := k + 1) hI rfl
                have hJ0 := hJ
                rw [show shape.length - (k + 1) = 0 by omega] at hJ0
                have hk9 : (k : Int) + 1 ≤ (shape.length : Int) := by omega
                have hk8 : k + 1 ≤ shape.length := by omega
                go_wp2_with fail
                go_region_held3 (fun w' => w'.cell? ⟨g, 2, none⟩ = some (.slice (some ⟨g2, 0, none⟩) ys.length ys.length) ∧ w'.cell? ⟨gl, m, none⟩ = some (.int .i64 L[m]) ∧ w'.cell? ⟨gl, 0, none⟩ = some (.int .i64 L[0]))
                  (first | with_reducible exact ⟨hq0, hq1, hq2⟩ | exact ⟨(hB7.far (p := ⟨g2, k, none⟩) hgne _).cell 2, (hL7.off (p := ⟨g2, k, none⟩) hgl5 _).cell m hml, (hL7.off (p := ⟨g2, k, none⟩) hgl5 _).cell 0 hz0⟩)
                  (first
                    | (go_at_call 97; (first | (with_reducible refine (countOf_nat _ (shape.drop (k + 1)) m _ hJ HM.out).mono ?_) | refine (countOf_nat _ (shape.drop (k + 1)) m _ hJ0 HM.out).mono ?_); rintro e w7 ⟨rfl, rfl⟩))
                have hN7 : NewView W2.heap.size (wr.drew.setCell ⟨g2, k, none⟩ (.int .i64 (L[m] - L[0]))) g V.base A1 c1 g2 shape (ys.set k (L[m] - L[0])) :=
                  ⟨by rw [List.length_set]; exact hB7.far (p := ⟨g2, k, none⟩) hgne _, hNr.s.drew.off (fun q hq => (hNr.sx q hq).2) _, by rw [List.length_set]; exact hNr.t.drew.put k _, hgn, hNr.m, hgne, hNr.sx⟩
                have hL8 := hL7.off (p := ⟨g2, k, none⟩) hgl5 (.int .i64 (L[m] - L[0]))
                have hR8 := (hRr.nx (below_drew wr)).far (p := ⟨g2, k, none⟩) (by have := hNr.m; simp; omega) (.int .i64 (L[m] - L[0]))
                have hb8 := hd6.setCell (p := ⟨g2, k, none⟩) (by have := hNr.m; simp; omega) (.int .i64 (L[m] - L[0]))
                have hz8 := hid (show w4.heap.size ≤ (wr.drew.setCell ⟨g2, k, none⟩ (.int .i64 (L[m] - L[0]))).heap.size by simp; omega)
                have HS8 := hid (show ReRel shape L (k + 1) (ys.set k (L[m] - L[0])) by rw [← HRE.out]; exact HS.out)
                clear hB7 hL7 hNr hLr hRr hb hys
                go_wp2
                go_roundw
                case rel => exact ⟨k + 1, _, by omega, by go_num, HS8, hN7, hL8, hb8, hR8, hz8⟩
                case measure => simp [intOf]; omega
              · have hJ := hI.drop (k + 1) (by omega)
                have hch : ¬ ch = k + 1 := hcap
                have hk7 : k + 1 ≤ ch := by omega
                have hk9 : (k : Int) + 1 ≤ (shape.length : Int) := by omega
                have hk8 : k + 1 ≤ shape.length := by omega
                have hJ0 := hJ
                go_wp2_with fail
                go_region_held3 (fun w' => w'.cell? ⟨g, 2, none⟩ = some (.slice (some ⟨g2, 0, none⟩) ys.length ys.length) ∧ w'.cell? ⟨gl, m, none⟩ = some (.int .i64 L[m]) ∧ w'.cell? ⟨gl, 0, none⟩ = some (.int .i64 L[0]))
                  (first | with_reducible exact ⟨hq0, hq1, hq2⟩ | exact ⟨(hB7.far (p := ⟨g2, k, none⟩) hgne _).cell 2, (hL7.off (p := ⟨g2, k, none⟩) hgl5 _).cell m hml, (hL7.off (p := ⟨g2, k, none⟩) hgl5 _).cell 0 hz0⟩)
                  (first
                    | (go_at_call 97; (first | (with_reducible refine (countOf_nat _ (shape.drop (k + 1)) m _ hJ HM.out).mono ?_) | refine (countOf_nat _ (shape.drop (k + 1)) m _ hJ0 HM.out).mono ?_); rintro e w7 ⟨rfl, rfl⟩))
                have hN7 : NewView W2.heap.size (wr.drew.setCell ⟨g2, k, none⟩ (.int .i64 (L[m] - L[0]))) g V.base A1 c1 g2 shape (ys.set k (L[m] - L[0])) :=
                  ⟨by rw [List.length_set]; exact hB7.far (p := ⟨g2, k, none⟩) hgne _, hNr.s.drew.off (fun q hq => (hNr.sx q hq).2) _, by rw [List.length_set]; exact hNr.t.drew.put k _, hgn, hNr.m, hgne, hNr.sx⟩
                have hL8 := hL7.off (p := ⟨g2, k, none⟩) hgl5 (.int .i64 (L[m] - L[0]))
                have hR8 := (hRr.nx (below_drew wr)).far (p := ⟨g2, k, none⟩) (by have := hNr.m; simp; omega) (.int .i64 (L[m] - L[0]))
                have hb8 := hd6.setCell (p := ⟨g2, k, none⟩) (by have := hNr.m; simp; omega) (.int .i64 (L[m] - L[0]))
                have hz8 := hid (show w4.heap.size ≤ (wr.drew.setCell ⟨g2, k, none⟩ (.int .i64 (L[m] - L[0]))).heap.size by simp; omega)
                have HS8 := hid (show ReRel shape L (k + 1) (ys.set k (L[m] - L[0])) by rw [← HRE.out]; exact HS.out)
                clear hB7 hL7 hNr hLr hRr hb hys
                go_wp2
                go_roundw
                case rel => exact ⟨k + 1, _, by omega, by go_num, HS8, hN7, hL8, hb8, hR8, hz8⟩
                case measure => simp [intOf]; omega
            · have HS := hid (hys.out.skip hlt h1)
              have hNN := hid hNr
              clear hNr
              go_wp2
              go_roundw
              case rel => exact ⟨k + 1, _, by omega, by go_num, HS, hNN.out, hLr, hb, hRr, hzr⟩
              case measure => simp [intOf]; omega
          · have e : k = shape.length := by omega
            have HE := hid (show ys = reS shape L from (by have h := hys.out; rw [e] at h; exact h.end_))
            have HT := hid (okTry_eq HC1.out HC0.out)
            have HV := hid (reV_eq (V := V) HC0.out)
            rw [hL] at HT HV
            clear e hys
            have hy0 := HE.out
            subst hy0
            have HLN := hid (show shape.length = (reS shape L).length by rw [reS_length])
            have hlt2 : shape.length ≤ k := by omega
            obtain ⟨⟨x0, x1, x2⟩, xf0, xf1, xf2⟩ := id hNr.box.all3
            have hB0 := hNr.box
            have hgx : g ≠ w.heap.size + 1 := by omega
            have hvO : ViewV wr (.agg #[.int .i64 V.base, .slice A1 shape.length c1, .slice (some ⟨g2, 0, none⟩) (reS shape L).length (reS shape L).length]) ⟨V.base, shape, reS shape L⟩ := ⟨_, _, rfl, Own.ints hNr.s, Own.ints hNr.t⟩
            have hNsep : Sep (.slice A1 shape.length c1) (.slice (some ⟨g2, 0, none⟩) (reS shape L).length (reS shape L).length) := fun k h1 h2 => by cases h2; exact (hNr.sx g2 h1).2 rfl
            cases c2 : isViewL ⟨V.base, shape, reS shape L⟩
            · have HQ := hid (show okReL V shape = false by unfold okReL; rw [HV.out, c2]; simp)
              have HR := hid (show reGood V shape = VL.zero by unfold reGood; rw [HQ.out]; rfl)
              have HC2 := hid c2
              clear c2
              go_wp2_with fail
              refine (isView_any _ ⟨V.base, shape, reS shape L⟩ _ hvO).mono ?_; rintro e w7 ⟨rfl, hb7⟩
              rw [HC2.out]
              obtain ⟨⟨r0, r1, r2⟩, rf0, rf1, rf2⟩ := (hRr.nx hb7).all3
              have hD7 := hb.nx hb7 hb.size
              go_wp2
              refine bodyPost_ret (v := .tuple #[.agg #[.int .i64 0, .slice none 0 0, .slice none 0 0], .bool false]) (by simp [results, Try.results85, go_sem, r0, r1, r2]) rfl ?_
              rw [HQ.out, HR.out]
              exact ⟨_, _, rfl, Own.nil _ _, Own.nil _ _, Sep.none_left _, below3 hD7 (by omega) _ _ _⟩
            · have HC2 := hid c2
              have hz9 := hb.size
              cases c3 : eqL (offs ⟨V.base, shape, reS shape L⟩) L
              · have HQ := hid (show okReL V shape = false by unfold okReL; rw [HT.out, c3]; rfl)
                have HR := hid (show reGood V shape = VL.zero by unfold reGood; rw [HQ.out]; rfl)
                have HC3 := hid c3
                clear c2 c3
                go_wp2_with fail
                refine (isView_any _ ⟨V.base, shape, reS shape L⟩ _ hvO).mono ?_; rintro e w7 ⟨rfl, hb7⟩
                rw [HC2.out]
                obtain ⟨⟨x0, x1, x2⟩, xf0, xf1, xf2⟩ := (hB0.nx hb7).all3
                have hD7 := hb.nx hb7 hb.size
                go_wp2_with fail
                refine (offsetsOf_any _ ⟨V.base, shape, reS shape L⟩ _ (hvO.nx hb7) hS HLN.out).mono ?_; rintro e w8 ⟨r8, rfl, ho8, hb8⟩
                have hD8 := hD7.nx hb8 hD7.size
                go_wp2_with fail
                refine (Equal_any _ _ (offs ⟨V.base, shape, reS shape L⟩) L _ ho8.ints (Own.ints ((hLr.nx hb7).nx hb8))).mono ?_; rintro e w9 ⟨rfl, hb9⟩
                rw [HC3.out]
                have hD9 := hD8.nx hb9 hD8.size
                obtain ⟨⟨r0, r1, r2⟩, rf0, rf1, rf2⟩ := (((hRr.nx hb7).nx hb8).nx hb9).all3
                go_wp2
                refine bodyPost_ret (v := .tuple #[.agg #[.int .i64 0, .slice none 0 0, .slice none 0 0], .bool false]) (by simp [results, Try.results85, go_sem, r0, r1, r2]) rfl ?_
                rw [HQ.out, HR.out]
                exact ⟨_, _, rfl, Own.nil _ _, Own.nil _ _, Sep.none_left _, below3 hD9 (by omega) _ _ _⟩
              · have HQ := hid (show okReL V shape = true by unfold okReL; rw [HT.out, c3, HV.out, c2]; rfl)
                have HR := hid (show reGood V shape = ⟨V.base, shape, reS shape L⟩ by unfold reGood; rw [HQ.out, HV.out]; rfl)
                have HC3 := hid c3
                clear c2 c3
                go_wp2_with fail
                refine (isView_any _ ⟨V.base, shape, reS shape L⟩ _ hvO).mono ?_; rintro e w7 ⟨rfl, hb7⟩
                rw [HC2.out]
                obtain ⟨⟨x0, x1, x2⟩, xf0, xf1, xf2⟩ := (hB0.nx hb7).all3
                have hD7 := hb.nx hb7 hb.size
                go_wp2_with fail
                refine (offsetsOf_any _ ⟨V.base, shape, reS shape L⟩ _ (hvO.nx hb7) hS HLN.out).mono ?_; rintro e w8 ⟨r8, rfl, ho8, hb8⟩
                have hD8 := hD7.nx hb8 hD7.size
                go_wp2_with fail
                refine (Equal_any _ _ (offs ⟨V.base, shape, reS shape L⟩) L _ ho8.ints (Own.ints ((hLr.nx hb7).nx hb8))).mono ?_; rintro e w9 ⟨rfl, hb9⟩
                rw [HC3.out]
                have hD9 := hD8.nx hb9 hD8.size
                clear x0 x1 x2 xf0 xf1 xf2
                obtain ⟨⟨r0, r1, r2⟩, rf0, rf1, rf2⟩ := (((hRr.nx hb7).nx hb8).nx hb9).all3
                obtain ⟨⟨x0, x1, x2⟩, xf0, xf1, xf2⟩ := (((hB0.nx hb7).nx hb8).nx hb9).all3
                have hs9 := ((hNr.s.nx hb7).nx hb8).nx hb9
                have ht9 := ((hNr.t.nx hb7).nx hb8).nx hb9
                go_wp2
                refine bodyPost_ret (v := .tuple #[.agg #[.int .i64 V.base, .slice A1 shape.length c1, .slice (some ⟨g2, 0, none⟩) (reS shape L).length (reS shape L).length], .bool true]) (by simp [results, Try.results85, go_sem, r0, r1, r2]) rfl ?_
                rw [HQ.out, HR.out]
                exact ⟨_, _, rfl, (own3b hs9 (by omega) _ _ _).mono (by omega), (own3b ht9 (by omega) _ _ _).mono (by omega), hNsep, below3 hD9 (by omega) _ _ _⟩
  · have hne : (prodW shape != prodW V.shape) = true := by simpa using c1
    have HQ := hid (show okReL V shape = false by simp [okReL, okTryL, c1])
    have HR := hid (show reGood V shape = VL.zero by unfold reGood; rw [HQ.out]; rfl)
    clear c1
    go_enter Try.func85, Try.ntmps85
    go_wp2_with fail
    generalize (w.alloc (.cells #[.int .i64 V.base, sv, tv] 28)).alloc (.cells #[.int .i64 0, .slice none 0 0, .slice none 0 0] 28) = W1 at *
    have hDD := hW.drew
    have hlt1 := hR.lt
    obtain ⟨⟨r0, r1, r2⟩, rf0, rf1, rf2⟩ := id hR.all3
    go_region_held3 (fun w' => w'.cell? ⟨w.heap.size, 1, none⟩ = some sv) (first | with_reducible exact hA.all3.1.2.1 | with_reducible exact (hA.nx (below_drew _)).all3.1.2.1)
      (first
        | (go_at_call 97; (with_reducible refine (countOf_any _ shape _ (hs0.ext hDD)).mono ?_); rintro e w' ⟨rfl, rfl⟩)
        | (go_at_call 97; (with_reducible refine (countOf_any _ V.shape _ (hsv.ext hDD)).mono ?_); rintro e w' ⟨rfl, rfl⟩))
    go_wp2
    refine bodyPost_ret (v := .tuple #[.agg #[.int .i64 0, .slice none 0 0, .slice none 0 0], .bool false]) (by simp [results, Try.results85, go_sem, r0, r1, r2]) rfl ?_
    rw [HQ.out, HR.out]
    exact ⟨_, _, rfl, Own.nil _ _, Own.nil _ _, Sep.none_left _, (below3 hW (by omega) _ _ _).drew⟩

end Go.Proofs.Ytmglcapjccbknaa
