/- Contracts: a view without cells is made tidy (the reference). No conditions. (printed by mkv8.py) -/
import Derived.Test.YtldblcolnjkcaaaV1
import Derived.Test.YtldblcolnjkcaaaS1
import Derived.Outline
import Derived.Deep.RegionHeld3
namespace Go.Proofs.Ytldblcolnjkcaaa
open Go.RowKit

set_option maxRecDepth 100000 in
set_option maxHeartbeats 800000 in
theorem stidy_any (sv tv : Value) (V : VL) (B : Nat) (w : World) (hs : Own w B sv V.shape) (ht : Own w B tv V.strides) (hsep : Sep sv tv) (hB : B ≤ w.heap.size) (hl : V.shape.length ≤ 1000000000000) :
    Calls Try.prog 184 #[.agg #[.int .i64 V.base, sv, tv]] w (RetViewO w B (tidyL V)) := by
  have hA := (Blk.new w 43 #[.int .i64 V.base, sv, tv]).alloc (.cells #[.int .i64 0, .slice none 0 0, .slice none 0 0] 43)
  have hR := Blk.new (w.alloc (.cells #[.int .i64 V.base, sv, tv] 43)) 43 #[.int .i64 0, .slice none 0 0, .slice none 0 0]
  have hW : Below w.heap.size w ((w.alloc (.cells #[.int .i64 V.base, sv, tv] 43)).alloc (.cells #[.int .i64 0, .slice none 0 0, .slice none 0 0] 43)) := ((Below.refl _ _).alloc (Nat.le_refl _) _).alloc (by simp) _
  simp only [World.size_alloc] at hR
  obtain ⟨As, cs, es⟩ := hs.form
  subst es
  obtain ⟨At, ct, et⟩ := ht.form
  subst et
  have hs1 := hs.ext hW
  have ht1 := ht.ext hW
  have hsg := hs.seg
  have htg := ht.seg
  have hn1 := hR.lt
  by_cases c : prodW V.shape = 0
  · have HQ := hid (show tidyL V = ⟨0, V.shape, zerosL V.shape.length⟩ by simp [tidyL, c])
    have HC := hid c
    clear c
    go_enter Try.func184, Try.ntmps184
    go_wp2_with fail
    generalize (w.alloc (.cells #[.int .i64 V.base, .slice As V.shape.length cs, .slice At V.strides.length ct] 43)).alloc (.cells #[.int .i64 0, .slice none 0 0, .slice none 0 0] 43) = W1 at *
    obtain ⟨⟨q0, q1, q2⟩, -⟩ := id hA.all3
    go_wp2_with fail
    refine (count_any _ V.shape _ hs1.ints).mono ?_; rintro e w' ⟨rfl, rfl⟩
    rw [HC.out]
    go_wp2_with fail
    clear q0 q1 q2
    have hNow := Below.refl W1.heap.size W1
    go_region_held3 (fun w' => w'.cell? ⟨w.heap.size, 1, none⟩ = some (.slice As V.shape.length cs))
    (first | with_reducible exact hA.all3.1.2.1 | with_reducible exact (hA.nx (below_drew _)).all3.1.2.1 | exact (hA.far3 (by omega) _ _ _).all3.1.2.1)
    (first
      | ((with_reducible refine upon_mk hNow V.shape.length hl ?_); intro g2 wm ho2 hg1 hg2 hb; have zm := hb.size; have hNow := hNow.nxt hb; (try have hA := hA.nx hb); (try have hR := hR.nx hb); (try have hs1 := hs1.nx hb); (try obtain ⟨⟨r0, r1, r2⟩, rf0, rf1, rf2⟩ := id hR.all3))
      | (have hbp := below_drewAt hNow; have zdr := hbp.size; (try have hA := hA.nx hbp); (try have hR := hR.nx hbp); (try have hs1 := hs1.nx hbp); have hNow := hNow.nxt hbp; (with_reducible refine upon_mk hNow V.shape.length hl ?_); intro g2 wm ho2 hg1 hg2 hb; have zm := hb.size; have hNow := hNow.nxt hb; (try have hA := hA.nx hb); (try have hR := hR.nx hb); (try have hs1 := hs1.nx hb); (try obtain ⟨⟨r0, r1, r2⟩, rf0, rf1, rf2⟩ := id hR.all3)))
    all_goals go_wp2_with fail
    all_goals
      have hD := hW.trans (hNow.mono hW.size)
      refine bodyPost_ret (v := .agg #[.int .i64 0, .slice As V.shape.length cs, .slice (some ⟨g2, 0, none⟩) V.shape.length V.shape.length]) (by simp [results, Try.results184, go_sem, r0, r1, r2]) rfl ?_
      rw [HQ.out]
      have hsg2 := ho2.seg
      have ho3 : Own wm B (.slice (some ⟨g2, 0, none⟩) V.shape.length V.shape.length) (zerosL V.shape.length) := ho2.mono (by omega)
      exact ⟨_, _, rfl, own3 hs1 hsg (by omega) _ _ _, own3 ho3 hsg2 (by omega) _ _ _, hsg.sep hsg2 (by omega), below3 hD (by omega) _ _ _⟩
  · have HQ := hid (show tidyL V = V by simp [tidyL, c])
    have hc0 : (prodW V.shape == 0) = false := by simpa using c
    clear c
    go_enter Try.func184, Try.ntmps184
    go_wp2_with fail
    generalize (w.alloc (.cells #[.int .i64 V.base, .slice As V.shape.length cs, .slice At V.strides.length ct] 43)).alloc (.cells #[.int .i64 0, .slice none 0 0, .slice none 0 0] 43) = W1 at *
    obtain ⟨⟨q0, q1, q2⟩, qf0, qf1, qf2⟩ := id hA.all3
    obtain ⟨⟨r0, r1, r2⟩, rf0, rf1, rf2⟩ := id hR.all3
    go_wp2_with fail
    refine (count_any _ V.shape _ hs1.ints).mono ?_; rintro e w' ⟨rfl, rfl⟩
    go_wp2
    refine bodyPost_ret (v := .agg #[.int .i64 V.base, .slice As V.shape.length cs, .slice At V.strides.length ct]) (by simp [results, Try.results184, go_sem, r0, r1, r2]) rfl ?_
    rw [HQ.out]
    exact ⟨_, _, rfl, own3 hs1 hsg (by omega) _ _ _, own3 ht1 htg (by omega) _ _ _, hsep, below3 hW (by omega) _ _ _⟩

end Go.Proofs.Ytldblcolnjkcaaa
