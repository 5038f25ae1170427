/- The walks of exact laws: each answers true at every input and changes nothing that was there. No conditions. (printed by genlaw.py) -/
import Derived.Test.YtmglcapjccbknaaK12
import Derived.Test.YtmglcapjccbknaaL2
import Derived.Deep.RegionHeld3
namespace Go.Proofs.Ytmglcapjccbknaa
open Go.RowKit

set_option maxRecDepth 100000 in
set_option maxHeartbeats 3200000 in
theorem FnExactCopyBackward_walk (vM : Value) (M : List Int) (vT : Value) (T : VL) (vF : Value) (F : VL) (w : World) (hvM : Ints w vM M) (hvT : ViewV w vT T) (hvF : ViewV w vF F) :
    Calls Try.prog 10 #[vM, vT, vF] w fun e w' => e = .returned (.bool true) ∧ Below w.heap.size w w' := by
  have hv0T := hvT
  obtain ⟨sT, tT, rfl, -, -⟩ := hvT
  have hv0F := hvF
  obtain ⟨sF, tF, rfl, -, -⟩ := hvF
  have hW : Below w.heap.size w ((w.alloc (.cells #[.int .i64 T.base, sT, tT] 24)).alloc (.cells #[.int .i64 F.base, sF, tF] 24)) := Below.alloc (Below.alloc (Below.refl w.heap.size w) (by simp <;> omega) (.cells #[.int .i64 T.base, sT, tT] 24)) (by simp <;> omega) (.cells #[.int .i64 F.base, sF, tF] 24)
  have bT_0 : Blk ((w.alloc (.cells #[.int .i64 T.base, sT, tT] 24)).alloc (.cells #[.int .i64 F.base, sF, tF] 24)) (w.heap.size) 24 #[.int .i64 T.base, sT, tT] := ((Blk.new w 24 #[.int .i64 T.base, sT, tT]).alloc _)
  have bF_0 : Blk ((w.alloc (.cells #[.int .i64 T.base, sT, tT] 24)).alloc (.cells #[.int .i64 F.base, sF, tF] 24)) (w.heap.size + 1) 24 #[.int .i64 F.base, sF, tF] := by have := (Blk.new (w.alloc (.cells #[.int .i64 T.base, sT, tT] 24)) 24 #[.int .i64 F.base, sF, tF]); simpa using this
  have hv1M := hvM.ext hW
  have hv1T := hv0T.ext hW
  have hv1F := hv0F.ext hW
  by_cases hlM : 1048576 < M.length
  · obtain ⟨A0, c0, rfl, hk0, hm0, -⟩ := hvM
    unfold maxLen at hm0
    clear hv1M
    go_enter Try.func10, Try.ntmps10
    go_wp2
    go_ret
    exact ⟨rfl, hW⟩
  have hlM : M.length ≤ 1048576 := by omega
  by_cases hsT : 1048576 < T.shape.length + T.strides.length
  · have hzT : 1048576 < T.shape.length + T.strides.length := by omega
    obtain ⟨AM0, cM0, rfl, hkM0, hmM0, -⟩ := hvM
    unfold maxLen at hmM0
    go_enter Try.func10, Try.ntmps10
    go_wp2_with fail
    generalize ((w.alloc (.cells #[.int .i64 T.base, sT, tT] 24)).alloc (.cells #[.int .i64 F.base, sF, tF] 24)) = w0 at *
    have hT0 : Below w0.heap.size w0 w0 := Below.refl _ _
    have zlT : w.heap.size < w0.heap.size := bT_0.lt
    have zlF : w.heap.size + 1 < w0.heap.size := bF_0.lt
    refine (szView_no _ T 1048576 _ (hv1T.ext hT0) hzT (by omega)).mono ?_; rintro e w1 ⟨rfl, hb1⟩
    have z1 : w0.heap.size ≤ w1.heap.size := hb1.size
    have hT1 : Below w0.heap.size w0 w1 := hT0.trans (hb1.mono (by omega))
    go_wp2
    go_ret
    exact ⟨rfl, hW.trans (hT1.mono hW.size)⟩
  by_cases hsF : 1048576 < T.shape.length + T.strides.length + F.shape.length + F.strides.length
  · have hzF : (1048576 - T.shape.length - T.strides.length) < F.shape.length + F.strides.length := by omega
    obtain ⟨AM0, cM0, rfl, hkM0, hmM0, -⟩ := hvM
    unfold maxLen at hmM0
    go_enter Try.func10, Try.ntmps10
    go_wp2_with fail
    generalize ((w.alloc (.cells #[.int .i64 T.base, sT, tT] 24)).alloc (.cells #[.int .i64 F.base, sF, tF] 24)) = w0 at *
    have hT0 : Below w0.heap.size w0 w0 := Below.refl _ _
    have zlT : w.heap.size < w0.heap.size := bT_0.lt
    have zlF : w.heap.size + 1 < w0.heap.size := bF_0.lt
    refine (szView_ok _ T 1048576 _ hv1T (by omega) (by omega)).mono ?_; rintro e w1 ⟨rfl, hb1⟩
    have z1 : w0.heap.size ≤ w1.heap.size := hb1.size
    have hT1 : Below w0.heap.size w0 w1 := hT0.trans (hb1.mono (by omega))
    have bT_1 := (Blk.ext bT_0 hb1 (Blk.lt bT_0))
    obtain ⟨⟨qT_1_0, qT_1_1, qT_1_2⟩, -⟩ := id bT_1.all3
    have bF_1 := (Blk.ext bF_0 hb1 (Blk.lt bF_0))
    obtain ⟨⟨qF_1_0, qF_1_1, qF_1_2⟩, -⟩ := id bF_1.all3
    go_wp2_with fail
    refine (szView_no _ F (1048576 - T.shape.length - T.strides.length) _ (hv1F.ext hT1) hzF (by omega)).mono ?_; rintro e w2 ⟨rfl, hb2⟩
    clear qT_1_0 qT_1_1 qT_1_2 qF_1_0 qF_1_1 qF_1_2
    have z2 : w1.heap.size ≤ w2.heap.size := hb2.size
    have hT2 : Below w0.heap.size w0 w2 := hT1.trans (hb2.mono (by omega))
    go_wp2
    go_ret
    exact ⟨rfl, hW.trans (hT2.mono hW.size)⟩
  have hsz1T : T.shape.length ≤ 1048576 := by omega
  have hsz2T : T.strides.length ≤ 1048576 := by omega
  have hsz1F : F.shape.length ≤ 1048576 := by omega
  have hsz2F : F.strides.length ≤ 1048576 := by omega
  obtain ⟨AM0, cM0, rfl, hkM0, hmM0, -⟩ := id hvM
  unfold maxLen at hmM0
  go_enter Try.func10, Try.ntmps10
  go_wp2_with fail
  generalize ((w.alloc (.cells #[.int .i64 T.base, sT, tT] 24)).alloc (.cells #[.int .i64 F.base, sF, tF] 24)) = w0 at *
  have hT0 : Below w0.heap.size w0 w0 := Below.refl _ _
  have zlT : w.heap.size < w0.heap.size := bT_0.lt
  have zlF : w.heap.size + 1 < w0.heap.size := bF_0.lt
  refine (szView_ok _ T 1048576 _ hv1T (by omega) (by omega)).mono ?_; rintro e w1 ⟨rfl, hb1⟩
  have z1 : w0.heap.size ≤ w1.heap.size := hb1.size
  have hT1 : Below w0.heap.size w0 w1 := hT0.trans (hb1.mono (by omega))
  have bT_1 := (Blk.ext bT_0 hb1 (Blk.lt bT_0))
  obtain ⟨⟨qT_1_0, qT_1_1, qT_1_2⟩, -⟩ := id bT_1.all3
  have bF_1 := (Blk.ext bF_0 hb1 (Blk.lt bF_0))
  obtain ⟨⟨qF_1_0, qF_1_1, qF_1_2⟩, -⟩ := id bF_1.all3
  go_wp2_with fail
  refine (szView_ok _ F (1048576 - T.shape.length - T.strides.length) _ (hv1F.ext hT1) (by omega) (by omega)).mono ?_; rintro e w2 ⟨rfl, hb2⟩
  clear qT_1_0 qT_1_1 qT_1_2 qF_1_0 qF_1_1 qF_1_2
  have z2 : w1.heap.size ≤ w2.heap.size := hb2.size
  have hT2 : Below w0.heap.size w0 w2 := hT1.trans (hb2.mono (by omega))
  have bT_2 := (Blk.ext bT_1 hb2 (Blk.lt bT_1))
  clear bT_1
  obtain ⟨⟨qT_2_0, qT_2_1, qT_2_2⟩, -⟩ := id bT_2.all3
  have bF_2 := (Blk.ext bF_1 hb2 (Blk.lt bF_1))
  clear bF_1
  obtain ⟨⟨qF_2_0, qF_2_1, qF_2_2⟩, -⟩ := id bF_2.all3
  go_wp2_with fail
  have hTd : Below w0.heap.size w0 w2.drew := hT2.drew
  have tokwM : True := trivial
  have tokwT : True := trivial
  have tokwF : True := trivial
  go_region_held3 (fun w' => w'.cell? ⟨w.heap.size, 0, none⟩ = some (.int .i64 T.base) ∧ w'.cell? ⟨w.heap.size, 1, none⟩ = some (sT) ∧ w'.cell? ⟨w.heap.size, 2, none⟩ = some (tT) ∧ w'.cell? ⟨w.heap.size + 1, 0, none⟩ = some (.int .i64 F.base) ∧ w'.cell? ⟨w.heap.size + 1, 1, none⟩ = some (sF) ∧ w'.cell? ⟨w.heap.size + 1, 2, none⟩ = some (tF))
    (first | go_keep | exact hK4 | exact hK5 | exact hK6 | exact hK7)
    (first
      | (go_at_call 17; have _t := tokwM; refine (toIntS_any _ M _ (hv1M.ext hTd) hlM).mono ?_; rintro e w4 ⟨xwM, rfl, howM, hb4⟩; clear tokwM; have hTa4 := bstep hTd hb4 hTd.size; have hkT_4 := (Blk.ext (Blk.ext bT_2 (below_drew w2) (Blk.lt bT_2)) hb4 (Blk.lt (Blk.ext bT_2 (below_drew w2) (Blk.lt bT_2)))); have hkF_4 := (Blk.ext (Blk.ext bF_2 (below_drew w2) (Blk.lt bF_2)) hb4 (Blk.lt (Blk.ext bF_2 (below_drew w2) (Blk.lt bF_2)))); have hK4 := six_cells hkT_4 hkF_4)
      | (go_at_call 18; have _t := tokwT; refine (toView_any _ T _ (hv1T.ext hTa4) hsz1T hsz2T).mono ?_; rintro e w5 ⟨xwTs, xwTt, rfl, howTs, howTt, sepwT, hb5⟩; clear tokwT; have hTa5 := bstep hTa4 hb5 hTa4.size; have hkT_5 := (Blk.ext (Blk.ext (Blk.ext bT_2 (below_drew w2) (Blk.lt bT_2)) hb4 (Blk.lt (Blk.ext bT_2 (below_drew w2) (Blk.lt bT_2)))) hb5 (Blk.lt (Blk.ext (Blk.ext bT_2 (below_drew w2) (Blk.lt bT_2)) hb4 (Blk.lt (Blk.ext bT_2 (below_drew w2) (Blk.lt bT_2)))))); have hkF_5 := (Blk.ext (Blk.ext (Blk.ext bF_2 (below_drew w2) (Blk.lt bF_2)) hb4 (Blk.lt (Blk.ext bF_2 (below_drew w2) (Blk.lt bF_2)))) hb5 (Blk.lt (Blk.ext (Blk.ext bF_2 (below_drew w2) (Blk.lt bF_2)) hb4 (Blk.lt (Blk.ext bF_2 (below_drew w2) (Blk.lt bF_2)))))); have hK5 := six_cells hkT_5 hkF_5)
      | (go_at_call 18; have _t := tokwF; refine (toView_any _ F _ (hv1F.ext hTa5) hsz1F hsz2F).mono ?_; rintro e w6 ⟨xwFs, xwFt, rfl, howFs, howFt, sepwF, hb6⟩; clear tokwF; have hTa6 := bstep hTa5 hb6 hTa5.size; have hkT_6 := (Blk.ext (Blk.ext (Blk.ext (Blk.ext bT_2 (below_drew w2) (Blk.lt bT_2)) hb4 (Blk.lt (Blk.ext bT_2 (below_drew w2) (Blk.lt bT_2)))) hb5 (Blk.lt (Blk.ext (Blk.ext bT_2 (below_drew w2) (Blk.lt bT_2)) hb4 (Blk.lt (Blk.ext bT_2 (below_drew w2) (Blk.lt bT_2)))))) hb6 (Blk.lt (Blk.ext (Blk.ext (Blk.ext bT_2 (below_drew w2) (Blk.lt bT_2)) hb4 (Blk.lt (Blk.ext bT_2 (below_drew w2) (Blk.lt bT_2)))) hb5 (Blk.lt (Blk.ext (Blk.ext bT_2 (below_drew w2) (Blk.lt bT_2)) hb4 (Blk.lt (Blk.ext bT_2 (below_drew w2) (Blk.lt bT_2)))))))); have hkF_6 := (Blk.ext (Blk.ext (Blk.ext (Blk.ext bF_2 (below_drew w2) (Blk.lt bF_2)) hb4 (Blk.lt (Blk.ext bF_2 (below_drew w2) (Blk.lt bF_2)))) hb5 (Blk.lt (Blk.ext (Blk.ext bF_2 (below_drew w2) (Blk.lt bF_2)) hb4 (Blk.lt (Blk.ext bF_2 (below_drew w2) (Blk.lt bF_2)))))) hb6 (Blk.lt (Blk.ext (Blk.ext (Blk.ext bF_2 (below_drew w2) (Blk.lt bF_2)) hb4 (Blk.lt (Blk.ext bF_2 (below_drew w2) (Blk.lt bF_2)))) hb5 (Blk.lt (Blk.ext (Blk.ext bF_2 (below_drew w2) (Blk.lt bF_2)) hb4 (Blk.lt (Blk.ext bF_2 (below_drew w2) (Blk.lt bF_2)))))))); have hK6 := six_cells hkT_6 hkF_6)
      | (go_at_call 37; refine (sCopyBackward_any _ _ _ M T F _ (Own.ints ((howM.ext hb5).ext hb6)) (Own.view (howTs.ext hb6) (howTt.ext hb6)) (Own.view howFs howFt)).mono ?_; rintro e w7 ⟨rw, rfl, howr, hb7⟩; have hkT_7 := (Blk.ext (Blk.ext (Blk.ext (Blk.ext (Blk.ext bT_2 (below_drew w2) (Blk.lt bT_2)) hb4 (Blk.lt (Blk.ext bT_2 (below_drew w2) (Blk.lt bT_2)))) hb5 (Blk.lt (Blk.ext (Blk.ext bT_2 (below_drew w2) (Blk.lt bT_2)) hb4 (Blk.lt (Blk.ext bT_2 (below_drew w2) (Blk.lt bT_2)))))) hb6 (Blk.lt (Blk.ext (Blk.ext (Blk.ext bT_2 (below_drew w2) (Blk.lt bT_2)) hb4 (Blk.lt (Blk.ext bT_2 (below_drew w2) (Blk.lt bT_2)))) hb5 (Blk.lt (Blk.ext (Blk.ext bT_2 (below_drew w2) (Blk.lt bT_2)) hb4 (Blk.lt (Blk.ext bT_2 (below_drew w2) (Blk.lt bT_2)))))))) hb7 (Blk.lt (Blk.ext (Blk.ext (Blk.ext (Blk.ext bT_2 (below_drew w2) (Blk.lt bT_2)) hb4 (Blk.lt (Blk.ext bT_2 (below_drew w2) (Blk.lt bT_2)))) hb5 (Blk.lt (Blk.ext (Blk.ext bT_2 (below_drew w2) (Blk.lt bT_2)) hb4 (Blk.lt (Blk.ext bT_2 (below_drew w2) (Blk.lt bT_2)))))) hb6 (Blk.lt (Blk.ext (Blk.ext (Blk.ext bT_2 (below_drew w2) (Blk.lt bT_2)) hb4 (Blk.lt (Blk.ext bT_2 (below_drew w2) (Blk.lt bT_2)))) hb5 (Blk.lt (Blk.ext (Blk.ext bT_2 (below_drew w2) (Blk.lt bT_2)) hb4 (Blk.lt (Blk.ext bT_2 (below_drew w2) (Blk.lt bT_2)))))))))); have hkF_7 := (Blk.ext (Blk.ext (Blk.ext (Blk.ext (Blk.ext bF_2 (below_drew w2) (Blk.lt bF_2)) hb4 (Blk.lt (Blk.ext bF_2 (below_drew w2) (Blk.lt bF_2)))) hb5 (Blk.lt (Blk.ext (Blk.ext bF_2 (below_drew w2) (Blk.lt bF_2)) hb4 (Blk.lt (Blk.ext bF_2 (below_drew w2) (Blk.lt bF_2)))))) hb6 (Blk.lt (Blk.ext (Blk.ext (Blk.ext bF_2 (below_drew w2) (Blk.lt bF_2)) hb4 (Blk.lt (Blk.ext bF_2 (below_drew w2) (Blk.lt bF_2)))) hb5 (Blk.lt (Blk.ext (Blk.ext bF_2 (below_drew w2) (Blk.lt bF_2)) hb4 (Blk.lt (Blk.ext bF_2 (below_drew w2) (Blk.lt bF_2)))))))) hb7 (Blk.lt (Blk.ext (Blk.ext (Blk.ext (Blk.ext bF_2 (below_drew w2) (Blk.lt bF_2)) hb4 (Blk.lt (Blk.ext bF_2 (below_drew w2) (Blk.lt bF_2)))) hb5 (Blk.lt (Blk.ext (Blk.ext bF_2 (below_drew w2) (Blk.lt bF_2)) hb4 (Blk.lt (Blk.ext bF_2 (below_drew w2) (Blk.lt bF_2)))))) hb6 (Blk.lt (Blk.ext (Blk.ext (Blk.ext bF_2 (below_drew w2) (Blk.lt bF_2)) hb4 (Blk.lt (Blk.ext bF_2 (below_drew w2) (Blk.lt bF_2)))) hb5 (Blk.lt (Blk.ext (Blk.ext bF_2 (below_drew w2) (Blk.lt bF_2)) hb4 (Blk.lt (Blk.ext bF_2 (below_drew w2) (Blk.lt bF_2)))))))))); have hK7 := six_cells hkT_7 hkF_7))
  clear hK4 hK5 hK6 hK7
  clear qT_2_0 qT_2_1 qT_2_2 qF_2_0 qF_2_1 qF_2_2
  have z3 : w2.heap.size ≤ w2.drew.heap.size := Nat.le_refl _
  have hT3 := hTd
  have z4 : w2.drew.heap.size ≤ w4.heap.size := hb4.size
  have hT4 : Below w0.heap.size w0 w4 := hT3.trans (hb4.mono (by omega))
  have z5 : w4.heap.size ≤ w5.heap.size := hb5.size
  have hT5 : Below w0.heap.size w0 w5 := hT4.trans (hb5.mono (by omega))
  have z6 : w5.heap.size ≤ w6.heap.size := hb6.size
  have hT6 : Below w0.heap.size w0 w6 := hT5.trans (hb6.mono (by omega))
  have z7 : w6.heap.size ≤ w7.heap.size := hb7.size
  have hT7 : Below w0.heap.size w0 w7 := hT6.trans (hb7.mono (by omega))
  have bT_7 := (Blk.ext (Blk.ext (Blk.ext (Blk.ext (Blk.ext bT_2 (below_drew w2) (Blk.lt bT_2)) hb4 (Blk.lt (Blk.ext bT_2 (below_drew w2) (Blk.lt bT_2)))) hb5 (Blk.lt (Blk.ext (Blk.ext bT_2 (below_drew w2) (Blk.lt bT_2)) hb4 (Blk.lt (Blk.ext bT_2 (below_drew w2) (Blk.lt bT_2)))))) hb6 (Blk.lt (Blk.ext (Blk.ext (Blk.ext bT_2 (below_drew w2) (Blk.lt bT_2)) hb4 (Blk.lt (Blk.ext bT_2 (below_drew w2) (Blk.lt bT_2)))) hb5 (Blk.lt (Blk.ext (Blk.ext bT_2 (below_drew w2) (Blk.lt bT_2)) hb4 (Blk.lt (Blk.ext bT_2 (below_drew w2) (Blk.lt bT_2)))))))) hb7 (Blk.lt (Blk.ext (Blk.ext (Blk.ext (Blk.ext bT_2 (below_drew w2) (Blk.lt bT_2)) hb4 (Blk.lt (Blk.ext bT_2 (below_drew w2) (Blk.lt bT_2)))) hb5 (Blk.lt (Blk.ext (Blk.ext bT_2 (below_drew w2) (Blk.lt bT_2)) hb4 (Blk.lt (Blk.ext bT_2 (below_drew w2) (Blk.lt bT_2)))))) hb6 (Blk.lt (Blk.ext (Blk.ext (Blk.ext bT_2 (below_drew w2) (Blk.lt bT_2)) hb4 (Blk.lt (Blk.ext bT_2 (below_drew w2) (Blk.lt bT_2)))) hb5 (Blk.lt (Blk.ext (Blk.ext bT_2 (below_drew w2) (Blk.lt bT_2)) hb4 (Blk.lt (Blk.ext bT_2 (below_drew w2) (Blk.lt bT_2))))))))))
  clear bT_2
  obtain ⟨⟨qT_7_0, qT_7_1, qT_7_2⟩, -⟩ := id bT_7.all3
  have bF_7 := (Blk.ext (Blk.ext (Blk.ext (Blk.ext (Blk.ext bF_2 (below_drew w2) (Blk.lt bF_2)) hb4 (Blk.lt (Blk.ext bF_2 (below_drew w2) (Blk.lt bF_2)))) hb5 (Blk.lt (Blk.ext (Blk.ext bF_2 (below_drew w2) (Blk.lt bF_2)) hb4 (Blk.lt (Blk.ext bF_2 (below_drew w2) (Blk.lt bF_2)))))) hb6 (Blk.lt (Blk.ext (Blk.ext (Blk.ext bF_2 (below_drew w2) (Blk.lt bF_2)) hb4 (Blk.lt (Blk.ext bF_2 (below_drew w2) (Blk.lt bF_2)))) hb5 (Blk.lt (Blk.ext (Blk.ext bF_2 (below_drew w2) (Blk.lt bF_2)) hb4 (Blk.lt (Blk.ext bF_2 (below_drew w2) (Blk.lt bF_2)))))))) hb7 (Blk.lt (Blk.ext (Blk.ext (Blk.ext (Blk.ext bF_2 (below_drew w2) (Blk.lt bF_2)) hb4 (Blk.lt (Blk.ext bF_2 (below_drew w2) (Blk.lt bF_2)))) hb5 (Blk.lt (Blk.ext (Blk.ext bF_2 (below_drew w2) (Blk.lt bF_2)) hb4 (Blk.lt (Blk.ext bF_2 (below_drew w2) (Blk.lt bF_2)))))) hb6 (Blk.lt (Blk.ext (Blk.ext (Blk.ext bF_2 (below_drew w2) (Blk.lt bF_2)) hb4 (Blk.lt (Blk.ext bF_2 (below_drew w2) (Blk.lt bF_2)))) hb5 (Blk.lt (Blk.ext (Blk.ext bF_2 (below_drew w2) (Blk.lt bF_2)) hb4 (Blk.lt (Blk.ext bF_2 (below_drew w2) (Blk.lt bF_2))))))))))
  clear bF_2
  obtain ⟨⟨qF_7_0, qF_7_1, qF_7_2⟩, -⟩ := id bF_7.all3
  have sgwr := howr.seg
  go_wp2_with fail
  refine (toIntS_any _ M _ (hv1M.ext hT7) hlM).mono ?_; rintro e w8 ⟨xxM, rfl, hoxM, hb8⟩
  clear qT_7_0 qT_7_1 qT_7_2 qF_7_0 qF_7_1 qF_7_2
  have z8 : w7.heap.size ≤ w8.heap.size := hb8.size
  have hT8 : Below w0.heap.size w0 w8 := hT7.trans (hb8.mono (by omega))
  have bT_8 := (Blk.ext bT_7 hb8 (Blk.lt bT_7))
  clear bT_7
  obtain ⟨⟨qT_8_0, qT_8_1, qT_8_2⟩, -⟩ := id bT_8.all3
  have bF_8 := (Blk.ext bF_7 hb8 (Blk.lt bF_7))
  clear bF_7
  obtain ⟨⟨qF_8_0, qF_8_1, qF_8_2⟩, -⟩ := id bF_8.all3
  have sgxM := hoxM.seg
  go_wp2_with fail
  refine (toView_any _ T _ (hv1T.ext hT8) hsz1T hsz2T).mono ?_; rintro e w9 ⟨xxTs, xxTt, rfl, hoxTs, hoxTt, sepxT, hb9⟩
  clear qT_8_0 qT_8_1 qT_8_2 qF_8_0 qF_8_1 qF_8_2
  have z9 : w8.heap.size ≤ w9.heap.size := hb9.size
  have hT9 : Below w0.heap.size w0 w9 := hT8.trans (hb9.mono (by omega))
  have bT_9 := (Blk.ext bT_8 hb9 (Blk.lt bT_8))
  clear bT_8
  obtain ⟨⟨qT_9_0, qT_9_1, qT_9_2⟩, -⟩ := id bT_9.all3
  have bF_9 := (Blk.ext bF_8 hb9 (Blk.lt bF_8))
  clear bF_8
  obtain ⟨⟨qF_9_0, qF_9_1, qF_9_2⟩, -⟩ := id bF_9.all3
  have sgxTs := hoxTs.seg
  have sgxTt := hoxTt.seg
  obtain ⟨AxTs, cxTs, exTs⟩ := hoxTs.form
  obtain ⟨AxTt, cxTt, exTt⟩ := hoxTt.form
  subst exTs exTt
  have bxT_10 := Blk.new w9 28 #[.int .i64 T.base, .slice AxTs T.shape.length cxTs, .slice AxTt T.strides.length cxTt]
  have hb10 := below_alloc w9 (.cells #[.int .i64 T.base, .slice AxTs T.shape.length cxTs, .slice AxTt T.strides.length cxTt] 28)
  obtain ⟨mT_9_0, mT_9_1, mT_9_2⟩ := (Blk.ext bT_9 (below_alloc w9 (.cells #[.int .i64 T.base, .slice AxTs T.shape.length cxTs, .slice AxTt T.strides.length cxTt] 28)) (Blk.lt bT_9)).all3.1
  obtain ⟨mF_9_0, mF_9_1, mF_9_2⟩ := (Blk.ext bF_9 (below_alloc w9 (.cells #[.int .i64 T.base, .slice AxTs T.shape.length cxTs, .slice AxTt T.strides.length cxTt] 28)) (Blk.lt bF_9)).all3.1
  go_wp2_with fail
  generalize w9.alloc (.cells #[.int .i64 T.base, .slice AxTs T.shape.length cxTs, .slice AxTt T.strides.length cxTt] 28) = w10 at *
  clear qT_9_0 qT_9_1 qT_9_2 qF_9_0 qF_9_1 qF_9_2 mT_9_0 mT_9_1 mT_9_2 mF_9_0 mF_9_1 mF_9_2
  have z10 : w9.heap.size ≤ w10.heap.size := hb10.size
  have hT10 : Below w0.heap.size w0 w10 := hT9.trans (hb10.mono (by omega))
  have zlxT : w9.heap.size < w10.heap.size := bxT_10.lt
  have bT_10 := (Blk.ext bT_9 hb10 (Blk.lt bT_9))
  clear bT_9
  obtain ⟨⟨qT_10_0, qT_10_1, qT_10_2⟩, -⟩ := id bT_10.all3
  have bF_10 := (Blk.ext bF_9 hb10 (Blk.lt bF_9))
  clear bF_9
  obtain ⟨⟨qF_10_0, qF_10_1, qF_10_2⟩, -⟩ := id bF_10.all3
  obtain ⟨⟨qxT_10_0, qxT_10_1, qxT_10_2⟩, -⟩ := id bxT_10.all3
  go_wp2_with fail
  refine (toView_any _ F _ (hv1F.ext hT10) hsz1F hsz2F).mono ?_; rintro e w11 ⟨xxFs, xxFt, rfl, hoxFs, hoxFt, sepxF, hb11⟩
  clear qT_10_0 qT_10_1 qT_10_2 qF_10_0 qF_10_1 qF_10_2 qxT_10_0 qxT_10_1 qxT_10_2
  have z11 : w10.heap.size ≤ w11.heap.size := hb11.size
  have hT11 : Below w0.heap.size w0 w11 := hT10.trans (hb11.mono (by omega))
  have bT_11 := (Blk.ext bT_10 hb11 (Blk.lt bT_10))
  clear bT_10
  obtain ⟨⟨qT_11_0, qT_11_1, qT_11_2⟩, -⟩ := id bT_11.all3
  have bF_11 := (Blk.ext bF_10 hb11 (Blk.lt bF_10))
  clear bF_10
  obtain ⟨⟨qF_11_0, qF_11_1, qF_11_2⟩, -⟩ := id bF_11.all3
  have bxT_11 := (Blk.ext bxT_10 hb11 (Blk.lt bxT_10))
  clear bxT_10
  obtain ⟨⟨qxT_11_0, qxT_11_1, qxT_11_2⟩, -⟩ := id bxT_11.all3
  have sgxFs := hoxFs.seg
  have sgxFt := hoxFt.seg
  obtain ⟨AxFs, cxFs, exFs⟩ := hoxFs.form
  obtain ⟨AxFt, cxFt, exFt⟩ := hoxFt.form
  subst exFs exFt
  have bxF_12 := Blk.new w11 28 #[.int .i64 F.base, .slice AxFs F.shape.length cxFs, .slice AxFt F.strides.length cxFt]
  have hb12 := below_alloc w11 (.cells #[.int .i64 F.base, .slice AxFs F.shape.length cxFs, .slice AxFt F.strides.length cxFt] 28)
  obtain ⟨mT_11_0, mT_11_1, mT_11_2⟩ := (Blk.ext bT_11 (below_alloc w11 (.cells #[.int .i64 F.base, .slice AxFs F.shape.length cxFs, .slice AxFt F.strides.length cxFt] 28)) (Blk.lt bT_11)).all3.1
  obtain ⟨mF_11_0, mF_11_1, mF_11_2⟩ := (Blk.ext bF_11 (below_alloc w11 (.cells #[.int .i64 F.base, .slice AxFs F.shape.length cxFs, .slice AxFt F.strides.length cxFt] 28)) (Blk.lt bF_11)).all3.1
  obtain ⟨mxT_11_0, mxT_11_1, mxT_11_2⟩ := (Blk.ext bxT_11 (below_alloc w11 (.cells #[.int .i64 F.base, .slice AxFs F.shape.length cxFs, .slice AxFt F.strides.length cxFt] 28)) (Blk.lt bxT_11)).all3.1
  go_wp2_with fail
  generalize w11.alloc (.cells #[.int .i64 F.base, .slice AxFs F.shape.length cxFs, .slice AxFt F.strides.length cxFt] 28) = w12 at *
  clear qT_11_0 qT_11_1 qT_11_2 qF_11_0 qF_11_1 qF_11_2 qxT_11_0 qxT_11_1 qxT_11_2 mT_11_0 mT_11_1 mT_11_2 mF_11_0 mF_11_1 mF_11_2 mxT_11_0 mxT_11_1 mxT_11_2
  have z12 : w11.heap.size ≤ w12.heap.size := hb12.size
  have hT12 : Below w0.heap.size w0 w12 := hT11.trans (hb12.mono (by omega))
  have zlxF : w11.heap.size < w12.heap.size := bxF_12.lt
  have bT_12 := (Blk.ext bT_11 hb12 (Blk.lt bT_11))
  clear bT_11
  obtain ⟨⟨qT_12_0, qT_12_1, qT_12_2⟩, -⟩ := id bT_12.all3
  have bF_12 := (Blk.ext bF_11 hb12 (Blk.lt bF_11))
  clear bF_11
  obtain ⟨⟨qF_12_0, qF_12_1, qF_12_2⟩, -⟩ := id bF_12.all3
  have bxT_12 := (Blk.ext bxT_11 hb12 (Blk.lt bxT_11))
  clear bxT_11
  obtain ⟨⟨qxT_12_0, qxT_12_1, qxT_12_2⟩, -⟩ := id bxT_12.all3
  obtain ⟨⟨qxF_12_0, qxF_12_1, qxF_12_2⟩, -⟩ := id bxF_12.all3
  go_wp2_with fail
  refine (CopyBackward_any _ _ _ M T F _ (Own.ints ((((hoxM.ext hb9).ext hb10).ext hb11).ext hb12)) (Own.view (((hoxTs.ext hb10).ext hb11).ext hb12) (((hoxTt.ext hb10).ext hb11).ext hb12)) (Own.view (hoxFs.ext hb12) (hoxFt.ext hb12))).mono ?_; rintro e w13 ⟨rg, rfl, hogr, hb13⟩
  clear qT_12_0 qT_12_1 qT_12_2 qF_12_0 qF_12_1 qF_12_2 qxT_12_0 qxT_12_1 qxT_12_2 qxF_12_0 qxF_12_1 qxF_12_2
  have z13 : w12.heap.size ≤ w13.heap.size := hb13.size
  have hT13 : Below w0.heap.size w0 w13 := hT12.trans (hb13.mono (by omega))
  have bT_13 := (Blk.ext bT_12 hb13 (Blk.lt bT_12))
  clear bT_12
  obtain ⟨⟨qT_13_0, qT_13_1, qT_13_2⟩, -⟩ := id bT_13.all3
  have bF_13 := (Blk.ext bF_12 hb13 (Blk.lt bF_12))
  clear bF_12
  obtain ⟨⟨qF_13_0, qF_13_1, qF_13_2⟩, -⟩ := id bF_13.all3
  have bxT_13 := (Blk.ext bxT_12 hb13 (Blk.lt bxT_12))
  clear bxT_12
  obtain ⟨⟨qxT_13_0, qxT_13_1, qxT_13_2⟩, -⟩ := id bxT_13.all3
  have bxF_13 := (Blk.ext bxF_12 hb13 (Blk.lt bxF_12))
  clear bxF_12
  obtain ⟨⟨qxF_13_0, qxF_13_1, qxF_13_2⟩, -⟩ := id bxF_13.all3
  have sggr := hogr.seg
  go_wp2_with fail
  refine (eqIntS_yes _ _ (bwdL M T F) _ (Own.ints hogr) (Own.ints ((((((howr.ext hb8).ext hb9).ext hb10).ext hb11).ext hb12).ext hb13))).mono ?_; rintro e w14 ⟨rfl, hb14⟩
  clear qT_13_0 qT_13_1 qT_13_2 qF_13_0 qF_13_1 qF_13_2 qxT_13_0 qxT_13_1 qxT_13_2 qxF_13_0 qxF_13_1 qxF_13_2
  have z14 : w13.heap.size ≤ w14.heap.size := hb14.size
  have hT14 : Below w0.heap.size w0 w14 := hT13.trans (hb14.mono (by omega))
  have bT_14 := (Blk.ext bT_13 hb14 (Blk.lt bT_13))
  clear bT_13
  obtain ⟨⟨qT_14_0, qT_14_1, qT_14_2⟩, -⟩ := id bT_14.all3
  have bF_14 := (Blk.ext bF_13 hb14 (Blk.lt bF_13))
  clear bF_13
  obtain ⟨⟨qF_14_0, qF_14_1, qF_14_2⟩, -⟩ := id bF_14.all3
  have bxT_14 := (Blk.ext bxT_13 hb14 (Blk.lt bxT_13))
  clear bxT_13
  obtain ⟨⟨qxT_14_0, qxT_14_1, qxT_14_2⟩, -⟩ := id bxT_14.all3
  have bxF_14 := (Blk.ext bxF_13 hb14 (Blk.lt bxF_13))
  clear bxF_13
  obtain ⟨⟨qxF_14_0, qxF_14_1, qxF_14_2⟩, -⟩ := id bxF_14.all3
  go_wp2_with fail
  refine (toIntS_any _ M _ (hv1M.ext hT14) hlM).mono ?_; rintro e w15 ⟨yy, rfl, hoyy, hb15⟩
  clear qT_14_0 qT_14_1 qT_14_2 qF_14_0 qF_14_1 qF_14_2 qxT_14_0 qxT_14_1 qxT_14_2 qxF_14_0 qxF_14_1 qxF_14_2
  have z15 : w14.heap.size ≤ w15.heap.size := hb15.size
  have hT15 : Below w0.heap.size w0 w15 := hT14.trans (hb15.mono (by omega))
  have bT_15 := (Blk.ext bT_14 hb15 (Blk.lt bT_14))
  clear bT_14
  obtain ⟨⟨qT_15_0, qT_15_1, qT_15_2⟩, -⟩ := id bT_15.all3
  have bF_15 := (Blk.ext bF_14 hb15 (Blk.lt bF_14))
  clear bF_14
  obtain ⟨⟨qF_15_0, qF_15_1, qF_15_2⟩, -⟩ := id bF_15.all3
  have bxT_15 := (Blk.ext bxT_14 hb15 (Blk.lt bxT_14))
  clear bxT_14
  obtain ⟨⟨qxT_15_0, qxT_15_1, qxT_15_2⟩, -⟩ := id bxT_15.all3
  have bxF_15 := (Blk.ext bxF_14 hb15 (Blk.lt bxF_14))
  clear bxF_14
  obtain ⟨⟨qxF_15_0, qxF_15_1, qxF_15_2⟩, -⟩ := id bxF_15.all3
  go_wp2_with fail
  refine (eqIntS_yes _ _ M _ (Own.ints (((((((hoxM.ext hb9).ext hb10).ext hb11).ext hb12).ext hb13).ext hb14).ext hb15)) (Own.ints hoyy)).mono ?_; rintro e w16 ⟨rfl, hb16⟩
  clear qT_15_0 qT_15_1 qT_15_2 qF_15_0 qF_15_1 qF_15_2 qxT_15_0 qxT_15_1 qxT_15_2 qxF_15_0 qxF_15_1 qxF_15_2
  have z16 : w15.heap.size ≤ w16.heap.size := hb16.size
  have hT16 : Below w0.heap.size w0 w16 := hT15.trans (hb16.mono (by omega))
  have bT_16 := (Blk.ext bT_15 hb16 (Blk.lt bT_15))
  clear bT_15
  obtain ⟨⟨qT_16_0, qT_16_1, qT_16_2⟩, -⟩ := id bT_16.all3
  have bF_16 := (Blk.ext bF_15 hb16 (Blk.lt bF_15))
  clear bF_15
  obtain ⟨⟨qF_16_0, qF_16_1, qF_16_2⟩, -⟩ := id bF_16.all3
  have bxT_16 := (Blk.ext bxT_15 hb16 (Blk.lt bxT_15))
  clear bxT_15
  obtain ⟨⟨qxT_16_0, qxT_16_1, qxT_16_2⟩, -⟩ := id bxT_16.all3
  have bxF_16 := (Blk.ext bxF_15 hb16 (Blk.lt bxF_15))
  clear bxF_15
  obtain ⟨⟨qxF_16_0, qxF_16_1, qxF_16_2⟩, -⟩ := id bxF_16.all3
  clear hoyy
  go_wp2_with fail
  have hTd : Below w0.heap.size w0 w16.drew := hT16.drew
  have hoy1 := ((((((((hoxTs.ext hb10).ext hb11).ext hb12).ext hb13).ext hb14).ext hb15).ext hb16).ext (below_drew w16))
  have hoy2 := ((((((((hoxTt.ext hb10).ext hb11).ext hb12).ext hb13).ext hb14).ext hb15).ext hb16).ext (below_drew w16))
  go_region_held3 (fun w' => w'.cell? ⟨w9.heap.size, 0, none⟩ = some (.int .i64 T.base) ∧ w'.cell? ⟨w9.heap.size, 1, none⟩ = some (.slice AxTs T.shape.length cxTs) ∧ w'.cell? ⟨w9.heap.size, 2, none⟩ = some (.slice AxTt T.strides.length cxTt) ∧ w'.cell? ⟨w.heap.size, 0, none⟩ = some (.int .i64 T.base) ∧ w'.cell? ⟨w.heap.size, 1, none⟩ = some (sT) ∧ w'.cell? ⟨w.heap.size, 2, none⟩ = some (tT))
    (first | go_keep | exact hK18 | exact hK19)
    (first
      | (go_at_call 18; refine (toView_any _ T _ (hv1T.ext hTd) hsz1T hsz2T).mono ?_; rintro e w18 ⟨y1, y2, rfl, hoy3, hoy4, -, hb18⟩; have hK18 := six_cells (Blk.ext (Blk.ext bxT_16 (below_drew w16) (Blk.lt bxT_16)) hb18 (Blk.lt (Blk.ext bxT_16 (below_drew w16) (Blk.lt bxT_16)))) (Blk.ext (Blk.ext bT_16 (below_drew w16) (Blk.lt bT_16)) hb18 (Blk.lt (Blk.ext bT_16 (below_drew w16) (Blk.lt bT_16)))))
      | (go_at_call 21; refine (eqView_yes _ _ T _ (Own.view (hoy1.ext hb18) (hoy2.ext hb18)) (Own.view hoy3 hoy4)).mono ?_; rintro e w19 ⟨rfl, hb19⟩; have hK19 := six_cells (Blk.ext (Blk.ext (Blk.ext bxT_16 (below_drew w16) (Blk.lt bxT_16)) hb18 (Blk.lt (Blk.ext bxT_16 (below_drew w16) (Blk.lt bxT_16)))) hb19 (Blk.lt (Blk.ext (Blk.ext bxT_16 (below_drew w16) (Blk.lt bxT_16)) hb18 (Blk.lt (Blk.ext bxT_16 (below_drew w16) (Blk.lt bxT_16)))))) (Blk.ext (Blk.ext (Blk.ext bT_16 (below_drew w16) (Blk.lt bT_16)) hb18 (Blk.lt (Blk.ext bT_16 (below_drew w16) (Blk.lt bT_16)))) hb19 (Blk.lt (Blk.ext (Blk.ext bT_16 (below_drew w16) (Blk.lt bT_16)) hb18 (Blk.lt (Blk.ext bT_16 (below_drew w16) (Blk.lt bT_16))))))))
  clear qT_16_0 qT_16_1 qT_16_2 qF_16_0 qF_16_1 qF_16_2 qxT_16_0 qxT_16_1 qxT_16_2 qxF_16_0 qxF_16_1 qxF_16_2
  clear hK18 hK19 hoy1 hoy2 hoy3 hoy4
  have z17 : w16.heap.size ≤ w16.drew.heap.size := Nat.le_refl _
  have hT17 := hTd
  clear hTd
  have z18 : w16.drew.heap.size ≤ w18.heap.size := hb18.size
  have hT18 : Below w0.heap.size w0 w18 := hT17.trans (hb18.mono (by omega))
  have z19 : w18.heap.size ≤ w19.heap.size := hb19.size
  have hT19 : Below w0.heap.size w0 w19 := hT18.trans (hb19.mono (by omega))
  have bT_19 := (Blk.ext (Blk.ext (Blk.ext bT_16 (below_drew w16) (Blk.lt bT_16)) hb18 (Blk.lt (Blk.ext bT_16 (below_drew w16) (Blk.lt bT_16)))) hb19 (Blk.lt (Blk.ext (Blk.ext bT_16 (below_drew w16) (Blk.lt bT_16)) hb18 (Blk.lt (Blk.ext bT_16 (below_drew w16) (Blk.lt bT_16))))))
  clear bT_16
  obtain ⟨⟨qT_19_0, qT_19_1, qT_19_2⟩, -⟩ := id bT_19.all3
  have bF_19 := (Blk.ext (Blk.ext (Blk.ext bF_16 (below_drew w16) (Blk.lt bF_16)) hb18 (Blk.lt (Blk.ext bF_16 (below_drew w16) (Blk.lt bF_16)))) hb19 (Blk.lt (Blk.ext (Blk.ext bF_16 (below_drew w16) (Blk.lt bF_16)) hb18 (Blk.lt (Blk.ext bF_16 (below_drew w16) (Blk.lt bF_16))))))
  clear bF_16
  obtain ⟨⟨qF_19_0, qF_19_1, qF_19_2⟩, -⟩ := id bF_19.all3
  have bxT_19 := (Blk.ext (Blk.ext (Blk.ext bxT_16 (below_drew w16) (Blk.lt bxT_16)) hb18 (Blk.lt (Blk.ext bxT_16 (below_drew w16) (Blk.lt bxT_16)))) hb19 (Blk.lt (Blk.ext (Blk.ext bxT_16 (below_drew w16) (Blk.lt bxT_16)) hb18 (Blk.lt (Blk.ext bxT_16 (below_drew w16) (Blk.lt bxT_16))))))
  clear bxT_16
  obtain ⟨⟨qxT_19_0, qxT_19_1, qxT_19_2⟩, -⟩ := id bxT_19.all3
  have bxF_19 := (Blk.ext (Blk.ext (Blk.ext bxF_16 (below_drew w16) (Blk.lt bxF_16)) hb18 (Blk.lt (Blk.ext bxF_16 (below_drew w16) (Blk.lt bxF_16)))) hb19 (Blk.lt (Blk.ext (Blk.ext bxF_16 (below_drew w16) (Blk.lt bxF_16)) hb18 (Blk.lt (Blk.ext bxF_16 (below_drew w16) (Blk.lt bxF_16))))))
  clear bxF_16
  obtain ⟨⟨qxF_19_0, qxF_19_1, qxF_19_2⟩, -⟩ := id bxF_19.all3
  go_wp2_with fail
  have hTd : Below w0.heap.size w0 w19.drew := hT19.drew
  have hoy1 := (((((((((hoxFs.ext hb12).ext hb13).ext hb14).ext hb15).ext hb16).ext (below_drew w16)).ext hb18).ext hb19).ext (below_drew w19))
  have hoy2 := (((((((((hoxFt.ext hb12).ext hb13).ext hb14).ext hb15).ext hb16).ext (below_drew w16)).ext hb18).ext hb19).ext (below_drew w19))
  go_region_held3 (fun w' => w'.cell? ⟨w11.heap.size, 0, none⟩ = some (.int .i64 F.base) ∧ w'.cell? ⟨w11.heap.size, 1, none⟩ = some (.slice AxFs F.shape.length cxFs) ∧ w'.cell? ⟨w11.heap.size, 2, none⟩ = some (.slice AxFt F.strides.length cxFt) ∧ w'.cell? ⟨w.heap.size + 1, 0, none⟩ = some (.int .i64 F.base) ∧ w'.cell? ⟨w.heap.size + 1, 1, none⟩ = some (sF) ∧ w'.cell? ⟨w.heap.size + 1, 2, none⟩ = some (tF))
    (first | go_keep | exact hK21 | exact hK22)
    (first
      | (go_at_call 18; refine (toView_any _ F _ (hv1F.ext hTd) hsz1F hsz2F).mono ?_; rintro e w21 ⟨y1, y2, rfl, hoy3, hoy4, -, hb21⟩; have hK21 := six_cells (Blk.ext (Blk.ext bxF_19 (below_drew w19) (Blk.lt bxF_19)) hb21 (Blk.lt (Blk.ext bxF_19 (below_drew w19) (Blk.lt bxF_19)))) (Blk.ext (Blk.ext bF_19 (below_drew w19) (Blk.lt bF_19)) hb21 (Blk.lt (Blk.ext bF_19 (below_drew w19) (Blk.lt bF_19)))))
      | (go_at_call 21; refine (eqView_yes _ _ F _ (Own.view (hoy1.ext hb21) (hoy2.ext hb21)) (Own.view hoy3 hoy4)).mono ?_; rintro e w22 ⟨rfl, hb22⟩; have hK22 := six_cells (Blk.ext (Blk.ext (Blk.ext bxF_19 (below_drew w19) (Blk.lt bxF_19)) hb21 (Blk.lt (Blk.ext bxF_19 (below_drew w19) (Blk.lt bxF_19)))) hb22 (Blk.lt (Blk.ext (Blk.ext bxF_19 (below_drew w19) (Blk.lt bxF_19)) hb21 (Blk.lt (Blk.ext bxF_19 (below_drew w19) (Blk.lt bxF_19)))))) (Blk.ext (Blk.ext (Blk.ext bF_19 (below_drew w19) (Blk.lt bF_19)) hb21 (Blk.lt (Blk.ext bF_19 (below_drew w19) (Blk.lt bF_19)))) hb22 (Blk.lt (Blk.ext (Blk.ext bF_19 (below_drew w19) (Blk.lt bF_19)) hb21 (Blk.lt (Blk.ext bF_19 (below_drew w19) (Blk.lt bF_19))))))))
  clear qT_19_0 qT_19_1 qT_19_2 qF_19_0 qF_19_1 qF_19_2 qxT_19_0 qxT_19_1 qxT_19_2 qxF_19_0 qxF_19_1 qxF_19_2
  clear hK21 hK22 hoy1 hoy2 hoy3 hoy4
  have z20 : w19.heap.size ≤ w19.drew.heap.size := Nat.le_refl _
  have hT20 := hTd
  clear hTd
  have z21 : w19.drew.heap.size ≤ w21.heap.size := hb21.size
  have hT21 : Below w0.heap.size w0 w21 := hT20.trans (hb21.mono (by omega))
  have z22 : w21.heap.size ≤ w22.heap.size := hb22.size
  have hT22 : Below w0.heap.size w0 w22 := hT21.trans (hb22.mono (by omega))
  have bT_22 := (Blk.ext (Blk.ext (Blk.ext bT_19 (below_drew w19) (Blk.lt bT_19)) hb21 (Blk.lt (Blk.ext bT_19 (below_drew w19) (Blk.lt bT_19)))) hb22 (Blk.lt (Blk.ext (Blk.ext bT_19 (below_drew w19) (Blk.lt bT_19)) hb21 (Blk.lt (Blk.ext bT_19 (below_drew w19) (Blk.lt bT_19))))))
  clear bT_19
  obtain ⟨⟨qT_22_0, qT_22_1, qT_22_2⟩, -⟩ := id bT_22.all3
  have bF_22 := (Blk.ext (Blk.ext (Blk.ext bF_19 (below_drew w19) (Blk.lt bF_19)) hb21 (Blk.lt (Blk.ext bF_19 (below_drew w19) (Blk.lt bF_19)))) hb22 (Blk.lt (Blk.ext (Blk.ext bF_19 (below_drew w19) (Blk.lt bF_19)) hb21 (Blk.lt (Blk.ext bF_19 (below_drew w19) (Blk.lt bF_19))))))
  clear bF_19
  obtain ⟨⟨qF_22_0, qF_22_1, qF_22_2⟩, -⟩ := id bF_22.all3
  have bxT_22 := (Blk.ext (Blk.ext (Blk.ext bxT_19 (below_drew w19) (Blk.lt bxT_19)) hb21 (Blk.lt (Blk.ext bxT_19 (below_drew w19) (Blk.lt bxT_19)))) hb22 (Blk.lt (Blk.ext (Blk.ext bxT_19 (below_drew w19) (Blk.lt bxT_19)) hb21 (Blk.lt (Blk.ext bxT_19 (below_drew w19) (Blk.lt bxT_19))))))
  clear bxT_19
  obtain ⟨⟨qxT_22_0, qxT_22_1, qxT_22_2⟩, -⟩ := id bxT_22.all3
  have bxF_22 := (Blk.ext (Blk.ext (Blk.ext bxF_19 (below_drew w19) (Blk.lt bxF_19)) hb21 (Blk.lt (Blk.ext bxF_19 (below_drew w19) (Blk.lt bxF_19)))) hb22 (Blk.lt (Blk.ext (Blk.ext bxF_19 (below_drew w19) (Blk.lt bxF_19)) hb21 (Blk.lt (Blk.ext bxF_19 (below_drew w19) (Blk.lt bxF_19))))))
  clear bxF_19
  obtain ⟨⟨qxF_22_0, qxF_22_1, qxF_22_2⟩, -⟩ := id bxF_22.all3
  go_wp2_with fail
  refine (markIntS_any _ M (1) _ _ ((((((((((((((hoxM.ext hb9).ext hb10).ext hb11).ext hb12).ext hb13).ext hb14).ext hb15).ext hb16).ext (below_drew w16)).ext hb18).ext hb19).ext (below_drew w19)).ext hb21).ext hb22) hlM (by omega)).mono ?_; rintro e w23 ⟨rfl, -, hw23⟩
  have hb23 := Chg.of_grown hw23 sgxM
  clear qT_22_0 qT_22_1 qT_22_2 qF_22_0 qF_22_1 qF_22_2 qxT_22_0 qxT_22_1 qxT_22_2 qxF_22_0 qxF_22_1 qxF_22_2
  have z23 : w22.heap.size ≤ w23.heap.size := hb23.size
  have hT23 : Below w0.heap.size w0 w23 := hT22.trans (hb23.below (by omega) (by omega))
  have bT_23 := (Blk.chg bT_22 hb23 (by omega))
  clear bT_22
  obtain ⟨⟨qT_23_0, qT_23_1, qT_23_2⟩, -⟩ := id bT_23.all3
  have bF_23 := (Blk.chg bF_22 hb23 (by omega))
  clear bF_22
  obtain ⟨⟨qF_23_0, qF_23_1, qF_23_2⟩, -⟩ := id bF_23.all3
  have bxT_23 := (Blk.chg bxT_22 hb23 (by omega))
  clear bxT_22
  obtain ⟨⟨qxT_23_0, qxT_23_1, qxT_23_2⟩, -⟩ := id bxT_23.all3
  have bxF_23 := (Blk.chg bxF_22 hb23 (by omega))
  clear bxF_22
  obtain ⟨⟨qxF_23_0, qxF_23_1, qxF_23_2⟩, -⟩ := id bxF_23.all3
  go_wp2_with fail
  refine (markView_any _ _ _ T.shape T.strides (1 + M.length) w8.heap.size w8.heap.size w8.heap.size w9.heap.size _ ((((((((((((((hoxTs.ext hb10).ext hb11).ext hb12).ext hb13).ext hb14).ext hb15).ext hb16).ext (below_drew w16)).ext hb18).ext hb19).ext (below_drew w19)).ext hb21).ext hb22).chg hb23 sgxTs (by omega)) ((((((((((((((hoxTt.ext hb10).ext hb11).ext hb12).ext hb13).ext hb14).ext hb15).ext hb16).ext (below_drew w16)).ext hb18).ext hb19).ext (below_drew w19)).ext hb21).ext hb22).chg hb23 sgxTt (by omega)) sepxT sgxTs sgxTt hsz1T hsz2T (by omega)).mono ?_; rintro e w24 ⟨rfl, -, -, hb24⟩
  clear qT_23_0 qT_23_1 qT_23_2 qF_23_0 qF_23_1 qF_23_2 qxT_23_0 qxT_23_1 qxT_23_2 qxF_23_0 qxF_23_1 qxF_23_2
  have z24 : w23.heap.size ≤ w24.heap.size := hb24.size
  have hT24 : Below w0.heap.size w0 w24 := hT23.trans (hb24.below (by omega) (by omega))
  have bT_24 := (Blk.chg bT_23 hb24 (by omega))
  clear bT_23
  obtain ⟨⟨qT_24_0, qT_24_1, qT_24_2⟩, -⟩ := id bT_24.all3
  have bF_24 := (Blk.chg bF_23 hb24 (by omega))
  clear bF_23
  obtain ⟨⟨qF_24_0, qF_24_1, qF_24_2⟩, -⟩ := id bF_24.all3
  have bxF_24 := (Blk.chg bxF_23 hb24 (by omega))
  clear bxF_23
  obtain ⟨⟨qxF_24_0, qxF_24_1, qxF_24_2⟩, -⟩ := id bxF_24.all3
  go_wp2_with fail
  refine (markView_any _ _ _ F.shape F.strides (1 + M.length + T.shape.length + T.strides.length) w10.heap.size w10.heap.size w10.heap.size w11.heap.size _ (((((((((((((hoxFs.ext hb12).ext hb13).ext hb14).ext hb15).ext hb16).ext (below_drew w16)).ext hb18).ext hb19).ext (below_drew w19)).ext hb21).ext hb22).chg hb23 sgxFs (by omega)).chg hb24 sgxFs (by omega)) (((((((((((((hoxFt.ext hb12).ext hb13).ext hb14).ext hb15).ext hb16).ext (below_drew w16)).ext hb18).ext hb19).ext (below_drew w19)).ext hb21).ext hb22).chg hb23 sgxFt (by omega)).chg hb24 sgxFt (by omega)) sepxF sgxFs sgxFt hsz1F hsz2F (by omega)).mono ?_; rintro e w25 ⟨rfl, -, -, hb25⟩
  clear qT_24_0 qT_24_1 qT_24_2 qF_24_0 qF_24_1 qF_24_2 qxF_24_0 qxF_24_1 qxF_24_2
  have z25 : w24.heap.size ≤ w25.heap.size := hb25.size
  have hT25 : Below w0.heap.size w0 w25 := hT24.trans (hb25.below (by omega) (by omega))
  have bT_25 := (Blk.chg bT_24 hb25 (by omega))
  clear bT_24
  obtain ⟨⟨qT_25_0, qT_25_1, qT_25_2⟩, -⟩ := id bT_25.all3
  have bF_25 := (Blk.chg bF_24 hb25 (by omega))
  clear bF_24
  obtain ⟨⟨qF_25_0, qF_25_1, qF_25_2⟩, -⟩ := id bF_25.all3
  go_wp2_with fail
  refine (eqIntS_yes _ _ (bwdL M T F) _ (Own.ints ((((((((((((hogr.ext hb14).ext hb15).ext hb16).ext (below_drew w16)).ext hb18).ext hb19).ext (below_drew w19)).ext hb21).ext hb22).chg hb23 sggr (by omega)).chg hb24 sggr (by omega)).chg hb25 sggr (by omega))) (Own.ints ((((((((((((((((((howr.ext hb8).ext hb9).ext hb10).ext hb11).ext hb12).ext hb13).ext hb14).ext hb15).ext hb16).ext (below_drew w16)).ext hb18).ext hb19).ext (below_drew w19)).ext hb21).ext hb22).chg hb23 sgwr (by omega)).chg hb24 sgwr (by omega)).chg hb25 sgwr (by omega)))).mono ?_; rintro e w26 ⟨rfl, hb26⟩
  clear qT_25_0 qT_25_1 qT_25_2 qF_25_0 qF_25_1 qF_25_2
  have z26 : w25.heap.size ≤ w26.heap.size := hb26.size
  have hT26 : Below w0.heap.size w0 w26 := hT25.trans (hb26.mono (by omega))
  have bT_26 := (Blk.ext bT_25 hb26 (Blk.lt bT_25))
  clear bT_25
  obtain ⟨⟨qT_26_0, qT_26_1, qT_26_2⟩, -⟩ := id bT_26.all3
  have bF_26 := (Blk.ext bF_25 hb26 (Blk.lt bF_25))
  clear bF_25
  obtain ⟨⟨qF_26_0, qF_26_1, qF_26_2⟩, -⟩ := id bF_26.all3
  have hlr : (bwdL M T F).length ≤ 1048576 := by have := bwdL_len M T F; omega
  go_wp2_with fail
  refine (markIntS_any _ (bwdL M T F) (1) _ _ (((((((((((((hogr.ext hb14).ext hb15).ext hb16).ext (below_drew w16)).ext hb18).ext hb19).ext (below_drew w19)).ext hb21).ext hb22).chg hb23 sggr (by omega)).chg hb24 sggr (by omega)).chg hb25 sggr (by omega)).ext hb26) hlr (by omega)).mono ?_; rintro e w27 ⟨rfl, hom, hw27⟩
  have hb27 := Chg.of_grown hw27 sggr
  clear qT_26_0 qT_26_1 qT_26_2 qF_26_0 qF_26_1 qF_26_2
  have z27 : w26.heap.size ≤ w27.heap.size := hb27.size
  have hT27 : Below w0.heap.size w0 w27 := hT26.trans (hb27.below (by omega) (by omega))
  have bT_27 := (Blk.chg bT_26 hb27 (by omega))
  clear bT_26
  obtain ⟨⟨qT_27_0, qT_27_1, qT_27_2⟩, -⟩ := id bT_27.all3
  have bF_27 := (Blk.chg bF_26 hb27 (by omega))
  clear bF_26
  obtain ⟨⟨qF_27_0, qF_27_1, qF_27_2⟩, -⟩ := id bF_27.all3
  go_wp2_with fail
  refine (heldIntS_any _ (1) (bwdL M T F).length _ (Own.ints hom) hlr (by omega)).mono ?_; rintro e w' ⟨rfl, rfl⟩
  go_wp2_with fail
  have hTd : Below w0.heap.size w0 w27.drew := hT27.drew
  have tokhM : True := trivial
  have tokhT : True := trivial
  have tokhF : True := trivial
  go_region_held3 (fun w' => w'.cell? ⟨w.heap.size, 0, none⟩ = some (.int .i64 T.base) ∧ w'.cell? ⟨w.heap.size, 1, none⟩ = some (sT) ∧ w'.cell? ⟨w.heap.size, 2, none⟩ = some (tT) ∧ w'.cell? ⟨w.heap.size + 1, 0, none⟩ = some (.int .i64 F.base) ∧ w'.cell? ⟨w.heap.size + 1, 1, none⟩ = some (sF) ∧ w'.cell? ⟨w.heap.size + 1, 2, none⟩ = some (tF))
    (first | go_keep | exact hK29 | exact hK30 | exact hK31 | exact hK32)
    (first
      | (go_at_call 17; have _t := tokhM; refine (toIntS_any _ M _ (hv1M.ext hTd) hlM).mono ?_; rintro e w29 ⟨xhM, rfl, hohM, hb29⟩; clear tokhM; have hTa29 := bstep hTd hb29 hTd.size; have hkT_29 := (Blk.ext (Blk.ext bT_27 (below_drew w27) (Blk.lt bT_27)) hb29 (Blk.lt (Blk.ext bT_27 (below_drew w27) (Blk.lt bT_27)))); have hkF_29 := (Blk.ext (Blk.ext bF_27 (below_drew w27) (Blk.lt bF_27)) hb29 (Blk.lt (Blk.ext bF_27 (below_drew w27) (Blk.lt bF_27)))); have hK29 := six_cells hkT_29 hkF_29)
      | (go_at_call 18; have _t := tokhT; refine (toView_any _ T _ (hv1T.ext hTa29) hsz1T hsz2T).mono ?_; rintro e w30 ⟨xhTs, xhTt, rfl, hohTs, hohTt, sephT, hb30⟩; clear tokhT; have hTa30 := bstep hTa29 hb30 hTa29.size; have hkT_30 := (Blk.ext (Blk.ext (Blk.ext bT_27 (below_drew w27) (Blk.lt bT_27)) hb29 (Blk.lt (Blk.ext bT_27 (below_drew w27) (Blk.lt bT_27)))) hb30 (Blk.lt (Blk.ext (Blk.ext bT_27 (below_drew w27) (Blk.lt bT_27)) hb29 (Blk.lt (Blk.ext bT_27 (below_drew w27) (Blk.lt bT_27)))))); have hkF_30 := (Blk.ext (Blk.ext (Blk.ext bF_27 (below_drew w27) (Blk.lt bF_27)) hb29 (Blk.lt (Blk.ext bF_27 (below_drew w27) (Blk.lt bF_27)))) hb30 (Blk.lt (Blk.ext (Blk.ext bF_27 (below_drew w27) (Blk.lt bF_27)) hb29 (Blk.lt (Blk.ext bF_27 (below_drew w27) (Blk.lt bF_27)))))); have hK30 := six_cells hkT_30 hkF_30)
      | (go_at_call 18; have _t := tokhF; refine (toView_any _ F _ (hv1F.ext hTa30) hsz1F hsz2F).mono ?_; rintro e w31 ⟨xhFs, xhFt, rfl, hohFs, hohFt, sephF, hb31⟩; clear tokhF; have hTa31 := bstep hTa30 hb31 hTa30.size; have hkT_31 := (Blk.ext (Blk.ext (Blk.ext (Blk.ext bT_27 (below_drew w27) (Blk.lt bT_27)) hb29 (Blk.lt (Blk.ext bT_27 (below_drew w27) (Blk.lt bT_27)))) hb30 (Blk.lt (Blk.ext (Blk.ext bT_27 (below_drew w27) (Blk.lt bT_27)) hb29 (Blk.lt (Blk.ext bT_27 (below_drew w27) (Blk.lt bT_27)))))) hb31 (Blk.lt (Blk.ext (Blk.ext (Blk.ext bT_27 (below_drew w27) (Blk.lt bT_27)) hb29 (Blk.lt (Blk.ext bT_27 (below_drew w27) (Blk.lt bT_27)))) hb30 (Blk.lt (Blk.ext (Blk.ext bT_27 (below_drew w27) (Blk.lt bT_27)) hb29 (Blk.lt (Blk.ext bT_27 (below_drew w27) (Blk.lt bT_27)))))))); have hkF_31 := (Blk.ext (Blk.ext (Blk.ext (Blk.ext bF_27 (below_drew w27) (Blk.lt bF_27)) hb29 (Blk.lt (Blk.ext bF_27 (below_drew w27) (Blk.lt bF_27)))) hb30 (Blk.lt (Blk.ext (Blk.ext bF_27 (below_drew w27) (Blk.lt bF_27)) hb29 (Blk.lt (Blk.ext bF_27 (below_drew w27) (Blk.lt bF_27)))))) hb31 (Blk.lt (Blk.ext (Blk.ext (Blk.ext bF_27 (below_drew w27) (Blk.lt bF_27)) hb29 (Blk.lt (Blk.ext bF_27 (below_drew w27) (Blk.lt bF_27)))) hb30 (Blk.lt (Blk.ext (Blk.ext bF_27 (below_drew w27) (Blk.lt bF_27)) hb29 (Blk.lt (Blk.ext bF_27 (below_drew w27) (Blk.lt bF_27)))))))); have hK31 := six_cells hkT_31 hkF_31)
      | (go_at_call 38; refine (CopyBackward_any _ _ _ M T F _ (Own.ints ((hohM.ext hb30).ext hb31)) (Own.view (hohTs.ext hb31) (hohTt.ext hb31)) (Own.view hohFs hohFt)).mono ?_; rintro e w32 ⟨rh, rfl, hohr, hb32⟩; have hkT_32 := (Blk.ext (Blk.ext (Blk.ext (Blk.ext (Blk.ext bT_27 (below_drew w27) (Blk.lt bT_27)) hb29 (Blk.lt (Blk.ext bT_27 (below_drew w27) (Blk.lt bT_27)))) hb30 (Blk.lt (Blk.ext (Blk.ext bT_27 (below_drew w27) (Blk.lt bT_27)) hb29 (Blk.lt (Blk.ext bT_27 (below_drew w27) (Blk.lt bT_27)))))) hb31 (Blk.lt (Blk.ext (Blk.ext (Blk.ext bT_27 (below_drew w27) (Blk.lt bT_27)) hb29 (Blk.lt (Blk.ext bT_27 (below_drew w27) (Blk.lt bT_27)))) hb30 (Blk.lt (Blk.ext (Blk.ext bT_27 (below_drew w27) (Blk.lt bT_27)) hb29 (Blk.lt (Blk.ext bT_27 (below_drew w27) (Blk.lt bT_27)))))))) hb32 (Blk.lt (Blk.ext (Blk.ext (Blk.ext (Blk.ext bT_27 (below_drew w27) (Blk.lt bT_27)) hb29 (Blk.lt (Blk.ext bT_27 (below_drew w27) (Blk.lt bT_27)))) hb30 (Blk.lt (Blk.ext (Blk.ext bT_27 (below_drew w27) (Blk.lt bT_27)) hb29 (Blk.lt (Blk.ext bT_27 (below_drew w27) (Blk.lt bT_27)))))) hb31 (Blk.lt (Blk.ext (Blk.ext (Blk.ext bT_27 (below_drew w27) (Blk.lt bT_27)) hb29 (Blk.lt (Blk.ext bT_27 (below_drew w27) (Blk.lt bT_27)))) hb30 (Blk.lt (Blk.ext (Blk.ext bT_27 (below_drew w27) (Blk.lt bT_27)) hb29 (Blk.lt (Blk.ext bT_27 (below_drew w27) (Blk.lt bT_27)))))))))); have hkF_32 := (Blk.ext (Blk.ext (Blk.ext (Blk.ext (Blk.ext bF_27 (below_drew w27) (Blk.lt bF_27)) hb29 (Blk.lt (Blk.ext bF_27 (below_drew w27) (Blk.lt bF_27)))) hb30 (Blk.lt (Blk.ext (Blk.ext bF_27 (below_drew w27) (Blk.lt bF_27)) hb29 (Blk.lt (Blk.ext bF_27 (below_drew w27) (Blk.lt bF_27)))))) hb31 (Blk.lt (Blk.ext (Blk.ext (Blk.ext bF_27 (below_drew w27) (Blk.lt bF_27)) hb29 (Blk.lt (Blk.ext bF_27 (below_drew w27) (Blk.lt bF_27)))) hb30 (Blk.lt (Blk.ext (Blk.ext bF_27 (below_drew w27) (Blk.lt bF_27)) hb29 (Blk.lt (Blk.ext bF_27 (below_drew w27) (Blk.lt bF_27)))))))) hb32 (Blk.lt (Blk.ext (Blk.ext (Blk.ext (Blk.ext bF_27 (below_drew w27) (Blk.lt bF_27)) hb29 (Blk.lt (Blk.ext bF_27 (below_drew w27) (Blk.lt bF_27)))) hb30 (Blk.lt (Blk.ext (Blk.ext bF_27 (below_drew w27) (Blk.lt bF_27)) hb29 (Blk.lt (Blk.ext bF_27 (below_drew w27) (Blk.lt bF_27)))))) hb31 (Blk.lt (Blk.ext (Blk.ext (Blk.ext bF_27 (below_drew w27) (Blk.lt bF_27)) hb29 (Blk.lt (Blk.ext bF_27 (below_drew w27) (Blk.lt bF_27)))) hb30 (Blk.lt (Blk.ext (Blk.ext bF_27 (below_drew w27) (Blk.lt bF_27)) hb29 (Blk.lt (Blk.ext bF_27 (below_drew w27) (Blk.lt bF_27)))))))))); have hK32 := six_cells hkT_32 hkF_32))
  clear hK29 hK30 hK31 hK32
  clear qT_27_0 qT_27_1 qT_27_2 qF_27_0 qF_27_1 qF_27_2
  have z28 : w27.heap.size ≤ w27.drew.heap.size := Nat.le_refl _
  have hT28 := hTd
  have z29 : w27.drew.heap.size ≤ w29.heap.size := hb29.size
  have hT29 : Below w0.heap.size w0 w29 := hT28.trans (hb29.mono (by omega))
  have z30 : w29.heap.size ≤ w30.heap.size := hb30.size
  have hT30 : Below w0.heap.size w0 w30 := hT29.trans (hb30.mono (by omega))
  have z31 : w30.heap.size ≤ w31.heap.size := hb31.size
  have hT31 : Below w0.heap.size w0 w31 := hT30.trans (hb31.mono (by omega))
  have z32 : w31.heap.size ≤ w32.heap.size := hb32.size
  have hT32 : Below w0.heap.size w0 w32 := hT31.trans (hb32.mono (by omega))
  have bT_32 := (Blk.ext (Blk.ext (Blk.ext (Blk.ext (Blk.ext bT_27 (below_drew w27) (Blk.lt bT_27)) hb29 (Blk.lt (Blk.ext bT_27 (below_drew w27) (Blk.lt bT_27)))) hb30 (Blk.lt (Blk.ext (Blk.ext bT_27 (below_drew w27) (Blk.lt bT_27)) hb29 (Blk.lt (Blk.ext bT_27 (below_drew w27) (Blk.lt bT_27)))))) hb31 (Blk.lt (Blk.ext (Blk.ext (Blk.ext bT_27 (below_drew w27) (Blk.lt bT_27)) hb29 (Blk.lt (Blk.ext bT_27 (below_drew w27) (Blk.lt bT_27)))) hb30 (Blk.lt (Blk.ext (Blk.ext bT_27 (below_drew w27) (Blk.lt bT_27)) hb29 (Blk.lt (Blk.ext bT_27 (below_drew w27) (Blk.lt bT_27)))))))) hb32 (Blk.lt (Blk.ext (Blk.ext (Blk.ext (Blk.ext bT_27 (below_drew w27) (Blk.lt bT_27)) hb29 (Blk.lt (Blk.ext bT_27 (below_drew w27) (Blk.lt bT_27)))) hb30 (Blk.lt (Blk.ext (Blk.ext bT_27 (below_drew w27) (Blk.lt bT_27)) hb29 (Blk.lt (Blk.ext bT_27 (below_drew w27) (Blk.lt bT_27)))))) hb31 (Blk.lt (Blk.ext (Blk.ext (Blk.ext bT_27 (below_drew w27) (Blk.lt bT_27)) hb29 (Blk.lt (Blk.ext bT_27 (below_drew w27) (Blk.lt bT_27)))) hb30 (Blk.lt (Blk.ext (Blk.ext bT_27 (below_drew w27) (Blk.lt bT_27)) hb29 (Blk.lt (Blk.ext bT_27 (below_drew w27) (Blk.lt bT_27))))))))))
  clear bT_27
  obtain ⟨⟨qT_32_0, qT_32_1, qT_32_2⟩, -⟩ := id bT_32.all3
  have bF_32 := (Blk.ext (Blk.ext (Blk.ext (Blk.ext (Blk.ext bF_27 (below_drew w27) (Blk.lt bF_27)) hb29 (Blk.lt (Blk.ext bF_27 (below_drew w27) (Blk.lt bF_27)))) hb30 (Blk.lt (Blk.ext (Blk.ext bF_27 (below_drew w27) (Blk.lt bF_27)) hb29 (Blk.lt (Blk.ext bF_27 (below_drew w27) (Blk.lt bF_27)))))) hb31 (Blk.lt (Blk.ext (Blk.ext (Blk.ext bF_27 (below_drew w27) (Blk.lt bF_27)) hb29 (Blk.lt (Blk.ext bF_27 (below_drew w27) (Blk.lt bF_27)))) hb30 (Blk.lt (Blk.ext (Blk.ext bF_27 (below_drew w27) (Blk.lt bF_27)) hb29 (Blk.lt (Blk.ext bF_27 (below_drew w27) (Blk.lt bF_27)))))))) hb32 (Blk.lt (Blk.ext (Blk.ext (Blk.ext (Blk.ext bF_27 (below_drew w27) (Blk.lt bF_27)) hb29 (Blk.lt (Blk.ext bF_27 (below_drew w27) (Blk.lt bF_27)))) hb30 (Blk.lt (Blk.ext (Blk.ext bF_27 (below_drew w27) (Blk.lt bF_27)) hb29 (Blk.lt (Blk.ext bF_27 (below_drew w27) (Blk.lt bF_27)))))) hb31 (Blk.lt (Blk.ext (Blk.ext (Blk.ext bF_27 (below_drew w27) (Blk.lt bF_27)) hb29 (Blk.lt (Blk.ext bF_27 (below_drew w27) (Blk.lt bF_27)))) hb30 (Blk.lt (Blk.ext (Blk.ext bF_27 (below_drew w27) (Blk.lt bF_27)) hb29 (Blk.lt (Blk.ext bF_27 (below_drew w27) (Blk.lt bF_27))))))))))
  clear bF_27
  obtain ⟨⟨qF_32_0, qF_32_1, qF_32_2⟩, -⟩ := id bF_32.all3
  have sghr := hohr.seg
  go_wp2_with fail
  refine (eqIntS_yes _ _ (bwdL M T F) _ (Own.ints hohr) (Own.ints (((((((((((((((((((((((((howr.ext hb8).ext hb9).ext hb10).ext hb11).ext hb12).ext hb13).ext hb14).ext hb15).ext hb16).ext (below_drew w16)).ext hb18).ext hb19).ext (below_drew w19)).ext hb21).ext hb22).chg hb23 sgwr (by omega)).chg hb24 sgwr (by omega)).chg hb25 sgwr (by omega)).ext hb26).chg hb27 sgwr (by omega)).ext (below_drew w27)).ext hb29).ext hb30).ext hb31).ext hb32))).mono ?_; rintro e w33 ⟨rfl, hb33⟩
  clear qT_32_0 qT_32_1 qT_32_2 qF_32_0 qF_32_1 qF_32_2
  have z33 : w32.heap.size ≤ w33.heap.size := hb33.size
  have hT33 : Below w0.heap.size w0 w33 := hT32.trans (hb33.mono (by omega))
  have bT_33 := (Blk.ext bT_32 hb33 (Blk.lt bT_32))
  clear bT_32
  obtain ⟨⟨qT_33_0, qT_33_1, qT_33_2⟩, -⟩ := id bT_33.all3
  have bF_33 := (Blk.ext bF_32 hb33 (Blk.lt bF_32))
  clear bF_32
  obtain ⟨⟨qF_33_0, qF_33_1, qF_33_2⟩, -⟩ := id bF_33.all3
  go_wp2_with fail
  refine (heldIntS_any _ (1) (bwdL M T F).length _ (Own.ints ((((((hom.ext (below_drew w27)).ext hb29).ext hb30).ext hb31).ext hb32).ext hb33)) hlr (by omega)).mono ?_; rintro e w' ⟨rfl, rfl⟩
  go_wp2
  go_ret
  exact ⟨rfl, hW.trans (hT33.mono hW.size)⟩

end Go.Proofs.Ytmglcapjccbknaa
