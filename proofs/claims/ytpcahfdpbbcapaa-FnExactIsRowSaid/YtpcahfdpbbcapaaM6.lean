/- The walks of exact laws: each answers true at every input and changes nothing that was there. No conditions. (printed by genlaw.py) -/
import Derived.Test.YtpcahfdpbbcapaaC11
import Derived.Test.YtpcahfdpbbcapaaL2
import Derived.Deep.RegionHeld3
namespace Go.Proofs.Ytpcahfdpbbcapaa
open Go.RowKit

set_option maxRecDepth 100000 in
set_option maxHeartbeats 3200000 in
theorem FnExactIsRow_walk (vV : Value) (V : VL) (w : World) (hvV : ViewV w vV V) :
    Calls Try.prog 10 #[vV] w fun e w' => e = .returned (.bool true) ∧ Below w.heap.size w w' := by
  have hv0V := hvV
  obtain ⟨sV, tV, rfl, -, -⟩ := hvV
  have hW : Below w.heap.size w (w.alloc (.cells #[.int .i64 V.base, sV, tV] 33)) := Below.alloc (Below.refl w.heap.size w) (by simp <;> omega) (.cells #[.int .i64 V.base, sV, tV] 33)
  have bV_0 : Blk (w.alloc (.cells #[.int .i64 V.base, sV, tV] 33)) (w.heap.size) 33 #[.int .i64 V.base, sV, tV] := (Blk.new w 33 #[.int .i64 V.base, sV, tV])
  have hv1V := hv0V.ext hW
  by_cases hsV : 1048576 < V.shape.length + V.strides.length
  · have hzV : 1048576 < V.shape.length + V.strides.length := by omega
    go_enter Try.func10, Try.ntmps10
    go_wp2_with fail
    generalize (w.alloc (.cells #[.int .i64 V.base, sV, tV] 33)) = w0 at *
    have hT0 : Below w0.heap.size w0 w0 := Below.refl _ _
    have zlV : w.heap.size < w0.heap.size := bV_0.lt
    refine (szView_no _ V 1048576 _ (hv1V.ext hT0) hzV (by omega)).mono ?_; rintro e w1 ⟨rfl, hb1⟩
    have z1 : w0.heap.size ≤ w1.heap.size := hb1.size
    have hT1 : Below w0.heap.size w0 w1 := hT0.trans (hb1.mono (by omega))
    go_wp2
    go_ret
    exact ⟨rfl, hW.trans (hT1.mono hW.size)⟩
  have hsz1V : V.shape.length ≤ 1048576 := by omega
  have hsz2V : V.strides.length ≤ 1048576 := by omega
  go_enter Try.func10, Try.ntmps10
  go_wp2_with fail
  generalize (w.alloc (.cells #[.int .i64 V.base, sV, tV] 33)) = w0 at *
  have hT0 : Below w0.heap.size w0 w0 := Below.refl _ _
  have zlV : w.heap.size < w0.heap.size := bV_0.lt
  refine (szView_ok _ V 1048576 _ hv1V (by omega) (by omega)).mono ?_; rintro e w1 ⟨rfl, hb1⟩
  have z1 : w0.heap.size ≤ w1.heap.size := hb1.size
  have hT1 : Below w0.heap.size w0 w1 := hT0.trans (hb1.mono (by omega))
  have bV_1 := (Blk.ext bV_0 hb1 (Blk.lt bV_0))
  obtain ⟨⟨qV_1_0, qV_1_1, qV_1_2⟩, -⟩ := id bV_1.all3
  go_wp2_with fail
  refine (toView_any _ V _ (hv1V.ext hT1) hsz1V hsz2V).mono ?_; rintro e w2 ⟨xwVs, xwVt, rfl, howVs, howVt, sepwV, hb2⟩
  clear qV_1_0 qV_1_1 qV_1_2
  have z2 : w1.heap.size ≤ w2.heap.size := hb2.size
  have hT2 : Below w0.heap.size w0 w2 := hT1.trans (hb2.mono (by omega))
  have bV_2 := (Blk.ext bV_1 hb2 (Blk.lt bV_1))
  clear bV_1
  obtain ⟨⟨qV_2_0, qV_2_1, qV_2_2⟩, -⟩ := id bV_2.all3
  go_wp2_with fail
  refine (sIsRow_any _ V _ (Own.view howVs howVt)).mono ?_; rintro e w3 ⟨rfl, hb3⟩
  clear qV_2_0 qV_2_1 qV_2_2
  have z3 : w2.heap.size ≤ w3.heap.size := hb3.size
  have hT3 : Below w0.heap.size w0 w3 := hT2.trans (hb3.mono (by omega))
  have bV_3 := (Blk.ext bV_2 hb3 (Blk.lt bV_2))
  clear bV_2
  obtain ⟨⟨qV_3_0, qV_3_1, qV_3_2⟩, -⟩ := id bV_3.all3
  go_wp2_with fail
  refine (toView_any _ V _ (hv1V.ext hT3) hsz1V hsz2V).mono ?_; rintro e w4 ⟨xxVs, xxVt, rfl, hoxVs, hoxVt, sepxV, hb4⟩
  clear qV_3_0 qV_3_1 qV_3_2
  have z4 : w3.heap.size ≤ w4.heap.size := hb4.size
  have hT4 : Below w0.heap.size w0 w4 := hT3.trans (hb4.mono (by omega))
  have bV_4 := (Blk.ext bV_3 hb4 (Blk.lt bV_3))
  clear bV_3
  obtain ⟨⟨qV_4_0, qV_4_1, qV_4_2⟩, -⟩ := id bV_4.all3
  have sgxVs := hoxVs.seg
  have sgxVt := hoxVt.seg
  obtain ⟨AxVs, cxVs, exVs⟩ := hoxVs.form
  obtain ⟨AxVt, cxVt, exVt⟩ := hoxVt.form
  subst exVs exVt
  have bxV_5 := Blk.new w4 36 #[.int .i64 V.base, .slice AxVs V.shape.length cxVs, .slice AxVt V.strides.length cxVt]
  have hb5 := below_alloc w4 (.cells #[.int .i64 V.base, .slice AxVs V.shape.length cxVs, .slice AxVt V.strides.length cxVt] 36)
  obtain ⟨mV_4_0, mV_4_1, mV_4_2⟩ := (Blk.ext bV_4 (below_alloc w4 (.cells #[.int .i64 V.base, .slice AxVs V.shape.length cxVs, .slice AxVt V.strides.length cxVt] 36)) (Blk.lt bV_4)).all3.1
  go_wp2_with fail
  generalize w4.alloc (.cells #[.int .i64 V.base, .slice AxVs V.shape.length cxVs, .slice AxVt V.strides.length cxVt] 36) = w5 at *
  clear qV_4_0 qV_4_1 qV_4_2 mV_4_0 mV_4_1 mV_4_2
  have z5 : w4.heap.size ≤ w5.heap.size := hb5.size
  have hT5 : Below w0.heap.size w0 w5 := hT4.trans (hb5.mono (by omega))
  have zlxV : w4.heap.size < w5.heap.size := bxV_5.lt
  have bV_5 := (Blk.ext bV_4 hb5 (Blk.lt bV_4))
  clear bV_4
  obtain ⟨⟨qV_5_0, qV_5_1, qV_5_2⟩, -⟩ := id bV_5.all3
  obtain ⟨⟨qxV_5_0, qxV_5_1, qxV_5_2⟩, -⟩ := id bxV_5.all3
  go_wp2_with fail
  refine (iIsRow_any _ V _ (Own.view (hoxVs.ext hb5) (hoxVt.ext hb5))).mono ?_; rintro e w6 ⟨rfl, hb6⟩
  clear qV_5_0 qV_5_1 qV_5_2 qxV_5_0 qxV_5_1 qxV_5_2
  have z6 : w5.heap.size ≤ w6.heap.size := hb6.size
  have hT6 : Below w0.heap.size w0 w6 := hT5.trans (hb6.mono (by omega))
  have bV_6 := (Blk.ext bV_5 hb6 (Blk.lt bV_5))
  clear bV_5
  obtain ⟨⟨qV_6_0, qV_6_1, qV_6_2⟩, -⟩ := id bV_6.all3
  have bxV_6 := (Blk.ext bxV_5 hb6 (Blk.lt bxV_5))
  clear bxV_5
  obtain ⟨⟨qxV_6_0, qxV_6_1, qxV_6_2⟩, -⟩ := id bxV_6.all3
  go_wp2_with fail
  have hTd : Below w0.heap.size w0 w6.drew := hT6.drew
  have hoy1 := (((hoxVs.ext hb5).ext hb6).ext (below_drew w6))
  have hoy2 := (((hoxVt.ext hb5).ext hb6).ext (below_drew w6))
  go_region_held3 (fun w' => w'.cell? ⟨w4.heap.size, 0, none⟩ = some (.int .i64 V.base) ∧ w'.cell? ⟨w4.heap.size, 1, none⟩ = some (.slice AxVs V.shape.length cxVs) ∧ w'.cell? ⟨w4.heap.size, 2, none⟩ = some (.slice AxVt V.strides.length cxVt) ∧ w'.cell? ⟨w.heap.size, 0, none⟩ = some (.int .i64 V.base) ∧ w'.cell? ⟨w.heap.size, 1, none⟩ = some (sV) ∧ w'.cell? ⟨w.heap.size, 2, none⟩ = some (tV))
    (first | go_keep | exact hK8 | exact hK9)
    (first
      | (go_at_call 24; refine (toView_any _ V _ (hv1V.ext hTd) hsz1V hsz2V).mono ?_; rintro e w8 ⟨y1, y2, rfl, hoy3, hoy4, -, hb8⟩; have hK8 := six_cells (Blk.ext (Blk.ext bxV_6 (below_drew w6) (Blk.lt bxV_6)) hb8 (Blk.lt (Blk.ext bxV_6 (below_drew w6) (Blk.lt bxV_6)))) (Blk.ext (Blk.ext bV_6 (below_drew w6) (Blk.lt bV_6)) hb8 (Blk.lt (Blk.ext bV_6 (below_drew w6) (Blk.lt bV_6)))))
      | (go_at_call 26; refine (eqView_yes _ _ V _ (Own.view (hoy1.ext hb8) (hoy2.ext hb8)) (Own.view hoy3 hoy4)).mono ?_; rintro e w9 ⟨rfl, hb9⟩; have hK9 := six_cells (Blk.ext (Blk.ext (Blk.ext bxV_6 (below_drew w6) (Blk.lt bxV_6)) hb8 (Blk.lt (Blk.ext bxV_6 (below_drew w6) (Blk.lt bxV_6)))) hb9 (Blk.lt (Blk.ext (Blk.ext bxV_6 (below_drew w6) (Blk.lt bxV_6)) hb8 (Blk.lt (Blk.ext bxV_6 (below_drew w6) (Blk.lt bxV_6)))))) (Blk.ext (Blk.ext (Blk.ext bV_6 (below_drew w6) (Blk.lt bV_6)) hb8 (Blk.lt (Blk.ext bV_6 (below_drew w6) (Blk.lt bV_6)))) hb9 (Blk.lt (Blk.ext (Blk.ext bV_6 (below_drew w6) (Blk.lt bV_6)) hb8 (Blk.lt (Blk.ext bV_6 (below_drew w6) (Blk.lt bV_6))))))))
  clear qV_6_0 qV_6_1 qV_6_2 qxV_6_0 qxV_6_1 qxV_6_2
  clear hK8 hK9 hoy1 hoy2 hoy3 hoy4
  have z7 : w6.heap.size ≤ w6.drew.heap.size := Nat.le_refl _
  have hT7 := hTd
  clear hTd
  have z8 : w6.drew.heap.size ≤ w8.heap.size := hb8.size
  have hT8 : Below w0.heap.size w0 w8 := hT7.trans (hb8.mono (by omega))
  have z9 : w8.heap.size ≤ w9.heap.size := hb9.size
  have hT9 : Below w0.heap.size w0 w9 := hT8.trans (hb9.mono (by omega))
  have bV_9 := (Blk.ext (Blk.ext (Blk.ext bV_6 (below_drew w6) (Blk.lt bV_6)) hb8 (Blk.lt (Blk.ext bV_6 (below_drew w6) (Blk.lt bV_6)))) hb9 (Blk.lt (Blk.ext (Blk.ext bV_6 (below_drew w6) (Blk.lt bV_6)) hb8 (Blk.lt (Blk.ext bV_6 (below_drew w6) (Blk.lt bV_6))))))
  clear bV_6
  obtain ⟨⟨qV_9_0, qV_9_1, qV_9_2⟩, -⟩ := id bV_9.all3
  have bxV_9 := (Blk.ext (Blk.ext (Blk.ext bxV_6 (below_drew w6) (Blk.lt bxV_6)) hb8 (Blk.lt (Blk.ext bxV_6 (below_drew w6) (Blk.lt bxV_6)))) hb9 (Blk.lt (Blk.ext (Blk.ext bxV_6 (below_drew w6) (Blk.lt bxV_6)) hb8 (Blk.lt (Blk.ext bxV_6 (below_drew w6) (Blk.lt bxV_6))))))
  clear bxV_6
  obtain ⟨⟨qxV_9_0, qxV_9_1, qxV_9_2⟩, -⟩ := id bxV_9.all3
  go_wp2
  go_ret
  exact ⟨rfl, hW.trans (hT9.mono hW.size)⟩

end Go.Proofs.Ytpcahfdpbbcapaa
