/- The walks of exact laws: each answers true at every input and changes nothing that was there. No conditions. (printed by genlaw.py) -/
import Derived.Test.YtpcahfdpbbcapaaC12
import Derived.Test.YtpcahfdpbbcapaaL2
import Derived.Deep.RegionHeld3
namespace Go.Proofs.Ytpcahfdpbbcapaa
open Go.RowKit

set_option maxRecDepth 100000 in
set_option maxHeartbeats 3200000 in
theorem FnExactSameView_walk (vA : Value) (A : VL) (vB : Value) (B : VL) (w : World) (hvA : ViewV w vA A) (hvB : ViewV w vB B) :
    Calls Try.prog 4 #[vA, vB] w fun e w' => e = .returned (.bool true) ∧ Below w.heap.size w w' := by
  have hv0A := hvA
  obtain ⟨sA, tA, rfl, -, -⟩ := hvA
  have hv0B := hvB
  obtain ⟨sB, tB, rfl, -, -⟩ := hvB
  have hW : Below w.heap.size w ((w.alloc (.cells #[.int .i64 A.base, sA, tA] 33)).alloc (.cells #[.int .i64 B.base, sB, tB] 33)) := Below.alloc (Below.alloc (Below.refl w.heap.size w) (by simp <;> omega) (.cells #[.int .i64 A.base, sA, tA] 33)) (by simp <;> omega) (.cells #[.int .i64 B.base, sB, tB] 33)
  have bA_0 : Blk ((w.alloc (.cells #[.int .i64 A.base, sA, tA] 33)).alloc (.cells #[.int .i64 B.base, sB, tB] 33)) (w.heap.size) 33 #[.int .i64 A.base, sA, tA] := ((Blk.new w 33 #[.int .i64 A.base, sA, tA]).alloc _)
  have bB_0 : Blk ((w.alloc (.cells #[.int .i64 A.base, sA, tA] 33)).alloc (.cells #[.int .i64 B.base, sB, tB] 33)) (w.heap.size + 1) 33 #[.int .i64 B.base, sB, tB] := by have := (Blk.new (w.alloc (.cells #[.int .i64 A.base, sA, tA] 33)) 33 #[.int .i64 B.base, sB, tB]); simpa using this
  have hv1A := hv0A.ext hW
  have hv1B := hv0B.ext hW
  by_cases hsA : 1048576 < A.shape.length + A.strides.length
  · have hzA : 1048576 < A.shape.length + A.strides.length := by omega
    go_enter Try.func4, Try.ntmps4
    go_wp2_with fail
    generalize ((w.alloc (.cells #[.int .i64 A.base, sA, tA] 33)).alloc (.cells #[.int .i64 B.base, sB, tB] 33)) = w0 at *
    have hT0 : Below w0.heap.size w0 w0 := Below.refl _ _
    have zlA : w.heap.size < w0.heap.size := bA_0.lt
    have zlB : w.heap.size + 1 < w0.heap.size := bB_0.lt
    refine (szView_no _ A 1048576 _ (hv1A.ext hT0) hzA (by omega)).mono ?_; rintro e w1 ⟨rfl, hb1⟩
    have z1 : w0.heap.size ≤ w1.heap.size := hb1.size
    have hT1 : Below w0.heap.size w0 w1 := hT0.trans (hb1.mono (by omega))
    go_wp2
    go_ret
    exact ⟨rfl, hW.trans (hT1.mono hW.size)⟩
  by_cases hsB : 1048576 < A.shape.length + A.strides.length + B.shape.length + B.strides.length
  · have hzB : (1048576 - A.shape.length - A.strides.length) < B.shape.length + B.strides.length := by omega
    go_enter Try.func4, Try.ntmps4
    go_wp2_with fail
    generalize ((w.alloc (.cells #[.int .i64 A.base, sA, tA] 33)).alloc (.cells #[.int .i64 B.base, sB, tB] 33)) = w0 at *
    have hT0 : Below w0.heap.size w0 w0 := Below.refl _ _
    have zlA : w.heap.size < w0.heap.size := bA_0.lt
    have zlB : w.heap.size + 1 < w0.heap.size := bB_0.lt
    refine (szView_ok _ A 1048576 _ hv1A (by omega) (by omega)).mono ?_; rintro e w1 ⟨rfl, hb1⟩
    have z1 : w0.heap.size ≤ w1.heap.size := hb1.size
    have hT1 : Below w0.heap.size w0 w1 := hT0.trans (hb1.mono (by omega))
    have bA_1 := (Blk.ext bA_0 hb1 (Blk.lt bA_0))
    obtain ⟨⟨qA_1_0, qA_1_1, qA_1_2⟩, -⟩ := id bA_1.all3
    have bB_1 := (Blk.ext bB_0 hb1 (Blk.lt bB_0))
    obtain ⟨⟨qB_1_0, qB_1_1, qB_1_2⟩, -⟩ := id bB_1.all3
    go_wp2_with fail
    refine (szView_no _ B (1048576 - A.shape.length - A.strides.length) _ (hv1B.ext hT1) hzB (by omega)).mono ?_; rintro e w2 ⟨rfl, hb2⟩
    clear qA_1_0 qA_1_1 qA_1_2 qB_1_0 qB_1_1 qB_1_2
    have z2 : w1.heap.size ≤ w2.heap.size := hb2.size
    have hT2 : Below w0.heap.size w0 w2 := hT1.trans (hb2.mono (by omega))
    go_wp2
    go_ret
    exact ⟨rfl, hW.trans (hT2.mono hW.size)⟩
  have hsz1A : A.shape.length ≤ 1048576 := by omega
  have hsz2A : A.strides.length ≤ 1048576 := by omega
  have hsz1B : B.shape.length ≤ 1048576 := by omega
  have hsz2B : B.strides.length ≤ 1048576 := by omega
  go_enter Try.func4, Try.ntmps4
  go_wp2_with fail
  generalize ((w.alloc (.cells #[.int .i64 A.base, sA, tA] 33)).alloc (.cells #[.int .i64 B.base, sB, tB] 33)) = w0 at *
  have hT0 : Below w0.heap.size w0 w0 := Below.refl _ _
  have zlA : w.heap.size < w0.heap.size := bA_0.lt
  have zlB : w.heap.size + 1 < w0.heap.size := bB_0.lt
  refine (szView_ok _ A 1048576 _ hv1A (by omega) (by omega)).mono ?_; rintro e w1 ⟨rfl, hb1⟩
  have z1 : w0.heap.size ≤ w1.heap.size := hb1.size
  have hT1 : Below w0.heap.size w0 w1 := hT0.trans (hb1.mono (by omega))
  have bA_1 := (Blk.ext bA_0 hb1 (Blk.lt bA_0))
  obtain ⟨⟨qA_1_0, qA_1_1, qA_1_2⟩, -⟩ := id bA_1.all3
  have bB_1 := (Blk.ext bB_0 hb1 (Blk.lt bB_0))
  obtain ⟨⟨qB_1_0, qB_1_1, qB_1_2⟩, -⟩ := id bB_1.all3
  go_wp2_with fail
  refine (szView_ok _ B (1048576 - A.shape.length - A.strides.length) _ (hv1B.ext hT1) (by omega) (by omega)).mono ?_; rintro e w2 ⟨rfl, hb2⟩
  clear qA_1_0 qA_1_1 qA_1_2 qB_1_0 qB_1_1 qB_1_2
  have z2 : w1.heap.size ≤ w2.heap.size := hb2.size
  have hT2 : Below w0.heap.size w0 w2 := hT1.trans (hb2.mono (by omega))
  have bA_2 := (Blk.ext bA_1 hb2 (Blk.lt bA_1))
  clear bA_1
  obtain ⟨⟨qA_2_0, qA_2_1, qA_2_2⟩, -⟩ := id bA_2.all3
  have bB_2 := (Blk.ext bB_1 hb2 (Blk.lt bB_1))
  clear bB_1
  obtain ⟨⟨qB_2_0, qB_2_1, qB_2_2⟩, -⟩ := id bB_2.all3
  go_wp2_with fail
  have hTd : Below w0.heap.size w0 w2.drew := hT2.drew
  have tokwA : True := trivial
  have tokwB : True := trivial
  go_region_held3 (fun w' => w'.cell? ⟨w.heap.size, 0, none⟩ = some (.int .i64 A.base) ∧ w'.cell? ⟨w.heap.size, 1, none⟩ = some (sA) ∧ w'.cell? ⟨w.heap.size, 2, none⟩ = some (tA) ∧ w'.cell? ⟨w.heap.size + 1, 0, none⟩ = some (.int .i64 B.base) ∧ w'.cell? ⟨w.heap.size + 1, 1, none⟩ = some (sB) ∧ w'.cell? ⟨w.heap.size + 1, 2, none⟩ = some (tB))
    (first | go_keep | exact hK4 | exact hK5 | exact hK6)
    (first
      | (go_at_call 24; have _t := tokwA; refine (toView_any _ A _ (hv1A.ext hTd) hsz1A hsz2A).mono ?_; rintro e w4 ⟨xwAs, xwAt, rfl, howAs, howAt, sepwA, hb4⟩; clear tokwA; have hTa4 := bstep hTd hb4 hTd.size; have hkA_4 := (Blk.ext (Blk.ext bA_2 (below_drew w2) (Blk.lt bA_2)) hb4 (Blk.lt (Blk.ext bA_2 (below_drew w2) (Blk.lt bA_2)))); have hkB_4 := (Blk.ext (Blk.ext bB_2 (below_drew w2) (Blk.lt bB_2)) hb4 (Blk.lt (Blk.ext bB_2 (below_drew w2) (Blk.lt bB_2)))); have hK4 := six_cells hkA_4 hkB_4)
      | (go_at_call 24; have _t := tokwB; refine (toView_any _ B _ (hv1B.ext hTa4) hsz1B hsz2B).mono ?_; rintro e w5 ⟨xwBs, xwBt, rfl, howBs, howBt, sepwB, hb5⟩; clear tokwB; have hTa5 := bstep hTa4 hb5 hTa4.size; have hkA_5 := (Blk.ext (Blk.ext (Blk.ext bA_2 (below_drew w2) (Blk.lt bA_2)) hb4 (Blk.lt (Blk.ext bA_2 (below_drew w2) (Blk.lt bA_2)))) hb5 (Blk.lt (Blk.ext (Blk.ext bA_2 (below_drew w2) (Blk.lt bA_2)) hb4 (Blk.lt (Blk.ext bA_2 (below_drew w2) (Blk.lt bA_2)))))); have hkB_5 := (Blk.ext (Blk.ext (Blk.ext bB_2 (below_drew w2) (Blk.lt bB_2)) hb4 (Blk.lt (Blk.ext bB_2 (below_drew w2) (Blk.lt bB_2)))) hb5 (Blk.lt (Blk.ext (Blk.ext bB_2 (below_drew w2) (Blk.lt bB_2)) hb4 (Blk.lt (Blk.ext bB_2 (below_drew w2) (Blk.lt bB_2)))))); have hK5 := six_cells hkA_5 hkB_5)
      | (go_at_call 23; refine (sSameView_any _ _ A B _ (Own.view (howAs.ext hb5) (howAt.ext hb5)) (Own.view howBs howBt)).mono ?_; rintro e w6 ⟨rfl, hb6⟩; have hkA_6 := (Blk.ext (Blk.ext (Blk.ext (Blk.ext bA_2 (below_drew w2) (Blk.lt bA_2)) hb4 (Blk.lt (Blk.ext bA_2 (below_drew w2) (Blk.lt bA_2)))) hb5 (Blk.lt (Blk.ext (Blk.ext bA_2 (below_drew w2) (Blk.lt bA_2)) hb4 (Blk.lt (Blk.ext bA_2 (below_drew w2) (Blk.lt bA_2)))))) hb6 (Blk.lt (Blk.ext (Blk.ext (Blk.ext bA_2 (below_drew w2) (Blk.lt bA_2)) hb4 (Blk.lt (Blk.ext bA_2 (below_drew w2) (Blk.lt bA_2)))) hb5 (Blk.lt (Blk.ext (Blk.ext bA_2 (below_drew w2) (Blk.lt bA_2)) hb4 (Blk.lt (Blk.ext bA_2 (below_drew w2) (Blk.lt bA_2)))))))); have hkB_6 := (Blk.ext (Blk.ext (Blk.ext (Blk.ext bB_2 (below_drew w2) (Blk.lt bB_2)) hb4 (Blk.lt (Blk.ext bB_2 (below_drew w2) (Blk.lt bB_2)))) hb5 (Blk.lt (Blk.ext (Blk.ext bB_2 (below_drew w2) (Blk.lt bB_2)) hb4 (Blk.lt (Blk.ext bB_2 (below_drew w2) (Blk.lt bB_2)))))) hb6 (Blk.lt (Blk.ext (Blk.ext (Blk.ext bB_2 (below_drew w2) (Blk.lt bB_2)) hb4 (Blk.lt (Blk.ext bB_2 (below_drew w2) (Blk.lt bB_2)))) hb5 (Blk.lt (Blk.ext (Blk.ext bB_2 (below_drew w2) (Blk.lt bB_2)) hb4 (Blk.lt (Blk.ext bB_2 (below_drew w2) (Blk.lt bB_2)))))))); have hK6 := six_cells hkA_6 hkB_6))
  clear hK4 hK5 hK6
  clear qA_2_0 qA_2_1 qA_2_2 qB_2_0 qB_2_1 qB_2_2
  have z3 : w2.heap.size ≤ w2.drew.heap.size := Nat.le_refl _
  have hT3 := hTd
  have z4 : w2.drew.heap.size ≤ w4.heap.size := hb4.size
  have hT4 : Below w0.heap.size w0 w4 := hT3.trans (hb4.mono (by omega))
  have z5 : w4.heap.size ≤ w5.heap.size := hb5.size
  have hT5 : Below w0.heap.size w0 w5 := hT4.trans (hb5.mono (by omega))
  have z6 : w5.heap.size ≤ w6.heap.size := hb6.size
  have hT6 : Below w0.heap.size w0 w6 := hT5.trans (hb6.mono (by omega))
  have bA_6 := (Blk.ext (Blk.ext (Blk.ext (Blk.ext bA_2 (below_drew w2) (Blk.lt bA_2)) hb4 (Blk.lt (Blk.ext bA_2 (below_drew w2) (Blk.lt bA_2)))) hb5 (Blk.lt (Blk.ext (Blk.ext bA_2 (below_drew w2) (Blk.lt bA_2)) hb4 (Blk.lt (Blk.ext bA_2 (below_drew w2) (Blk.lt bA_2)))))) hb6 (Blk.lt (Blk.ext (Blk.ext (Blk.ext bA_2 (below_drew w2) (Blk.lt bA_2)) hb4 (Blk.lt (Blk.ext bA_2 (below_drew w2) (Blk.lt bA_2)))) hb5 (Blk.lt (Blk.ext (Blk.ext bA_2 (below_drew w2) (Blk.lt bA_2)) hb4 (Blk.lt (Blk.ext bA_2 (below_drew w2) (Blk.lt bA_2))))))))
  clear bA_2
  obtain ⟨⟨qA_6_0, qA_6_1, qA_6_2⟩, -⟩ := id bA_6.all3
  have bB_6 := (Blk.ext (Blk.ext (Blk.ext (Blk.ext bB_2 (below_drew w2) (Blk.lt bB_2)) hb4 (Blk.lt (Blk.ext bB_2 (below_drew w2) (Blk.lt bB_2)))) hb5 (Blk.lt (Blk.ext (Blk.ext bB_2 (below_drew w2) (Blk.lt bB_2)) hb4 (Blk.lt (Blk.ext bB_2 (below_drew w2) (Blk.lt bB_2)))))) hb6 (Blk.lt (Blk.ext (Blk.ext (Blk.ext bB_2 (below_drew w2) (Blk.lt bB_2)) hb4 (Blk.lt (Blk.ext bB_2 (below_drew w2) (Blk.lt bB_2)))) hb5 (Blk.lt (Blk.ext (Blk.ext bB_2 (below_drew w2) (Blk.lt bB_2)) hb4 (Blk.lt (Blk.ext bB_2 (below_drew w2) (Blk.lt bB_2))))))))
  clear bB_2
  obtain ⟨⟨qB_6_0, qB_6_1, qB_6_2⟩, -⟩ := id bB_6.all3
  go_wp2_with fail
  refine (toView_any _ A _ (hv1A.ext hT6) hsz1A hsz2A).mono ?_; rintro e w7 ⟨xxAs, xxAt, rfl, hoxAs, hoxAt, sepxA, hb7⟩
  clear qA_6_0 qA_6_1 qA_6_2 qB_6_0 qB_6_1 qB_6_2
  have z7 : w6.heap.size ≤ w7.heap.size := hb7.size
  have hT7 : Below w0.heap.size w0 w7 := hT6.trans (hb7.mono (by omega))
  have bA_7 := (Blk.ext bA_6 hb7 (Blk.lt bA_6))
  clear bA_6
  obtain ⟨⟨qA_7_0, qA_7_1, qA_7_2⟩, -⟩ := id bA_7.all3
  have bB_7 := (Blk.ext bB_6 hb7 (Blk.lt bB_6))
  clear bB_6
  obtain ⟨⟨qB_7_0, qB_7_1, qB_7_2⟩, -⟩ := id bB_7.all3
  have sgxAs := hoxAs.seg
  have sgxAt := hoxAt.seg
  obtain ⟨AxAs, cxAs, exAs⟩ := hoxAs.form
  obtain ⟨AxAt, cxAt, exAt⟩ := hoxAt.form
  subst exAs exAt
  have bxA_8 := Blk.new w7 36 #[.int .i64 A.base, .slice AxAs A.shape.length cxAs, .slice AxAt A.strides.length cxAt]
  have hb8 := below_alloc w7 (.cells #[.int .i64 A.base, .slice AxAs A.shape.length cxAs, .slice AxAt A.strides.length cxAt] 36)
  obtain ⟨mA_7_0, mA_7_1, mA_7_2⟩ := (Blk.ext bA_7 (below_alloc w7 (.cells #[.int .i64 A.base, .slice AxAs A.shape.length cxAs, .slice AxAt A.strides.length cxAt] 36)) (Blk.lt bA_7)).all3.1
  obtain ⟨mB_7_0, mB_7_1, mB_7_2⟩ := (Blk.ext bB_7 (below_alloc w7 (.cells #[.int .i64 A.base, .slice AxAs A.shape.length cxAs, .slice AxAt A.strides.length cxAt] 36)) (Blk.lt bB_7)).all3.1
  go_wp2_with fail
  generalize w7.alloc (.cells #[.int .i64 A.base, .slice AxAs A.shape.length cxAs, .slice AxAt A.strides.length cxAt] 36) = w8 at *
  clear qA_7_0 qA_7_1 qA_7_2 qB_7_0 qB_7_1 qB_7_2 mA_7_0 mA_7_1 mA_7_2 mB_7_0 mB_7_1 mB_7_2
  have z8 : w7.heap.size ≤ w8.heap.size := hb8.size
  have hT8 : Below w0.heap.size w0 w8 := hT7.trans (hb8.mono (by omega))
  have zlxA : w7.heap.size < w8.heap.size := bxA_8.lt
  have bA_8 := (Blk.ext bA_7 hb8 (Blk.lt bA_7))
  clear bA_7
  obtain ⟨⟨qA_8_0, qA_8_1, qA_8_2⟩, -⟩ := id bA_8.all3
  have bB_8 := (Blk.ext bB_7 hb8 (Blk.lt bB_7))
  clear bB_7
  obtain ⟨⟨qB_8_0, qB_8_1, qB_8_2⟩, -⟩ := id bB_8.all3
  obtain ⟨⟨qxA_8_0, qxA_8_1, qxA_8_2⟩, -⟩ := id bxA_8.all3
  go_wp2_with fail
  refine (toView_any _ B _ (hv1B.ext hT8) hsz1B hsz2B).mono ?_; rintro e w9 ⟨xxBs, xxBt, rfl, hoxBs, hoxBt, sepxB, hb9⟩
  clear qA_8_0 qA_8_1 qA_8_2 qB_8_0 qB_8_1 qB_8_2 qxA_8_0 qxA_8_1 qxA_8_2
  have z9 : w8.heap.size ≤ w9.heap.size := hb9.size
  have hT9 : Below w0.heap.size w0 w9 := hT8.trans (hb9.mono (by omega))
  have bA_9 := (Blk.ext bA_8 hb9 (Blk.lt bA_8))
  clear bA_8
  obtain ⟨⟨qA_9_0, qA_9_1, qA_9_2⟩, -⟩ := id bA_9.all3
  have bB_9 := (Blk.ext bB_8 hb9 (Blk.lt bB_8))
  clear bB_8
  obtain ⟨⟨qB_9_0, qB_9_1, qB_9_2⟩, -⟩ := id bB_9.all3
  have bxA_9 := (Blk.ext bxA_8 hb9 (Blk.lt bxA_8))
  clear bxA_8
  obtain ⟨⟨qxA_9_0, qxA_9_1, qxA_9_2⟩, -⟩ := id bxA_9.all3
  have sgxBs := hoxBs.seg
  have sgxBt := hoxBt.seg
  obtain ⟨AxBs, cxBs, exBs⟩ := hoxBs.form
  obtain ⟨AxBt, cxBt, exBt⟩ := hoxBt.form
  subst exBs exBt
  have bxB_10 := Blk.new w9 36 #[.int .i64 B.base, .slice AxBs B.shape.length cxBs, .slice AxBt B.strides.length cxBt]
  have hb10 := below_alloc w9 (.cells #[.int .i64 B.base, .slice AxBs B.shape.length cxBs, .slice AxBt B.strides.length cxBt] 36)
  obtain ⟨mA_9_0, mA_9_1, mA_9_2⟩ := (Blk.ext bA_9 (below_alloc w9 (.cells #[.int .i64 B.base, .slice AxBs B.shape.length cxBs, .slice AxBt B.strides.length cxBt] 36)) (Blk.lt bA_9)).all3.1
  obtain ⟨mB_9_0, mB_9_1, mB_9_2⟩ := (Blk.ext bB_9 (below_alloc w9 (.cells #[.int .i64 B.base, .slice AxBs B.shape.length cxBs, .slice AxBt B.strides.length cxBt] 36)) (Blk.lt bB_9)).all3.1
  obtain ⟨mxA_9_0, mxA_9_1, mxA_9_2⟩ := (Blk.ext bxA_9 (below_alloc w9 (.cells #[.int .i64 B.base, .slice AxBs B.shape.length cxBs, .slice AxBt B.strides.length cxBt] 36)) (Blk.lt bxA_9)).all3.1
  go_wp2_with fail
  generalize w9.alloc (.cells #[.int .i64 B.base, .slice AxBs B.shape.length cxBs, .slice AxBt B.strides.length cxBt] 36) = w10 at *
  clear qA_9_0 qA_9_1 qA_9_2 qB_9_0 qB_9_1 qB_9_2 qxA_9_0 qxA_9_1 qxA_9_2 mA_9_0 mA_9_1 mA_9_2 mB_9_0 mB_9_1 mB_9_2 mxA_9_0 mxA_9_1 mxA_9_2
  have z10 : w9.heap.size ≤ w10.heap.size := hb10.size
  have hT10 : Below w0.heap.size w0 w10 := hT9.trans (hb10.mono (by omega))
  have zlxB : w9.heap.size < w10.heap.size := bxB_10.lt
  have bA_10 := (Blk.ext bA_9 hb10 (Blk.lt bA_9))
  clear bA_9
  obtain ⟨⟨qA_10_0, qA_10_1, qA_10_2⟩, -⟩ := id bA_10.all3
  have bB_10 := (Blk.ext bB_9 hb10 (Blk.lt bB_9))
  clear bB_9
  obtain ⟨⟨qB_10_0, qB_10_1, qB_10_2⟩, -⟩ := id bB_10.all3
  have bxA_10 := (Blk.ext bxA_9 hb10 (Blk.lt bxA_9))
  clear bxA_9
  obtain ⟨⟨qxA_10_0, qxA_10_1, qxA_10_2⟩, -⟩ := id bxA_10.all3
  obtain ⟨⟨qxB_10_0, qxB_10_1, qxB_10_2⟩, -⟩ := id bxB_10.all3
  go_wp2_with fail
  refine (SameView_any _ _ A B _ (Own.view (((hoxAs.ext hb8).ext hb9).ext hb10) (((hoxAt.ext hb8).ext hb9).ext hb10)) (Own.view (hoxBs.ext hb10) (hoxBt.ext hb10))).mono ?_; rintro e w11 ⟨rfl, hb11⟩
  clear qA_10_0 qA_10_1 qA_10_2 qB_10_0 qB_10_1 qB_10_2 qxA_10_0 qxA_10_1 qxA_10_2 qxB_10_0 qxB_10_1 qxB_10_2
  have z11 : w10.heap.size ≤ w11.heap.size := hb11.size
  have hT11 : Below w0.heap.size w0 w11 := hT10.trans (hb11.mono (by omega))
  have bA_11 := (Blk.ext bA_10 hb11 (Blk.lt bA_10))
  clear bA_10
  obtain ⟨⟨qA_11_0, qA_11_1, qA_11_2⟩, -⟩ := id bA_11.all3
  have bB_11 := (Blk.ext bB_10 hb11 (Blk.lt bB_10))
  clear bB_10
  obtain ⟨⟨qB_11_0, qB_11_1, qB_11_2⟩, -⟩ := id bB_11.all3
  have bxA_11 := (Blk.ext bxA_10 hb11 (Blk.lt bxA_10))
  clear bxA_10
  obtain ⟨⟨qxA_11_0, qxA_11_1, qxA_11_2⟩, -⟩ := id bxA_11.all3
  have bxB_11 := (Blk.ext bxB_10 hb11 (Blk.lt bxB_10))
  clear bxB_10
  obtain ⟨⟨qxB_11_0, qxB_11_1, qxB_11_2⟩, -⟩ := id bxB_11.all3
  go_wp2_with fail
  have hTd : Below w0.heap.size w0 w11.drew := hT11.drew
  have hoy1 := (((((hoxAs.ext hb8).ext hb9).ext hb10).ext hb11).ext (below_drew w11))
  have hoy2 := (((((hoxAt.ext hb8).ext hb9).ext hb10).ext hb11).ext (below_drew w11))
  go_region_held3 (fun w' => w'.cell? ⟨w7.heap.size, 0, none⟩ = some (.int .i64 A.base) ∧ w'.cell? ⟨w7.heap.size, 1, none⟩ = some (.slice AxAs A.shape.length cxAs) ∧ w'.cell? ⟨w7.heap.size, 2, none⟩ = some (.slice AxAt A.strides.length cxAt) ∧ w'.cell? ⟨w.heap.size, 0, none⟩ = some (.int .i64 A.base) ∧ w'.cell? ⟨w.heap.size, 1, none⟩ = some (sA) ∧ w'.cell? ⟨w.heap.size, 2, none⟩ = some (tA))
    (first | go_keep | exact hK13 | exact hK14)
    (first
      | (go_at_call 24; refine (toView_any _ A _ (hv1A.ext hTd) hsz1A hsz2A).mono ?_; rintro e w13 ⟨y1, y2, rfl, hoy3, hoy4, -, hb13⟩; have hK13 := six_cells (Blk.ext (Blk.ext bxA_11 (below_drew w11) (Blk.lt bxA_11)) hb13 (Blk.lt (Blk.ext bxA_11 (below_drew w11) (Blk.lt bxA_11)))) (Blk.ext (Blk.ext bA_11 (below_drew w11) (Blk.lt bA_11)) hb13 (Blk.lt (Blk.ext bA_11 (below_drew w11) (Blk.lt bA_11)))))
      | (go_at_call 26; refine (eqView_yes _ _ A _ (Own.view (hoy1.ext hb13) (hoy2.ext hb13)) (Own.view hoy3 hoy4)).mono ?_; rintro e w14 ⟨rfl, hb14⟩; have hK14 := six_cells (Blk.ext (Blk.ext (Blk.ext bxA_11 (below_drew w11) (Blk.lt bxA_11)) hb13 (Blk.lt (Blk.ext bxA_11 (below_drew w11) (Blk.lt bxA_11)))) hb14 (Blk.lt (Blk.ext (Blk.ext bxA_11 (below_drew w11) (Blk.lt bxA_11)) hb13 (Blk.lt (Blk.ext bxA_11 (below_drew w11) (Blk.lt bxA_11)))))) (Blk.ext (Blk.ext (Blk.ext bA_11 (below_drew w11) (Blk.lt bA_11)) hb13 (Blk.lt (Blk.ext bA_11 (below_drew w11) (Blk.lt bA_11)))) hb14 (Blk.lt (Blk.ext (Blk.ext bA_11 (below_drew w11) (Blk.lt bA_11)) hb13 (Blk.lt (Blk.ext bA_11 (below_drew w11) (Blk.lt bA_11))))))))
  clear qA_11_0 qA_11_1 qA_11_2 qB_11_0 qB_11_1 qB_11_2 qxA_11_0 qxA_11_1 qxA_11_2 qxB_11_0 qxB_11_1 qxB_11_2
  clear hK13 hK14 hoy1 hoy2 hoy3 hoy4
  have z12 : w11.heap.size ≤ w11.drew.heap.size := Nat.le_refl _
  have hT12 := hTd
  clear hTd
  have z13 : w11.drew.heap.size ≤ w13.heap.size := hb13.size
  have hT13 : Below w0.heap.size w0 w13 := hT12.trans (hb13.mono (by omega))
  have z14 : w13.heap.size ≤ w14.heap.size := hb14.size
  have hT14 : Below w0.heap.size w0 w14 := hT13.trans (hb14.mono (by omega))
  have bA_14 := (Blk.ext (Blk.ext (Blk.ext bA_11 (below_drew w11) (Blk.lt bA_11)) hb13 (Blk.lt (Blk.ext bA_11 (below_drew w11) (Blk.lt bA_11)))) hb14 (Blk.lt (Blk.ext (Blk.ext bA_11 (below_drew w11) (Blk.lt bA_11)) hb13 (Blk.lt (Blk.ext bA_11 (below_drew w11) (Blk.lt bA_11))))))
  clear bA_11
  obtain ⟨⟨qA_14_0, qA_14_1, qA_14_2⟩, -⟩ := id bA_14.all3
  have bB_14 := (Blk.ext (Blk.ext (Blk.ext bB_11 (below_drew w11) (Blk.lt bB_11)) hb13 (Blk.lt (Blk.ext bB_11 (below_drew w11) (Blk.lt bB_11)))) hb14 (Blk.lt (Blk.ext (Blk.ext bB_11 (below_drew w11) (Blk.lt bB_11)) hb13 (Blk.lt (Blk.ext bB_11 (below_drew w11) (Blk.lt bB_11))))))
  clear bB_11
  obtain ⟨⟨qB_14_0, qB_14_1, qB_14_2⟩, -⟩ := id bB_14.all3
  have bxA_14 := (Blk.ext (Blk.ext (Blk.ext bxA_11 (below_drew w11) (Blk.lt bxA_11)) hb13 (Blk.lt (Blk.ext bxA_11 (below_drew w11) (Blk.lt bxA_11)))) hb14 (Blk.lt (Blk.ext (Blk.ext bxA_11 (below_drew w11) (Blk.lt bxA_11)) hb13 (Blk.lt (Blk.ext bxA_11 (below_drew w11) (Blk.lt bxA_11))))))
  clear bxA_11
  obtain ⟨⟨qxA_14_0, qxA_14_1, qxA_14_2⟩, -⟩ := id bxA_14.all3
  have bxB_14 := (Blk.ext (Blk.ext (Blk.ext bxB_11 (below_drew w11) (Blk.lt bxB_11)) hb13 (Blk.lt (Blk.ext bxB_11 (below_drew w11) (Blk.lt bxB_11)))) hb14 (Blk.lt (Blk.ext (Blk.ext bxB_11 (below_drew w11) (Blk.lt bxB_11)) hb13 (Blk.lt (Blk.ext bxB_11 (below_drew w11) (Blk.lt bxB_11))))))
  clear bxB_11
  obtain ⟨⟨qxB_14_0, qxB_14_1, qxB_14_2⟩, -⟩ := id bxB_14.all3
  go_wp2_with fail
  have hTd : Below w0.heap.size w0 w14.drew := hT14.drew
  have hoy1 := ((((((hoxBs.ext hb10).ext hb11).ext (below_drew w11)).ext hb13).ext hb14).ext (below_drew w14))
  have hoy2 := ((((((hoxBt.ext hb10).ext hb11).ext (below_drew w11)).ext hb13).ext hb14).ext (below_drew w14))
  go_region_held3 (fun w' => w'.cell? ⟨w9.heap.size, 0, none⟩ = some (.int .i64 B.base) ∧ w'.cell? ⟨w9.heap.size, 1, none⟩ = some (.slice AxBs B.shape.length cxBs) ∧ w'.cell? ⟨w9.heap.size, 2, none⟩ = some (.slice AxBt B.strides.length cxBt) ∧ w'.cell? ⟨w.heap.size + 1, 0, none⟩ = some (.int .i64 B.base) ∧ w'.cell? ⟨w.heap.size + 1, 1, none⟩ = some (sB) ∧ w'.cell? ⟨w.heap.size + 1, 2, none⟩ = some (tB))
    (first | go_keep | exact hK16 | exact hK17)
    (first
      | (go_at_call 24; refine (toView_any _ B _ (hv1B.ext hTd) hsz1B hsz2B).mono ?_; rintro e w16 ⟨y1, y2, rfl, hoy3, hoy4, -, hb16⟩; have hK16 := six_cells (Blk.ext (Blk.ext bxB_14 (below_drew w14) (Blk.lt bxB_14)) hb16 (Blk.lt (Blk.ext bxB_14 (below_drew w14) (Blk.lt bxB_14)))) (Blk.ext (Blk.ext bB_14 (below_drew w14) (Blk.lt bB_14)) hb16 (Blk.lt (Blk.ext bB_14 (below_drew w14) (Blk.lt bB_14)))))
      | (go_at_call 26; refine (eqView_yes _ _ B _ (Own.view (hoy1.ext hb16) (hoy2.ext hb16)) (Own.view hoy3 hoy4)).mono ?_; rintro e w17 ⟨rfl, hb17⟩; have hK17 := six_cells (Blk.ext (Blk.ext (Blk.ext bxB_14 (below_drew w14) (Blk.lt bxB_14)) hb16 (Blk.lt (Blk.ext bxB_14 (below_drew w14) (Blk.lt bxB_14)))) hb17 (Blk.lt (Blk.ext (Blk.ext bxB_14 (below_drew w14) (Blk.lt bxB_14)) hb16 (Blk.lt (Blk.ext bxB_14 (below_drew w14) (Blk.lt bxB_14)))))) (Blk.ext (Blk.ext (Blk.ext bB_14 (below_drew w14) (Blk.lt bB_14)) hb16 (Blk.lt (Blk.ext bB_14 (below_drew w14) (Blk.lt bB_14)))) hb17 (Blk.lt (Blk.ext (Blk.ext bB_14 (below_drew w14) (Blk.lt bB_14)) hb16 (Blk.lt (Blk.ext bB_14 (below_drew w14) (Blk.lt bB_14))))))))
  clear qA_14_0 qA_14_1 qA_14_2 qB_14_0 qB_14_1 qB_14_2 qxA_14_0 qxA_14_1 qxA_14_2 qxB_14_0 qxB_14_1 qxB_14_2
  clear hK16 hK17 hoy1 hoy2 hoy3 hoy4
  have z15 : w14.heap.size ≤ w14.drew.heap.size := Nat.le_refl _
  have hT15 := hTd
  clear hTd
  have z16 : w14.drew.heap.size ≤ w16.heap.size := hb16.size
  have hT16 : Below w0.heap.size w0 w16 := hT15.trans (hb16.mono (by omega))
  have z17 : w16.heap.size ≤ w17.heap.size := hb17.size
  have hT17 : Below w0.heap.size w0 w17 := hT16.trans (hb17.mono (by omega))
  have bA_17 := (Blk.ext (Blk.ext (Blk.ext bA_14 (below_drew w14) (Blk.lt bA_14)) hb16 (Blk.lt (Blk.ext bA_14 (below_drew w14) (Blk.lt bA_14)))) hb17 (Blk.lt (Blk.ext (Blk.ext bA_14 (below_drew w14) (Blk.lt bA_14)) hb16 (Blk.lt (Blk.ext bA_14 (below_drew w14) (Blk.lt bA_14))))))
  clear bA_14
  obtain ⟨⟨qA_17_0, qA_17_1, qA_17_2⟩, -⟩ := id bA_17.all3
  have bB_17 := (Blk.ext (Blk.ext (Blk.ext bB_14 (below_drew w14) (Blk.lt bB_14)) hb16 (Blk.lt (Blk.ext bB_14 (below_drew w14) (Blk.lt bB_14)))) hb17 (Blk.lt (Blk.ext (Blk.ext bB_14 (below_drew w14) (Blk.lt bB_14)) hb16 (Blk.lt (Blk.ext bB_14 (below_drew w14) (Blk.lt bB_14))))))
  clear bB_14
  obtain ⟨⟨qB_17_0, qB_17_1, qB_17_2⟩, -⟩ := id bB_17.all3
  have bxA_17 := (Blk.ext (Blk.ext (Blk.ext bxA_14 (below_drew w14) (Blk.lt bxA_14)) hb16 (Blk.lt (Blk.ext bxA_14 (below_drew w14) (Blk.lt bxA_14)))) hb17 (Blk.lt (Blk.ext (Blk.ext bxA_14 (below_drew w14) (Blk.lt bxA_14)) hb16 (Blk.lt (Blk.ext bxA_14 (below_drew w14) (Blk.lt bxA_14))))))
  clear bxA_14
  obtain ⟨⟨qxA_17_0, qxA_17_1, qxA_17_2⟩, -⟩ := id bxA_17.all3
  have bxB_17 := (Blk.ext (Blk.ext (Blk.ext bxB_14 (below_drew w14) (Blk.lt bxB_14)) hb16 (Blk.lt (Blk.ext bxB_14 (below_drew w14) (Blk.lt bxB_14)))) hb17 (Blk.lt (Blk.ext (Blk.ext bxB_14 (below_drew w14) (Blk.lt bxB_14)) hb16 (Blk.lt (Blk.ext bxB_14 (below_drew w14) (Blk.lt bxB_14))))))
  clear bxB_14
  obtain ⟨⟨qxB_17_0, qxB_17_1, qxB_17_2⟩, -⟩ := id bxB_17.all3
  go_wp2
  go_ret
  exact ⟨rfl, hW.trans (hT17.mono hW.size)⟩

end Go.Proofs.Ytpcahfdpbbcapaa
