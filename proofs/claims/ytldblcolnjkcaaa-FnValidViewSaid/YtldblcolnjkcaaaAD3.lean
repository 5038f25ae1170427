/- Contract: insert, the reference's. No conditions. -/
import Derived.Test.YtldblcolnjkcaaaAD1
import Derived.Test.YtldblcolnjkcaaaHp
import Derived.Deep.RegionLaw
namespace Go.Proofs.Ytldblcolnjkcaaa
open Go.RowKit

set_option maxRecDepth 100000 in
set_option maxHeartbeats 6400000 in
theorem insert_some (b off c p : Nat) (xs : List Int) (x : Int) (w : World) (h : Ints w (.slice (some ⟨b, off, none⟩) xs.length c) xs) (hp : p ≤ xs.length) (hl : xs.length ≤ 1000) (hcp : p < c) :
    Calls Try.prog 144 #[.slice (some ⟨b, off, none⟩) xs.length c, .int .i64 p, .int .i64 x] w (RetOwn w (insAt xs p x)) := by
  obtain ⟨A', c', e', hnc, hcm, -⟩ := id h
  simp only [Value.slice.injEq, true_and] at e'
  obtain ⟨-, rfl⟩ := e'
  unfold maxLen at hcm
  have hT := hid (h.take p hp)
  have hD := hid (h.drop p hp)
  have HLT := hid (show (xs.take p).length ≤ 1000 by rw [List.length_take]; omega)
  have HLD := hid (show (xs.drop p).length ≤ 1000 by rw [List.length_drop]; omega)
  have hne : ¬ c = p := by omega
  have hpi : (p : Int) ≤ (xs.length : Int) := by omega
  have hpc : (p : Int) ≤ (c : Int) := by omega
  have hp0 : (0 : Int) ≤ (p : Int) := by omega
  go_enter Try.func144, Try.ntmps144
  have HLP := hid (show (xs.take p).length = p by rw [List.length_take]; omega)
  have HLQ := hid (show (xs.take p ++ [x]).length = p + 1 by rw [List.length_append, List.length_take]; simp; omega)
  go_wp2_with fail
  have E1 : Own (w.alloc (.cells #[] 3)).drew w.heap.size (.slice (some ⟨w.heap.size, 0, none⟩) 0 0) [] := (Own.empty w rfl (Nat.le_refl _)).drew
  have E2 : Own ((w.alloc (.cells #[] 3)).alloc (.cells #[.int .i64 x] 3)).drew w.heap.size (.slice (some ⟨w.heap.size, 0, none⟩) 0 0) [] := ((Own.empty w rfl (Nat.le_refl _)).alloc _).drew
  have E3 : Own ((w.alloc (.cells #[.int .i64 x] 3)).alloc (.cells #[] 3)).drew w.heap.size (.slice (some ⟨w.heap.size + 1, 0, none⟩) 0 0) [] := (Own.empty (w.alloc (.cells #[.int .i64 x] 3)) (by simp) (by omega)).drew
  have B1 : Below w.heap.size w (w.alloc (.cells #[] 3)).drew := (below_alloc w _).drew
  have B2 : Below w.heap.size w ((w.alloc (.cells #[] 3)).alloc (.cells #[.int .i64 x] 3)).drew := ((below_alloc w _).alloc (by simp) _).drew
  have B3 : Below w.heap.size w ((w.alloc (.cells #[.int .i64 x] 3)).alloc (.cells #[] 3)).drew := ((below_alloc w _).alloc (by simp) _).drew
  have C2 : Blk ((w.alloc (.cells #[] 3)).alloc (.cells #[.int .i64 x] 3)).drew (w.heap.size + 1) 3 #[.int .i64 x] := by
    have := Blk.new (w.alloc (.cells #[] 3)) 3 #[.int .i64 x]
    simp only [World.size_alloc] at this
    exact this
  have C3 : Blk ((w.alloc (.cells #[.int .i64 x] 3)).alloc (.cells #[] 3)).drew w.heap.size 3 #[.int .i64 x] := (Blk.new w 3 #[.int .i64 x]).alloc _
  have L1 : ([] : List Int).length + (xs.take p).length ≤ 1000000000000 := by have := HLT.out; simp only [List.length_nil]; omega
  have L2 : (xs.take p).length ≤ 1000000000000 := by have := HLT.out; omega
  have L3 : (xs.take p ++ [x]).length + (xs.drop p).length ≤ 1000000000000 := by have := HLT.out; have := HLD.out; simp only [List.length_append, List.length_cons, List.length_nil]; omega
  have T1 := hT.out.ext B1
  have T2 := hT.out.ext B2
  have T3 := hT.out.ext B3
  have Z1 := B1.size
  have Z2 := B2.size
  have Z3 := B3.size
  have hDD := hD.out
  have NE2 : w.heap.size + 1 ≠ w.heap.size := by omega
  have NE3 : w.heap.size ≠ w.heap.size + 1 := by omega
  go_region_law (first
    | (refine stepI _ (by rfl) _ _ (by rfl) w.heap.size _ [] (by rfl) E1 _ _ _ (xs.take p) (by rfl) T1 L1 Z1 ?_; intro v1 w2 ho1 hg1 hat1; rw [List.nil_append] at ho1; have hb2 := B1.trans (E1.under hg1 Z1); have z2 := hb2.size; have hl2 := le_alloc z2 (.cells #[.int .i64 x] 3); obtain ⟨A1, c1, e1⟩ := ho1.form; rw [HLP.out] at e1; subst e1)
    | (refine stepI _ (by rfl) _ _ (by rfl) w.heap.size _ [] (by rfl) E2 _ _ _ (xs.take p) (by rfl) T2 L1 Z2 ?_; intro v1 w2 ho1 hg1 hat1; rw [List.nil_append] at ho1; have hb2 := B2.trans (E2.under hg1 Z2); have z2 := hb2.size; have hlit := (Blk.grown (g' := w.heap.size) C2 hg1 NE2).cell 0; obtain ⟨A1, c1, e1⟩ := ho1.form; rw [HLP.out] at e1; subst e1)
    | (refine stepI _ (by rfl) _ _ (by rfl) w.heap.size _ [] (by rfl) E3 _ _ _ (xs.take p) (by rfl) T3 L1 Z3 ?_; intro v1 w2 ho1 hg1 hat1; rw [List.nil_append] at ho1; have hb2 := B3.trans (E3.under hg1 Z3); have z2 := hb2.size; have hlit := (Blk.grown (g' := w.heap.size + 1) C3 hg1 NE3).cell 0; obtain ⟨A1, c1, e1⟩ := ho1.form; rw [HLP.out] at e1; subst e1)
    | (refine step1 _ (by rfl) _ _ (by rfl) w.heap.size _ (xs.take p) (by rfl) ho1 _ 1 x (by rfl) hlit L2 z2 ?_; intro v3 w3 ho3 hg3 hat3; have hb3 := hb2.trans (ho1.under hg3 z2); have z3 := hb3.size; have hd3 := hDD.ext hb3; obtain ⟨A3, c3, e3⟩ := ho3.form; rw [HLQ.out] at e3; subst e3)
    | (refine step1 _ (by rfl) _ _ (by rfl) w.heap.size _ (xs.take p) (by rfl) (ho1.alloc _) ⟨w2.heap.size, 0, none⟩ 1 x (by rfl) (cell_new1 _ _ _) L2 hl2 ?_; intro v3 w3 ho3 hg3 hat3; have hb3 := (hb2.alloc z2 (.cells #[.int .i64 x] 3)).trans ((ho1.alloc _).under hg3 hl2); have z3 := hb3.size; have hd3 := hDD.ext hb3; obtain ⟨A3, c3, e3⟩ := ho3.form; rw [HLQ.out] at e3; subst e3)
    | (refine stepI _ (by rfl) _ _ (by rfl) w.heap.size _ (xs.take p ++ [x]) (by rfl) ho3 _ _ _ (xs.drop p) (by rfl) hd3 L3 z3 ?_; intro v4 w4 ho4 hg4 hat4; have hb4 := hb3.trans (ho3.under hg4 z3)))
  all_goals
    go_wp2
    go_ret
    exact ⟨v4, rfl, by simpa [insAt] using ho4, hb4⟩

set_option maxRecDepth 100000 in
set_option maxHeartbeats 6400000 in
theorem insert_full (A : Option Addr) (p : Nat) (xs : List Int) (x : Int) (w : World) (h : Ints w (.slice A p p) xs) (hlen : xs.length = p) (hl : p ≤ 1000) :
    Calls Try.prog 144 #[.slice A p p, .int .i64 p, .int .i64 x] w (RetOwn w (insAt xs p x)) := by
  have hT : Hid (Ints w (.slice A p p) (xs.take p)) := by
    rw [List.take_of_length_le (Nat.le_of_eq hlen)]; exact h
  have hp : p ≤ xs.length := Nat.le_of_eq hlen.symm
  have hD : Hid (Ints w (.slice A 0 0) (xs.drop p)) := by
    rw [List.drop_of_length_le (Nat.le_of_eq hlen)]; exact Ints.empty (by unfold maxLen; omega)
  have HLT := hid (show (xs.take p).length ≤ 1000 by rw [List.length_take]; omega)
  have HLD := hid (show (xs.drop p).length ≤ 1000 by rw [List.length_drop]; omega)
  have hp0 : (0 : Int) ≤ (p : Int) := by omega
  have HPN := hid hlen
  clear hlen
  go_enter Try.func144, Try.ntmps144
  have HLP := hid (show (xs.take p).length = p by rw [List.length_take]; omega)
  have HLQ := hid (show (xs.take p ++ [x]).length = p + 1 by rw [List.length_append, List.length_take]; simp; omega)
  go_wp2_with fail
  have E1 : Own (w.alloc (.cells #[] 3)).drew w.heap.size (.slice (some ⟨w.heap.size, 0, none⟩) 0 0) [] := (Own.empty w rfl (Nat.le_refl _)).drew
  have E2 : Own ((w.alloc (.cells #[] 3)).alloc (.cells #[.int .i64 x] 3)).drew w.heap.size (.slice (some ⟨w.heap.size, 0, none⟩) 0 0) [] := ((Own.empty w rfl (Nat.le_refl _)).alloc _).drew
  have E3 : Own ((w.alloc (.cells #[.int .i64 x] 3)).alloc (.cells #[] 3)).drew w.heap.size (.slice (some ⟨w.heap.size + 1, 0, none⟩) 0 0) [] := (Own.empty (w.alloc (.cells #[.int .i64 x] 3)) (by simp) (by omega)).drew
  have B1 : Below w.heap.size w (w.alloc (.cells #[] 3)).drew := (below_alloc w _).drew
  have B2 : Below w.heap.size w ((w.alloc (.cells #[] 3)).alloc (.cells #[.int .i64 x] 3)).drew := ((below_alloc w _).alloc (by simp) _).drew
  have B3 : Below w.heap.size w ((w.alloc (.cells #[.int .i64 x] 3)).alloc (.cells #[] 3)).drew := ((below_alloc w _).alloc (by simp) _).drew
  have C2 : Blk ((w.alloc (.cells #[] 3)).alloc (.cells #[.int .i64 x] 3)).drew (w.heap.size + 1) 3 #[.int .i64 x] := by
    have := Blk.new (w.alloc (.cells #[] 3)) 3 #[.int .i64 x]
    simp only [World.size_alloc] at this
    exact this
  have C3 : Blk ((w.alloc (.cells #[.int .i64 x] 3)).alloc (.cells #[] 3)).drew w.heap.size 3 #[.int .i64 x] := (Blk.new w 3 #[.int .i64 x]).alloc _
  have L1 : ([] : List Int).length + (xs.take p).length ≤ 1000000000000 := by have := HLT.out; simp only [List.length_nil]; omega
  have L2 : (xs.take p).length ≤ 1000000000000 := by have := HLT.out; omega
  have L3 : (xs.take p ++ [x]).length + (xs.drop p).length ≤ 1000000000000 := by have := HLT.out; have := HLD.out; simp only [List.length_append, List.length_cons, List.length_nil]; omega
  have T1 := hT.out.ext B1
  have T2 := hT.out.ext B2
  have T3 := hT.out.ext B3
  have Z1 := B1.size
  have Z2 := B2.size
  have Z3 := B3.size
  have hDD := hD.out
  have NE2 : w.heap.size + 1 ≠ w.heap.size := by omega
  have NE3 : w.heap.size ≠ w.heap.size + 1 := by omega
  go_region_law (first
    | (refine stepI _ (by rfl) _ _ (by rfl) w.heap.size _ [] (by rfl) E1 _ _ _ (xs.take p) (by rfl) T1 L1 Z1 ?_; intro v1 w2 ho1 hg1 hat1; rw [List.nil_append] at ho1; have hb2 := B1.trans (E1.under hg1 Z1); have z2 := hb2.size; have hl2 := le_alloc z2 (.cells #[.int .i64 x] 3); obtain ⟨A1, c1, e1⟩ := ho1.form; rw [HLP.out] at e1; subst e1)
    | (refine stepI _ (by rfl) _ _ (by rfl) w.heap.size _ [] (by rfl) E2 _ _ _ (xs.take p) (by rfl) T2 L1 Z2 ?_; intro v1 w2 ho1 hg1 hat1; rw [List.nil_append] at ho1; have hb2 := B2.trans (E2.under hg1 Z2); have z2 := hb2.size; have hlit := (Blk.grown (g' := w.heap.size) C2 hg1 NE2).cell 0; obtain ⟨A1, c1, e1⟩ := ho1.form; rw [HLP.out] at e1; subst e1)
    | (refine stepI _ (by rfl) _ _ (by rfl) w.heap.size _ [] (by rfl) E3 _ _ _ (xs.take p) (by rfl) T3 L1 Z3 ?_; intro v1 w2 ho1 hg1 hat1; rw [List.nil_append] at ho1; have hb2 := B3.trans (E3.under hg1 Z3); have z2 := hb2.size; have hlit := (Blk.grown (g' := w.heap.size + 1) C3 hg1 NE3).cell 0; obtain ⟨A1, c1, e1⟩ := ho1.form; rw [HLP.out] at e1; subst e1)
    | (refine step1 _ (by rfl) _ _ (by rfl) w.heap.size _ (xs.take p) (by rfl) ho1 _ 1 x (by rfl) hlit L2 z2 ?_; intro v3 w3 ho3 hg3 hat3; have hb3 := hb2.trans (ho1.under hg3 z2); have z3 := hb3.size; have hd3 := hDD.ext hb3; obtain ⟨A3, c3, e3⟩ := ho3.form; rw [HLQ.out] at e3; subst e3)
    | (refine step1 _ (by rfl) _ _ (by rfl) w.heap.size _ (xs.take p) (by rfl) (ho1.alloc _) ⟨w2.heap.size, 0, none⟩ 1 x (by rfl) (cell_new1 _ _ _) L2 hl2 ?_; intro v3 w3 ho3 hg3 hat3; have hb3 := (hb2.alloc z2 (.cells #[.int .i64 x] 3)).trans ((ho1.alloc _).under hg3 hl2); have z3 := hb3.size; have hd3 := hDD.ext hb3; obtain ⟨A3, c3, e3⟩ := ho3.form; rw [HLQ.out] at e3; subst e3)
    | (refine stepI _ (by rfl) _ _ (by rfl) w.heap.size _ (xs.take p ++ [x]) (by rfl) ho3 _ _ _ (xs.drop p) (by rfl) hd3 L3 z3 ?_; intro v4 w4 ho4 hg4 hat4; have hb4 := hb3.trans (ho3.under hg4 z3)))
  all_goals
    go_wp2
    go_ret
    exact ⟨v4, rfl, by simpa [insAt] using ho4, hb4⟩

set_option maxRecDepth 100000 in
set_option maxHeartbeats 6400000 in
theorem insert_nil (c : Nat) (x : Int) (w : World) (hc : c ≤ maxLen) :
    Calls Try.prog 144 #[.slice none 0 c, .int .i64 0, .int .i64 x] w (RetOwn w (insAt [] 0 x)) := by
  have hT := hid (Ints.empty (w := w) (A := none) hc)
  have hD := hid (Ints.empty (w := w) (A := none) hc)
  have HLT := hid (show ([] : List Int).length ≤ 1000 by simp)
  have HLD := hid (show ([] : List Int).length ≤ 1000 by simp)
  unfold maxLen at hc
  go_enter Try.func144, Try.ntmps144
  have HLP := hid (show ([] : List Int).length = 0 from rfl)
  have HLQ := hid (show (([] : List Int) ++ [x]).length = 1 from rfl)
  go_wp2_with fail
  have E1 : Own (w.alloc (.cells #[] 3)).drew w.heap.size (.slice (some ⟨w.heap.size, 0, none⟩) 0 0) [] := (Own.empty w rfl (Nat.le_refl _)).drew
  have E2 : Own ((w.alloc (.cells #[] 3)).alloc (.cells #[.int .i64 x] 3)).drew w.heap.size (.slice (some ⟨w.heap.size, 0, none⟩) 0 0) [] := ((Own.empty w rfl (Nat.le_refl _)).alloc _).drew
  have E3 : Own ((w.alloc (.cells #[.int .i64 x] 3)).alloc (.cells #[] 3)).drew w.heap.size (.slice (some ⟨w.heap.size + 1, 0, none⟩) 0 0) [] := (Own.empty (w.alloc (.cells #[.int .i64 x] 3)) (by simp) (by omega)).drew
  have B1 : Below w.heap.size w (w.alloc (.cells #[] 3)).drew := (below_alloc w _).drew
  have B2 : Below w.heap.size w ((w.alloc (.cells #[] 3)).alloc (.cells #[.int .i64 x] 3)).drew := ((below_alloc w _).alloc (by simp) _).drew
  have B3 : Below w.heap.size w ((w.alloc (.cells #[.int .i64 x] 3)).alloc (.cells #[] 3)).drew := ((below_alloc w _).alloc (by simp) _).drew
  have C2 : Blk ((w.alloc (.cells #[] 3)).alloc (.cells #[.int .i64 x] 3)).drew (w.heap.size + 1) 3 #[.int .i64 x] := by
    have := Blk.new (w.alloc (.cells #[] 3)) 3 #[.int .i64 x]
    simp only [World.size_alloc] at this
    exact this
  have C3 : Blk ((w.alloc (.cells #[.int .i64 x] 3)).alloc (.cells #[] 3)).drew w.heap.size 3 #[.int .i64 x] := (Blk.new w 3 #[.int .i64 x]).alloc _
  have L1 : ([] : List Int).length + (([] : List Int)).length ≤ 1000000000000 := by have := HLT.out; simp only [List.length_nil]; omega
  have L2 : (([] : List Int)).length ≤ 1000000000000 := by have := HLT.out; omega
  have L3 : (([] : List Int) ++ [x]).length + (([] : List Int)).length ≤ 1000000000000 := by have := HLT.out; have := HLD.out; simp only [List.length_append, List.length_cons, List.length_nil]; omega
  have T1 := hT.out.ext B1
  have T2 := hT.out.ext B2
  have T3 := hT.out.ext B3
  have Z1 := B1.size
  have Z2 := B2.size
  have Z3 := B3.size
  have hDD := hD.out
  have NE2 : w.heap.size + 1 ≠ w.heap.size := by omega
  have NE3 : w.heap.size ≠ w.heap.size + 1 := by omega
  go_region_law (first
    | (refine stepI _ (by rfl) _ _ (by rfl) w.heap.size _ [] (by rfl) E1 _ _ _ (([] : List Int)) (by rfl) T1 L1 Z1 ?_; intro v1 w2 ho1 hg1 hat1; rw [List.nil_append] at ho1; have hb2 := B1.trans (E1.under hg1 Z1); have z2 := hb2.size; have hl2 := le_alloc z2 (.cells #[.int .i64 x] 3); obtain ⟨A1, c1, e1⟩ := ho1.form; rw [HLP.out] at e1; subst e1)
    | (refine stepI _ (by rfl) _ _ (by rfl) w.heap.size _ [] (by rfl) E2 _ _ _ (([] : List Int)) (by rfl) T2 L1 Z2 ?_; intro v1 w2 ho1 hg1 hat1; rw [List.nil_append] at ho1; have hb2 := B2.trans (E2.under hg1 Z2); have z2 := hb2.size; have hlit := (Blk.grown (g' := w.heap.size) C2 hg1 NE2).cell 0; obtain ⟨A1, c1, e1⟩ := ho1.form; rw [HLP.out] at e1; subst e1)
    | (refine stepI _ (by rfl) _ _ (by rfl) w.heap.size _ [] (by rfl) E3 _ _ _ (([] : List Int)) (by rfl) T3 L1 Z3 ?_; intro v1 w2 ho1 hg1 hat1; rw [List.nil_append] at ho1; have hb2 := B3.trans (E3.under hg1 Z3); have z2 := hb2.size; have hlit := (Blk.grown (g' := w.heap.size + 1) C3 hg1 NE3).cell 0; obtain ⟨A1, c1, e1⟩ := ho1.form; rw [HLP.out] at e1; subst e1)
    | (refine step1 _ (by rfl) _ _ (by rfl) w.heap.size _ (([] : List Int)) (by rfl) ho1 _ 1 x (by rfl) hlit L2 z2 ?_; intro v3 w3 ho3 hg3 hat3; have hb3 := hb2.trans (ho1.under hg3 z2); have z3 := hb3.size; have hd3 := hDD.ext hb3; obtain ⟨A3, c3, e3⟩ := ho3.form; rw [HLQ.out] at e3; subst e3)
    | (refine step1 _ (by rfl) _ _ (by rfl) w.heap.size _ (([] : List Int)) (by rfl) (ho1.alloc _) ⟨w2.heap.size, 0, none⟩ 1 x (by rfl) (cell_new1 _ _ _) L2 hl2 ?_; intro v3 w3 ho3 hg3 hat3; have hb3 := (hb2.alloc z2 (.cells #[.int .i64 x] 3)).trans ((ho1.alloc _).under hg3 hl2); have z3 := hb3.size; have hd3 := hDD.ext hb3; obtain ⟨A3, c3, e3⟩ := ho3.form; rw [HLQ.out] at e3; subst e3)
    | (refine stepI _ (by rfl) _ _ (by rfl) w.heap.size _ (([] : List Int) ++ [x]) (by rfl) ho3 _ _ _ (([] : List Int)) (by rfl) hd3 L3 z3 ?_; intro v4 w4 ho4 hg4 hat4; have hb4 := hb3.trans (ho3.under hg4 z3)))
  all_goals
    go_wp2
    go_ret
    exact ⟨v4, rfl, by simpa [insAt] using ho4, hb4⟩

set_option maxRecDepth 100000 in
set_option maxHeartbeats 6400000 in
theorem insert_adr (a : Addr) (c : Nat) (hc0 : ¬ c = 0) (x : Int) (w : World) (hc : c ≤ maxLen) :
    Calls Try.prog 144 #[.slice (some a) 0 c, .int .i64 0, .int .i64 x] w (RetOwn w (insAt [] 0 x)) := by
  have hT := hid (Ints.empty (w := w) (A := some a) hc)
  have hD := hid (Ints.empty (w := w) (A := some a) hc)
  have HLT := hid (show ([] : List Int).length ≤ 1000 by simp)
  have HLD := hid (show ([] : List Int).length ≤ 1000 by simp)
  unfold maxLen at hc
  go_enter Try.func144, Try.ntmps144
  have HLP := hid (show ([] : List Int).length = 0 from rfl)
  have HLQ := hid (show (([] : List Int) ++ [x]).length = 1 from rfl)
  go_wp2_with fail
  have E1 : Own (w.alloc (.cells #[] 3)).drew w.heap.size (.slice (some ⟨w.heap.size, 0, none⟩) 0 0) [] := (Own.empty w rfl (Nat.le_refl _)).drew
  have E2 : Own ((w.alloc (.cells #[] 3)).alloc (.cells #[.int .i64 x] 3)).drew w.heap.size (.slice (some ⟨w.heap.size, 0, none⟩) 0 0) [] := ((Own.empty w rfl (Nat.le_refl _)).alloc _).drew
  have E3 : Own ((w.alloc (.cells #[.int .i64 x] 3)).alloc (.cells #[] 3)).drew w.heap.size (.slice (some ⟨w.heap.size + 1, 0, none⟩) 0 0) [] := (Own.empty (w.alloc (.cells #[.int .i64 x] 3)) (by simp) (by omega)).drew
  have B1 : Below w.heap.size w (w.alloc (.cells #[] 3)).drew := (below_alloc w _).drew
  have B2 : Below w.heap.size w ((w.alloc (.cells #[] 3)).alloc (.cells #[.int .i64 x] 3)).drew := ((below_alloc w _).alloc (by simp) _).drew
  have B3 : Below w.heap.size w ((w.alloc (.cells #[.int .i64 x] 3)).alloc (.cells #[] 3)).drew := ((below_alloc w _).alloc (by simp) _).drew
  have C2 : Blk ((w.alloc (.cells #[] 3)).alloc (.cells #[.int .i64 x] 3)).drew (w.heap.size + 1) 3 #[.int .i64 x] := by
    have := Blk.new (w.alloc (.cells #[] 3)) 3 #[.int .i64 x]
    simp only [World.size_alloc] at this
    exact this
  have C3 : Blk ((w.alloc (.cells #[.int .i64 x] 3)).alloc (.cells #[] 3)).drew w.heap.size 3 #[.int .i64 x] := (Blk.new w 3 #[.int .i64 x]).alloc _
  have L1 : ([] : List Int).length + (([] : List Int)).length ≤ 1000000000000 := by have := HLT.out; simp only [List.length_nil]; omega
  have L2 : (([] : List Int)).length ≤ 1000000000000 := by have := HLT.out; omega
  have L3 : (([] : List Int) ++ [x]).length + (([] : List Int)).length ≤ 1000000000000 := by have := HLT.out; have := HLD.out; simp only [List.length_append, List.length_cons, List.length_nil]; omega
  have T1 := hT.out.ext B1
  have T2 := hT.out.ext B2
  have T3 := hT.out.ext B3
  have Z1 := B1.size
  have Z2 := B2.size
  have Z3 := B3.size
  have hDD := hD.out
  have NE2 : w.heap.size + 1 ≠ w.heap.size := by omega
  have NE3 : w.heap.size ≠ w.heap.size + 1 := by omega
  go_region_law (first
    | (refine stepI _ (by rfl) _ _ (by rfl) w.heap.size _ [] (by rfl) E1 _ _ _ (([] : List Int)) (by rfl) T1 L1 Z1 ?_; intro v1 w2 ho1 hg1 hat1; rw [List.nil_append] at ho1; have hb2 := B1.trans (E1.under hg1 Z1); have z2 := hb2.size; have hl2 := le_alloc z2 (.cells #[.int .i64 x] 3); obtain ⟨A1, c1, e1⟩ := ho1.form; rw [HLP.out] at e1; subst e1)
    | (refine stepI _ (by rfl) _ _ (by rfl) w.heap.size _ [] (by rfl) E2 _ _ _ (([] : List Int)) (by rfl) T2 L1 Z2 ?_; intro v1 w2 ho1 hg1 hat1; rw [List.nil_append] at ho1; have hb2 := B2.trans (E2.under hg1 Z2); have z2 := hb2.size; have hlit := (Blk.grown (g' := w.heap.size) C2 hg1 NE2).cell 0; obtain ⟨A1, c1, e1⟩ := ho1.form; rw [HLP.out] at e1; subst e1)
    | (refine stepI _ (by rfl) _ _ (by rfl) w.heap.size _ [] (by rfl) E3 _ _ _ (([] : List Int)) (by rfl) T3 L1 Z3 ?_; intro v1 w2 ho1 hg1 hat1; rw [List.nil_append] at ho1; have hb2 := B3.trans (E3.under hg1 Z3); have z2 := hb2.size; have hlit := (Blk.grown (g' := w.heap.size + 1) C3 hg1 NE3).cell 0; obtain ⟨A1, c1, e1⟩ := ho1.form; rw [HLP.out] at e1; subst e1)
    | (refine step1 _ (by rfl) _ _ (by rfl) w.heap.size _ (([] : List Int)) (by rfl) ho1 _ 1 x (by rfl) hlit L2 z2 ?_; intro v3 w3 ho3 hg3 hat3; have hb3 := hb2.trans (ho1.under hg3 z2); have z3 := hb3.size; have hd3 := hDD.ext hb3; obtain ⟨A3, c3, e3⟩ := ho3.form; rw [HLQ.out] at e3; subst e3)
    | (refine step1 _ (by rfl) _ _ (by rfl) w.heap.size _ (([] : List Int)) (by rfl) (ho1.alloc _) ⟨w2.heap.size, 0, none⟩ 1 x (by rfl) (cell_new1 _ _ _) L2 hl2 ?_; intro v3 w3 ho3 hg3 hat3; have hb3 := (hb2.alloc z2 (.cells #[.int .i64 x] 3)).trans ((ho1.alloc _).under hg3 hl2); have z3 := hb3.size; have hd3 := hDD.ext hb3; obtain ⟨A3, c3, e3⟩ := ho3.form; rw [HLQ.out] at e3; subst e3)
    | (refine stepI _ (by rfl) _ _ (by rfl) w.heap.size _ (([] : List Int) ++ [x]) (by rfl) ho3 _ _ _ (([] : List Int)) (by rfl) hd3 L3 z3 ?_; intro v4 w4 ho4 hg4 hat4; have hb4 := hb3.trans (ho3.under hg4 z3)))
  all_goals
    go_wp2
    go_ret
    exact ⟨v4, rfl, by simpa [insAt] using ho4, hb4⟩

theorem insert_any (v : Value) (xs : List Int) (p : Nat) (x : Int) (w : World) (h : Ints w v xs) (hp : p ≤ xs.length) (hl : xs.length ≤ 1000) :
    Calls Try.prog 144 #[v, .int .i64 p, .int .i64 x] w (RetOwn w (insAt xs p x)) := by
  obtain ⟨A, c, rfl, hnc, hcm, h3⟩ := id h
  by_cases hcp : c = p
  · have hlen : xs.length = p := by omega
    rw [hcp, hlen] at h ⊢
    exact insert_full A p xs x w h hlen (by omega)
  · rcases Nat.eq_zero_or_pos xs.length with h0 | h0
    · have hx : xs = [] := List.length_eq_zero_iff.1 h0
      subst hx
      have hp0 : p = 0 := by simpa using hp
      subst hp0
      cases A with
      | none => exact insert_nil c x w hcm
      | some a => exact insert_adr a c (by omega) x w hcm
    · obtain ⟨b, off, rfl, -, -⟩ := h3 h0
      exact insert_some b off c p xs x w h hp hl (by omega)

end Go.Proofs.Ytldblcolnjkcaaa
