/- Contracts: ranks, indices, strides, counts of shapes, the exported functions. No conditions. -/
import Derived.Test.YtldblcolnjkcaaaC6a
import Derived.Test.YtldblcolnjkcaaaC9a
import Derived.Test.YtldblcolnjkcaaaV4
import Derived.Test.YtldblcolnjkcaaaRKp
import Derived.Test.YtldblcolnjkcaaaIE
import Derived.Deep.LoopGhost
namespace Go.Proofs.Ytldblcolnjkcaaa
open Go.RowKit

/-- The rank of an index, or -1. -/
def rankOfL (s i : List Int) : Int := if isShapeL s && isIndexL s i then rankW s i else -1
theorem rankOf_no {s i : List Int} (h : (isShapeL s && isIndexL s i) = false) : rankOfL s i = -1 := by simp [rankOfL, h]
theorem index_len {s i : List Int} (h : isIndexL s i = true) : i.length = s.length := by
  simp only [isIndexL, Bool.and_eq_true, decide_eq_true_eq] at h; exact h.1
theorem index_box {s i : List Int} (h : isIndexL s i = true) : InBox i s := by
  simp only [isIndexL, Bool.and_eq_true, decide_eq_true_eq, List.all_eq_true, inR_iff] at h
  refine box_iff.2 ⟨h.1, fun k h1 h2 => ?_⟩
  have hk : k < (s.zip i).length := by simp; omega
  have := h.2 (s.zip i)[k] (List.getElem_mem hk)
  simp only [List.getElem_zip] at this
  omega

set_option maxRecDepth 100000 in
set_option maxHeartbeats 6400000 in
theorem sRankOf_any (v iv : Value) (s i : List Int) (w : World) (h : Ints w v s) (hi : Ints w iv i) :
    Calls Try.prog 17 #[v, iv] w fun e w' => e = .returned (.int .i64 (rankOfL s i)) ∧ Below w.heap.size w w' := by
  cases hs : isShapeL s
  · have HQ := hid (rankOf_no (s := s) (i := i) (by simp [hs]))
    have HS := hid hs
    clear hs
    go_enter Try.func17, Try.ntmps17
    go_wp2_with fail
    refine (validShape_any _ s _ h).mono ?_; rintro e w' ⟨rfl, rfl⟩
    rw [HS.out]
    go_wp2
    go_ret
    rw [HQ.out]
    exact ⟨rfl, Below.refl _ _⟩
  · have HS := hid hs
    have hx := (shape_ext hs).2.1
    cases hx2 : isIndexL s i
    · have HQ := hid (rankOf_no (s := s) (i := i) (by simp [hx2]))
      have HX := hid hx2
      clear hs hx2
      go_enter Try.func17, Try.ntmps17
      go_wp2_with fail
      refine (validShape_any _ s _ h).mono ?_; rintro e w' ⟨rfl, rfl⟩
      rw [HS.out]
      go_wp2_with fail
      refine (validIndex_any _ _ s i _ h hi hx).mono ?_; rintro e w1 ⟨rfl, hb⟩
      rw [HX.out]
      go_wp2
      go_ret
      rw [HQ.out]
      exact ⟨rfl, hb⟩
    · have HQ := hid (show rankOfL s i = rankW s i by simp [rankOfL, hs, hx2])
      have HX := hid hx2
      have HL := hid (index_len hx2)
      clear hs hx2
      go_enter Try.func17, Try.ntmps17
      go_wp2_with fail
      refine (validShape_any _ s _ h).mono ?_; rintro e w' ⟨rfl, rfl⟩
      rw [HS.out]
      go_wp2_with fail
      refine (validIndex_any _ _ s i _ h hi hx).mono ?_; rintro e w1 ⟨rfl, hb⟩
      rw [HX.out]
      go_wp2_with fail
      refine (rank_any _ _ s i _ (h.nx hb) (hi.nx hb) HL.out.symm).mono ?_; rintro e w2 ⟨rfl, hb2⟩
      go_wp2
      go_ret
      rw [HQ.out]
      exact ⟨rfl, hb.nx hb2 hb.size⟩

set_option maxRecDepth 100000 in
set_option maxHeartbeats 6400000 in
theorem RankOf_any (v iv : Value) (s i : List Int) (w : World) (h : Ints w v s) (hi : Ints w iv i) :
    Calls Try.prog 16 #[v, iv] w fun e w' => e = .returned (.int .i64 (rankOfL s i)) ∧ w = w' := by
  cases hs : isShapeL s
  · have HQ := hid (rankOf_no (s := s) (i := i) (by simp [hs]))
    have HS := hid hs
    clear hs
    go_enter Try.func16, Try.ntmps16
    go_wp2_with fail
    refine (isShape_any _ s _ h).mono ?_; rintro e w' ⟨rfl, rfl⟩
    rw [HS.out]
    go_wp2
    go_ret
    rw [HQ.out]
    exact ⟨rfl, rfl⟩
  · have HS := hid hs
    have hx := (shape_ext hs).2.1
    cases hx2 : isIndexL s i
    · have HQ := hid (rankOf_no (s := s) (i := i) (by simp [hx2]))
      have HX := hid hx2
      clear hs hx2
      go_enter Try.func16, Try.ntmps16
      go_wp2_with fail
      refine (isShape_any _ s _ h).mono ?_; rintro e w' ⟨rfl, rfl⟩
      rw [HS.out]
      go_wp2_with fail
      refine (isIndex_any _ _ s i _ h hi hx).mono ?_; rintro e w' ⟨rfl, rfl⟩
      rw [HX.out]
      go_wp2
      go_ret
      rw [HQ.out]
      exact ⟨rfl, rfl⟩
    · have HQ := hid (show rankOfL s i = rankW s i by simp [rankOfL, hs, hx2])
      have HX := hid hx2
      have hil := index_len hx2
      clear hs hx2
      have hV0 := h
      have hI0 := hi
      obtain ⟨A, c, rfl, hk, hm, -⟩ := h
      obtain ⟨A', c', rfl, hk', hm', -⟩ := hi
      unfold maxLen at hm hm'
      have HL := hid hil
      have hsl : (s.length : Int) ≤ 1000000000 := by have := (shape_ext HS.out).1; omega
      rw [hil] at hk' hI0 ⊢
      clear hil
      go_enter Try.func16, Try.ntmps16
      go_wp2_with fail
      refine (isShape_any _ s _ hV0).mono ?_; rintro e w' ⟨rfl, rfl⟩
      rw [HS.out]
      go_wp2_with fail
      refine (isIndex_any _ _ s i _ hV0 hI0 hx).mono ?_; rintro e w' ⟨rfl, rfl⟩
      rw [HX.out]
      clear hx
      go_wp2_with fail
      go_loopg [5, 6, 7, 19] s.length (fun m n z6 z7 z wr => ∃ k : Nat, k ≤ s.length ∧ m = s.length - k ∧ z = .int .i64 k ∧ n = .int .i64 (rankW (s.take k) i) ∧ wr = w)
      case atStart => exact ⟨0, Nat.zero_le _, rfl, rfl, by simp [rankW], rfl⟩
      case round =>
        obtain ⟨k, hk1, hm1, rfl, rfl, rfl⟩ := hrel
        have HM := hid hm1
        clear hm1
        by_cases hlt : k < s.length
        · have hki : (k : Int) < (s.length : Int) := by omega
          have hlt2 : k < i.length := by rw [HL.out]; exact hlt
          obtain ⟨b, off, rfl, hx⟩ := hV0.elem k hlt
          obtain ⟨b1, off1, rfl, hy⟩ := hI0.elem k hlt2
          have HSN := hid (rankW_snoc s i k hlt hlt2)
          generalize s[k] = S at *
          generalize i[k] = I at *
          generalize rankW (s.take k) i = R at *
          go_wp2
          go_roundg (s.length - (k + 1))
          case measure => have := HM.out; omega
          case rel => exact ⟨k + 1, by omega, rfl, by go_num, by rw [HSN.out], rfl⟩
        · have hki : ¬ (k : Int) < (s.length : Int) := by omega
          have HE := hid (show rankW (s.take k) i = rankW s i by rw [List.take_of_length_le (by omega)])
          go_wp2
          go_ret
          rw [HQ.out, HE.out]
          exact ⟨rfl, rfl⟩

set_option maxRecDepth 100000 in
set_option maxHeartbeats 6400000 in
theorem RowStrides_any (v : Value) (s : List Int) (w : World) (h : Ints w v s) (hs : isShapeL s = true) :
    Calls Try.prog 18 #[v] w (RetOwn w (rowS s)) := by
  have HS := hid hs
  go_enter Try.func18, Try.ntmps18
  go_wp2_with fail
  refine (isShape_any _ s _ h).mono ?_; rintro e w' ⟨rfl, rfl⟩
  rw [HS.out]
  go_wp2_with fail
  refine (irowStrides_any _ s _ h HS.out).mono ?_; rintro e w1 ⟨r, rfl, ho, hb⟩
  go_wp2
  go_ret
  exact ⟨r, rfl, ho, hb⟩

/-- How many indices a shape has, or -1. -/
def countL (s : List Int) : Int := if isShapeL s then prodI s else -1
set_option maxRecDepth 100000 in
set_option maxHeartbeats 6400000 in
theorem CountOf_any (v : Value) (s : List Int) (w : World) (h : Ints w v s) :
    Calls Try.prog 21 #[v] w fun e w' => e = .returned (.int .i64 (countL s)) ∧ w = w' := by
  cases hs : isShapeL s
  · have HS := hid hs
    have HQ := hid (show countL s = -1 by simp [countL, hs])
    clear hs
    go_enter Try.func21, Try.ntmps21
    go_wp2_with fail
    refine (isShape_any _ s _ h).mono ?_; rintro e w' ⟨rfl, rfl⟩
    rw [HS.out]
    go_wp2
    go_ret
    rw [HQ.out]
    exact ⟨rfl, rfl⟩
  · have HS := hid hs
    have HQ := hid (show countL s = prodW s by simp [countL, hs, (shape_prod hs).1])
    clear hs
    go_enter Try.func21, Try.ntmps21
    go_wp2_with fail
    refine (isShape_any _ s _ h).mono ?_; rintro e w' ⟨rfl, rfl⟩
    rw [HS.out]
    go_wp2_with fail
    refine (countOf_any _ s _ h).mono ?_; rintro e w' ⟨rfl, rfl⟩
    go_wp2
    go_ret
    rw [HQ.out]
    exact ⟨rfl, rfl⟩

set_option maxRecDepth 100000 in
set_option maxHeartbeats 6400000 in
theorem IndexAt_any (v : Value) (s : List Int) (r : Int) (w : World) (h : Ints w v s) (hs : isShapeL s = true) (hr : 0 ≤ r ∧ r < prodI s) :
    Calls Try.prog 20 #[v, .int .i64 r] w (RetOwn w (unr s r)) := by
  have HS := hid hs
  have hp := shape_prod hs
  have HP := hid hp.1
  have hr0 : ¬ r < 0 := by omega
  have hr1 : ¬ prodI s ≤ r := by omega
  have hse := shape_ext hs
  have HPOS := hid (fun x (hx : x ∈ s) => And.intro (prodI_pos (fun y hy => (hse.2.1 y hy).1) (by omega) x hx) (hse.2.1 x hx).2)
  have hl := hse.1
  have hr2 : r ≤ 100 := by omega
  clear hs hp hse
  go_enter Try.func20, Try.ntmps20
  go_wp2_with fail
  refine (isShape_any _ s _ h).mono ?_; rintro e w' ⟨rfl, rfl⟩
  rw [HS.out]
  go_wp2_with fail
  refine (countOf_any _ s _ h).mono ?_; rintro e w' ⟨rfl, rfl⟩
  rw [HP.out]
  go_wp2_with fail
  refine (indexAt_any _ s r _ h HPOS.out hl hr.1 hr2).mono ?_; rintro e w1 ⟨u, rfl, ho, hb⟩
  go_wp2
  go_ret
  exact ⟨u, rfl, ho, hb⟩

end Go.Proofs.Ytldblcolnjkcaaa
