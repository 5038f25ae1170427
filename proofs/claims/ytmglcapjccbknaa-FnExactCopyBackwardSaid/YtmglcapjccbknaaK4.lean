/- Contracts: memories filled by a value. No conditions. -/
import Derived.Test.YtmglcapjccbknaaK2
import Derived.Test.YtmglcapjccbknaaD1
import Derived.Outline
namespace Go.Proofs.Ytmglcapjccbknaa
open Go.RowKit

def fillW (xs idx : List Int) (x : Int) : List Int := idx.foldl (fun ys i => ys.set i.toNat x) xs
theorem fillW_snoc (xs idx : List Int) (x : Int) (k : Nat) (h : k < idx.length) : fillW xs (idx.take (k + 1)) x = (fillW xs (idx.take k) x).set (idx[k]).toNat x := by
  unfold fillW; rw [take_snocI idx k h, List.foldl_append]; rfl
theorem fillW_length (xs idx : List Int) (x : Int) : (fillW xs idx x).length = xs.length := by
  unfold fillW
  induction idx generalizing xs with
  | nil => rfl
  | cons i is ih => rw [List.foldl_cons, ih]; simp
def okFill (mem : List Int) (V : VL) (x : Int) : Bool := holdL mem V && inR x 0 255
def fillL (mem : List Int) (V : VL) (x : Int) : List Int := if okFill mem V x then fillW mem (offs V) x else []
theorem fillL_len (mem : List Int) (V : VL) (x : Int) : (fillL mem V x).length ≤ 60 := by
  unfold fillL
  split
  · rename_i h
    simp only [okFill, Bool.and_eq_true] at h
    rw [fillW_length]; exact (isMemL_and (holdL_and h.1).1).1
  · simp
def RetOwnB (w : World) (xs : List Int) (b : Bool) (e : Ending) (w' : World) : Prop := ∃ r, e = .returned (.tuple #[r, .bool b]) ∧ Own w' w.heap.size r xs ∧ Below w.heap.size w w'
theorem Ints.len {w : World} {v : Value} {xs : List Int} (h : Ints w v xs) : xs.length ≤ maxLen := by
  obtain ⟨A, c, rfl, h1, h2, h3⟩ := h
  omega

set_option maxRecDepth 100000 in
set_option maxHeartbeats 1600000 in
theorem FillView_any (m v : Value) (mem : List Int) (V : VL) (x : Int) (w : World) (hm : Ints w m mem) (hv : ViewV w v V) (_hx : -9223372036854775808 ≤ x ∧ x ≤ 9223372036854775807) :
    Calls Try.prog 28 #[m, v, .int .i64 x] w (RetOwnB w (fillL mem V x) (okFill mem V x)) := by
  have hv0 := hv
  obtain ⟨sv, tv, rfl, hsv, htv⟩ := hv
  have hB := Blk.new w 28 #[.int .i64 V.base, sv, tv]
  have hW := below_alloc w (.cells #[.int .i64 V.base, sv, tv] 28)
  cases c : holdL mem V
  · have HQ := hid (show okFill mem V x = false ∧ fillL mem V x = [] by simp [okFill, fillL, c])
    go_enter Try.func28, Try.ntmps28
    go_wp2_with fail
    refine (canHold_any _ _ mem V _ (hm.ext hW) (hv0.ext hW)).mono ?_; rintro e w1 ⟨rfl, hb1⟩
    go_wp2
    go_ret2
    exact ⟨_, by rw [HQ.out.1]; rfl, by rw [HQ.out.2]; exact Own.nil _ _, bstep hW hb1 hW.size⟩
  · cases d : inR x 0 255
    · have HQ := hid (show okFill mem V x = false ∧ fillL mem V x = [] by simp [okFill, fillL, c, d])
      go_enter Try.func28, Try.ntmps28
      go_wp2_with fail
      refine (canHold_any _ _ mem V _ (hm.ext hW) (hv0.ext hW)).mono ?_; rintro e w1 ⟨rfl, hb1⟩
      go_wp2_with fail
      refine (isValue_any x _).mono ?_; rintro e w1' ⟨rfl, rfl⟩
      go_wp2
      go_ret2
      exact ⟨_, by rw [HQ.out.1]; rfl, by rw [HQ.out.2]; exact Own.nil _ _, bstep hW hb1 hW.size⟩
    · have HQ := hid (show okFill mem V x = true ∧ fillL mem V x = fillW mem (offs V) x by simp [okFill, fillL, c, d])
      have HV := hid (isViewL_and (holdL_and c).2.1)
      have HF := hid (fitsL_all (holdL_and c).2.2)
      have HL := hid (show (offs V).length ≤ 1000000 by have := shape_prod HV.out.1; simp [offs]; omega)
      have hlc : (offs V).length ≤ 1000000 := HL.out
      have hml : mem.length ≤ 60 := (isMemL_and (holdL_and c).1).1
      have hm0 := hm
      obtain ⟨A, cc, em⟩ := hm0.form
      subst em
      go_enter Try.func28, Try.ntmps28
      go_wp2_with fail
      refine (canHold_any _ _ mem V _ (hm.ext hW) (hv0.ext hW)).mono ?_; rintro e w1 ⟨rfl, hb1⟩
      obtain ⟨⟨q0, q1, q2⟩, -⟩ := (hB.ext hb1 (by simp)).all3
      have hb01 := bstep hW hb1 hW.size
      go_wp2_with fail
      refine (isValue_any x _).mono ?_; rintro e w1' ⟨rfl, rfl⟩
      have hx := (hm.ext hb01).ext (below_alloc w1 (.cells #[] 3))
      have ho := Own.empty w1 (B := w1.heap.size) rfl (Nat.le_refl _)
      have hz : ([] : List Int).length + mem.length ≤ 1000000000000 := by simp; omega
      go_wp2_with (at_builtin; refine appI _ rfl _ _ rfl w1.heap.size _ [] rfl ho _ _ _ mem rfl hx hz (by simp) ?_)
      intro v' w2 ho2' hg hat
      have hb2 : Below w1.heap.size w1 w2 := (below_alloc w1 _).trans (ho.under hg (by simp))
      have ho2 : Own w2 w1.heap.size v' mem := by simpa using ho2'
      clear q0 q1 q2 hx ho hat hg ho2'
      have hb02 := bstep hb01 hb2 hb01.size
      obtain ⟨⟨q0, q1, q2⟩, -⟩ := ((hB.ext hb1 (by simp)).ext hb2 (by have := hb1.size; simp at this; omega)).all3
      go_wp2_with fail
      refine (offsetsOf_any _ V _ (hv0.ext hb02) HV.out.1 HV.out.2.1).mono ?_; rintro e w3 ⟨r, rfl, ho3, hb3⟩
      have hb03 := bstep hb02 hb3 hb02.size
      have ho2 := (ho2.ext hb3).mono hb01.size
      have hsg := Own.seg ‹Own w2 w1.heap.size v' mem›
      obtain ⟨A2, c2, e2⟩ := ho2.form
      subst e2
      obtain ⟨A3, c3, e3⟩ := ho3.form
      subst e3
      generalize hI : offs V = idx at *
      have hc3 : c3 ≤ 9223372036854775807 := by obtain ⟨_, _, e, _, h, _⟩ := ho3.ints; simp only [Value.slice.injEq] at e; obtain ⟨-, -, rfl⟩ := e; unfold maxLen at h; omega
      have hc2 : c2 ≤ 9223372036854775807 := by obtain ⟨_, _, e, _, h, _⟩ := ho2.ints; simp only [Value.slice.injEq] at e; obtain ⟨-, -, rfl⟩ := e; unfold maxLen at h; omega
      clear q0 q1 q2
      go_wp2
      go_loopw [26] (fun i wr => ∃ (k : Nat) (ys : List Int), k ≤ idx.length ∧ i = .int .i64 k ∧ ys.length = mem.length ∧ Hid (ys = fillW mem (idx.take k) x) ∧ Own wr w.heap.size (.slice A2 mem.length c2) ys ∧ Own wr w2.heap.size (.slice A3 idx.length c3) idx ∧ Below w.heap.size w wr) (fun i _ => idx.length - (intOf i).toNat)
      case atStart => exact ⟨0, _, Nat.zero_le _, rfl, rfl, hid rfl, ho2, ho3, hb03⟩
      case round =>
        obtain ⟨k, ys, hk, rfl, hyl, hyt, hown, hr, hb⟩ := hrel
        by_cases hlt : k < idx.length
        · obtain ⟨j0, j1⟩ := HF.out idx[k] (List.getElem_mem hlt)
          obtain ⟨j, hj⟩ : ∃ j : Nat, idx[k] = j := ⟨(idx[k]).toNat, by omega⟩
          have hjl : j < mem.length := by omega
          have hjy : j < ys.length := by omega
          obtain ⟨g, cap, eg, hg1, hg2⟩ := hown.row (by omega)
          simp only [Value.slice.injEq] at eg
          obtain ⟨rfl, -, rfl⟩ := eg
          obtain ⟨g3, cap3, eg3, hg31, hg32⟩ := hr.row (by omega)
          simp only [Value.slice.injEq] at eg3
          obtain ⟨rfl, -, rfl⟩ := eg3
          have hgs := (hsg g rfl).2
          have hx' := hr.cell k hlt
          rw [hj] at hx'
          have hy := hown.cell j hjy
          have hf := hown.free j
          have HO := hid (hown.put j x)
          have HR := hid (hr.far (p := ⟨g, j, none⟩) hgs (.int .i64 x))
          have HB := hid (hb.setCell (p := ⟨g, j, none⟩) hg1 (.int .i64 x))
          have HL1 := hid hyl
          have HT := hid (show ys.set j x = fillW mem (idx.take (k + 1)) x by rw [fillW_snoc mem idx x k hlt, hj, hyt.out]; rfl)
          have hml2 : mem.length ≤ 60 := hml
          clear hown hr hb j0 j1 hj hyt
          go_wp2
          go_roundw
          case rel => exact ⟨k + 1, _, by omega, by go_num, by rw [List.length_set]; exact HL1.out, HT, HO.out, HR.out, HB.out⟩
          case measure => simp [intOf]; omega
        · have HE := hid (show ys = fillW mem idx x by rw [hyt.out, List.take_of_length_le (by omega)])
          go_wp2
          go_ret2
          exact ⟨_, by rw [HQ.out.1]; rfl, by rw [HQ.out.2, ← HE.out]; exact hown, hb⟩

set_option maxRecDepth 100000 in
set_option maxHeartbeats 1600000 in
theorem sFillView_any (m v : Value) (mem : List Int) (V : VL) (x : Int) (w : World) (hm : Ints w m mem) (hv : ViewV w v V) (_hx : -9223372036854775808 ≤ x ∧ x ≤ 9223372036854775807) :
    Calls Try.prog 27 #[m, v, .int .i64 x] w (RetOwnB w (fillL mem V x) (okFill mem V x)) := by
  have hv0 := hv
  obtain ⟨sv, tv, rfl, hsv, htv⟩ := hv
  have hB := Blk.new w 28 #[.int .i64 V.base, sv, tv]
  have hW := below_alloc w (.cells #[.int .i64 V.base, sv, tv] 28)
  cases c : holdL mem V
  · have HQ := hid (show okFill mem V x = false ∧ fillL mem V x = [] by simp [okFill, fillL, c])
    go_enter Try.func27, Try.ntmps27
    go_wp2_with fail
    refine (sees_any _ _ mem V _ (hm.ext hW) (hv0.ext hW)).mono ?_; rintro e w1 ⟨rfl, hb1⟩
    go_wp2
    go_ret2
    exact ⟨_, by rw [HQ.out.1]; rfl, by rw [HQ.out.2]; exact Own.nil _ _, bstep hW hb1 hW.size⟩
  · cases d : inR x 0 255
    · have HQ := hid (show okFill mem V x = false ∧ fillL mem V x = [] by simp [okFill, fillL, c, d])
      go_enter Try.func27, Try.ntmps27
      go_wp2_with fail
      refine (sees_any _ _ mem V _ (hm.ext hW) (hv0.ext hW)).mono ?_; rintro e w1 ⟨rfl, hb1⟩
      go_wp2_with fail
      refine (inRange_any x 0 255 _).mono ?_; rintro e w1' ⟨rfl, rfl⟩
      go_wp2
      go_ret2
      exact ⟨_, by rw [HQ.out.1]; rfl, by rw [HQ.out.2]; exact Own.nil _ _, bstep hW hb1 hW.size⟩
    · have HQ := hid (show okFill mem V x = true ∧ fillL mem V x = fillW mem (offs V) x by simp [okFill, fillL, c, d])
      have HV := hid (isViewL_and (holdL_and c).2.1)
      have HF := hid (fitsL_all (holdL_and c).2.2)
      have HL := hid (show (offs V).length ≤ 1000000 by have := shape_prod HV.out.1; simp [offs]; omega)
      have hlc : (offs V).length ≤ 1000000 := HL.out
      have hml : mem.length ≤ 60 := (isMemL_and (holdL_and c).1).1
      have hm0 := hm
      obtain ⟨A, cc, em⟩ := hm0.form
      subst em
      go_enter Try.func27, Try.ntmps27
      go_wp2_with fail
      refine (sees_any _ _ mem V _ (hm.ext hW) (hv0.ext hW)).mono ?_; rintro e w1 ⟨rfl, hb1⟩
      obtain ⟨⟨q0, q1, q2⟩, -⟩ := (hB.ext hb1 (by simp)).all3
      have hb01 := bstep hW hb1 hW.size
      go_wp2_with fail
      refine (inRange_any x 0 255 _).mono ?_; rintro e w1' ⟨rfl, rfl⟩
      go_wp2_with fail
      refine (copyInts_any _ mem _ (hm.ext hb01) (by omega)).mono ?_; rintro e w2 ⟨v', rfl, ho2, hb2⟩
      clear q0 q1 q2
      have hb02 := bstep hb01 hb2 hb01.size
      obtain ⟨⟨q0, q1, q2⟩, -⟩ := ((hB.ext hb1 (by simp)).ext hb2 (by have := hb1.size; simp at this; omega)).all3
      go_wp2_with fail
      refine (offsets_any _ V _ (hv0.ext hb02) HV.out.1 HV.out.2.1).mono ?_; rintro e w3 ⟨r, rfl, ho3, hb3⟩
      have hb03 := bstep hb02 hb3 hb02.size
      have ho2 := (ho2.ext hb3).mono hb01.size
      have hsg := Own.seg ‹Own w2 w1.heap.size v' mem›
      obtain ⟨A2, c2, e2⟩ := ho2.form
      subst e2
      obtain ⟨A3, c3, e3⟩ := ho3.form
      subst e3
      generalize hI : offs V = idx at *
      have hc3 : c3 ≤ 9223372036854775807 := by obtain ⟨_, _, e, _, h, _⟩ := ho3.ints; simp only [Value.slice.injEq] at e; obtain ⟨-, -, rfl⟩ := e; unfold maxLen at h; omega
      have hc2 : c2 ≤ 9223372036854775807 := by obtain ⟨_, _, e, _, h, _⟩ := ho2.ints; simp only [Value.slice.injEq] at e; obtain ⟨-, -, rfl⟩ := e; unfold maxLen at h; omega
      clear q0 q1 q2
      go_wp2
      go_loopw [10] (fun i wr => ∃ (k : Nat) (ys : List Int), k ≤ idx.length ∧ i = .int .i64 k ∧ ys.length = mem.length ∧ Hid (ys = fillW mem (idx.take k) x) ∧ Own wr w.heap.size (.slice A2 mem.length c2) ys ∧ Own wr w2.heap.size (.slice A3 idx.length c3) idx ∧ Below w.heap.size w wr) (fun i _ => idx.length - (intOf i).toNat)
      case atStart => exact ⟨0, _, Nat.zero_le _, rfl, rfl, hid rfl, ho2, ho3, hb03⟩
      case round =>
        obtain ⟨k, ys, hk, rfl, hyl, hyt, hown, hr, hb⟩ := hrel
        by_cases hlt : k < idx.length
        · obtain ⟨j0, j1⟩ := HF.out idx[k] (List.getElem_mem hlt)
          obtain ⟨j, hj⟩ : ∃ j : Nat, idx[k] = j := ⟨(idx[k]).toNat, by omega⟩
          have hjl : j < mem.length := by omega
          have hjy : j < ys.length := by omega
          obtain ⟨g, cap, eg, hg1, hg2⟩ := hown.row (by omega)
          simp only [Value.slice.injEq] at eg
          obtain ⟨rfl, -, rfl⟩ := eg
          obtain ⟨g3, cap3, eg3, hg31, hg32⟩ := hr.row (by omega)
          simp only [Value.slice.injEq] at eg3
          obtain ⟨rfl, -, rfl⟩ := eg3
          have hgs := (hsg g rfl).2
          have hx' := hr.cell k hlt
          rw [hj] at hx'
          have hy := hown.cell j hjy
          have hf := hown.free j
          have HO := hid (hown.put j x)
          have HR := hid (hr.far (p := ⟨g, j, none⟩) hgs (.int .i64 x))
          have HB := hid (hb.setCell (p := ⟨g, j, none⟩) hg1 (.int .i64 x))
          have HL1 := hid hyl
          have HT := hid (show ys.set j x = fillW mem (idx.take (k + 1)) x by rw [fillW_snoc mem idx x k hlt, hj, hyt.out]; rfl)
          have hml2 : mem.length ≤ 60 := hml
          clear hown hr hb j0 j1 hj hyt
          go_wp2
          go_roundw
          case rel => exact ⟨k + 1, _, by omega, by go_num, by rw [List.length_set]; exact HL1.out, HT, HO.out, HR.out, HB.out⟩
          case measure => simp [intOf]; omega
        · have HE := hid (show ys = fillW mem idx x by rw [hyt.out, List.take_of_length_le (by omega)])
          go_wp2
          go_ret2
          exact ⟨_, by rw [HQ.out.1]; rfl, by rw [HQ.out.2, ← HE.out]; exact hown, hb⟩

end Go.Proofs.Ytmglcapjccbknaa
