/- Contracts: values stored in a memory. No conditions. -/
import Derived.Test.YtmglcapjccbknaaK4
import Derived.Outline
import Derived.Deep.RegionHeld3
namespace Go.Proofs.Ytmglcapjccbknaa
open Go.RowKit

def putK (xs idx vals : List Int) (k : Nat) : List Int := ((idx.zip vals).take k).foldl (fun ys p => ys.set p.1.toNat p.2) xs
def putW (xs idx vals : List Int) : List Int := (idx.zip vals).foldl (fun ys p => ys.set p.1.toNat p.2) xs
theorem putK_snoc (xs idx vals : List Int) (k : Nat) (h : k < idx.length) (h' : k < vals.length) : putK xs idx vals (k + 1) = (putK xs idx vals k).set (idx[k]).toNat vals[k] := by
  unfold putK
  rw [take_snocI (idx.zip vals) k (by simp; omega), List.foldl_append, List.getElem_zip]
  rfl
theorem putK_all (xs idx vals : List Int) (k : Nat) (h : idx.length ≤ k) : putK xs idx vals k = putW xs idx vals := by
  unfold putK putW
  rw [List.take_of_length_le (by simp; omega)]
theorem foldl_set_length (ps : List (Int × Int)) (xs : List Int) : (ps.foldl (fun ys p => ys.set p.1.toNat p.2) xs).length = xs.length := by
  induction ps generalizing xs with
  | nil => rfl
  | cons i is ih => rw [List.foldl_cons, ih]; simp
theorem putW_length (xs idx vals : List Int) : (putW xs idx vals).length = xs.length := foldl_set_length _ _
def okStore (mem : List Int) (V : VL) (vals : List Int) : Bool := holdL mem V && decide ((vals.length : Int) = prodW V.shape) && vals.all (inR · 0 255)
def storeL (mem : List Int) (V : VL) (vals : List Int) : List Int := if okStore mem V vals then putW mem (offs V) vals else []
theorem storeL_len (mem : List Int) (V : VL) (vals : List Int) : (storeL mem V vals).length ≤ 60 := by
  unfold storeL
  split
  · rename_i h
    simp only [okStore, Bool.and_eq_true] at h
    rw [putW_length]; exact (isMemL_and (holdL_and h.1.1).1).1
  · simp
theorem okStore_and {mem : List Int} {V : VL} {vals : List Int} (h : okStore mem V vals = true) : holdL mem V = true ∧ vals.length = (offs V).length := by
  simp only [okStore, Bool.and_eq_true, decide_eq_true_eq] at h
  refine ⟨h.1.1, ?_⟩
  have := h.1.2
  simp [offs]; omega

set_option maxHeartbeats 400000 in
theorem canStore1_any (x : Int) (w : World) :
    Calls Try.prog 101 #[.int .i64 x] w fun e w' => e = .returned (.bool (!inR x 0 255)) ∧ w = w' := by
  go_enter Try.func101, Try.ntmps101
  go_wp2_with fail
  refine (isValue_any _ _).mono ?_; rintro e w' ⟨rfl, rfl⟩
  go_wp2
  go_ret
  exact ⟨rfl, rfl⟩
theorem cf_canStore1 (ar : Array Value) (w : World) : (callFunc 101 ar).run Try.prog w = .ok (.enter 101 ar) w := by kernel_rfl

set_option maxRecDepth 100000 in
set_option maxHeartbeats 1600000 in
theorem canStore_any (m v u : Value) (mem : List Int) (V : VL) (vals : List Int) (w : World) (hm : Ints w m mem) (hv : ViewV w v V) (hu : Ints w u vals) :
    Calls Try.prog 67 #[m, v, u] w fun e w' => e = .returned (.bool (okStore mem V vals)) ∧ Below w.heap.size w w' := by
  have hv0 := hv
  have hu0 := hu
  obtain ⟨sv, tv, rfl, hsv, htv⟩ := hv
  obtain ⟨A, c, rfl, hk, hmx, -⟩ := hu
  unfold maxLen at hmx
  have hB := Blk.new w 28 #[.int .i64 V.base, sv, tv]
  have hW := below_alloc w (.cells #[.int .i64 V.base, sv, tv] 28)
  cases c1 : holdL mem V
  · have HQ := hid (show okStore mem V vals = false by simp [okStore, c1])
    go_enter Try.func67, Try.ntmps67
    go_wp2_with fail
    refine (canHold_any _ _ mem V _ (hm.ext hW) (hv0.ext hW)).mono ?_; rintro e w1 ⟨rfl, hb1⟩
    go_wp2
    go_ret
    exact ⟨ret_bool HQ.out.symm, bstep hW hb1 hW.size⟩
  by_cases c2 : (vals.length : Int) = prodW V.shape
  · have HQ := hid (show okStore mem V vals = vals.all (inR · 0 255) by simp [okStore, c1, c2])
    have HN := hid (any_not_all vals (inR · 0 255))
    go_enter Try.func67, Try.ntmps67
    go_wp2_with fail
    refine (canHold_any _ _ mem V _ (hm.ext hW) (hv0.ext hW)).mono ?_; rintro e w1 ⟨rfl, hb1⟩
    obtain ⟨⟨q0, q1, q2⟩, -⟩ := (hB.ext hb1 (by simp)).all3
    have hb01 := bstep hW hb1 hW.size
    go_wp2_with fail
    refine (countOf_any _ V.shape _ (hsv.ext hb01)).mono ?_; rintro e w1' ⟨rfl, rfl⟩
    have c3 : ((vals.length : Int) == prodW V.shape) = true := by simp [c2]
    go_wp2_with fail
    refine (ContainsFunc_any 101 cf_canStore1 (fun x => !inR x 0 255) canStore1_any _ vals _ (hu0.ext hb01)).mono ?_; rintro e w' ⟨rfl, rfl⟩
    go_wp2
    go_ret
    exact ⟨ret_bool (HN.out.trans HQ.out.symm), hb01⟩
  · have HQ := hid (show okStore mem V vals = false by simp [okStore, c2])
    go_enter Try.func67, Try.ntmps67
    go_wp2_with fail
    refine (canHold_any _ _ mem V _ (hm.ext hW) (hv0.ext hW)).mono ?_; rintro e w1 ⟨rfl, hb1⟩
    obtain ⟨⟨q0, q1, q2⟩, -⟩ := (hB.ext hb1 (by simp)).all3
    have hb01 := bstep hW hb1 hW.size
    go_wp2_with fail
    refine (countOf_any _ V.shape _ (hsv.ext hb01)).mono ?_; rintro e w1' ⟨rfl, rfl⟩
    have c3 : ((vals.length : Int) == prodW V.shape) = false := by simp [c2]
    go_wp2
    go_ret
    exact ⟨ret_bool HQ.out.symm, hb01⟩

set_option maxRecDepth 100000 in
set_option maxHeartbeats 1600000 in
theorem storeView_any (m v u : Value) (mem : List Int) (V : VL) (vals : List Int) (w : World) (hm : Ints w m mem) (hv : ViewV w v V) (hu : Ints w u vals) (hok : holdL mem V = true) (hlen : vals.length = (offs V).length) :
    Calls Try.prog 69 #[m, v, u] w (RetOwn w (putW mem (offs V) vals)) := by
  have hv0 := hv
  obtain ⟨sv, tv, rfl, hsv, htv⟩ := hv
  have hB := Blk.new w 28 #[.int .i64 V.base, sv, tv]
  have hW := below_alloc w (.cells #[.int .i64 V.base, sv, tv] 28)
  have HV := hid (isViewL_and (holdL_and hok).2.1)
  have HF := hid (fitsL_all (holdL_and hok).2.2)
  have HL := hid (show (offs V).length ≤ 1000000 by have := shape_prod HV.out.1; simp [offs]; omega)
  have hlc : (offs V).length ≤ 1000000 := HL.out
  have hml : mem.length ≤ 60 := (isMemL_and (holdL_and hok).1).1
  have hm0 := hm
  obtain ⟨A, cc, em⟩ := hm0.form
  subst em
  obtain ⟨Au, cu, rfl, hu1, hu2, hu3⟩ := hu
  unfold maxLen at hu2
  go_enter Try.func69, Try.ntmps69
  generalize hw1 : w.alloc (.cells #[.int .i64 V.base, sv, tv] 28) = w1 at *
  have hb01 := hW
  have hx := (hm.ext hb01).ext (below_alloc w1 (.cells #[] 3))
  have ho := Own.empty w1 (B := w1.heap.size) rfl (Nat.le_refl _)
  have hz : ([] : List Int).length + mem.length ≤ 1000000000000 := by simp; omega
  go_wp2_with (at_builtin; (try rw [hw1]); refine appI _ rfl _ _ rfl w1.heap.size _ [] rfl ho _ _ _ mem rfl hx hz (by simp) ?_)
  intro v' w2 ho2' hg hat
  have hb2 : Below w1.heap.size w1 w2 := (below_alloc w1 _).trans (ho.under hg (by simp))
  have ho2 : Own w2 w1.heap.size v' mem := by simpa using ho2'
  clear hx ho hat hg ho2'
  have hb02 := bstep hb01 hb2 hb01.size
  obtain ⟨⟨q0, q1, q2⟩, -⟩ := (hB.ext hb2 hB.lt).all3
  go_wp2_with fail
  refine (offsetsOf_any _ V _ (hv0.ext hb02) HV.out.1 HV.out.2.1).mono ?_; rintro e w3 ⟨r, rfl, ho3, hb3⟩
  have hb03 := bstep hb02 hb3 hb02.size
  have ho2 := (ho2.ext hb3).mono hb01.size
  have hsg := Own.seg ‹Own w2 w1.heap.size v' mem›
  obtain ⟨A2, c2, e2⟩ := ho2.form
  subst e2
  obtain ⟨A3, c3, e3⟩ := ho3.form
  subst e3
  generalize hI : offs V = idx at *
  have hc3 : c3 ≤ 9223372036854775807 := by obtain ⟨_, _, e, _, h, _⟩ := ho3.ints; simp only [Value.slice.injEq] at e; obtain ⟨-, -, rfl⟩ := e; unfold maxLen at h; omega
  have hc2 : c2 ≤ 9223372036854775807 := by obtain ⟨_, _, e, _, h, _⟩ := ho2.ints; simp only [Value.slice.injEq] at e; obtain ⟨-, -, rfl⟩ := e; unfold maxLen at h; omega
  clear q0 q1 q2
  go_wp2
  go_loopw [16] (fun i wr => ∃ (k : Nat) (ys : List Int), k ≤ idx.length ∧ i = .int .i64 k ∧ ys.length = mem.length ∧ Hid (ys = putK mem idx vals k) ∧ Own wr w.heap.size (.slice A2 mem.length c2) ys ∧ Own wr w2.heap.size (.slice A3 idx.length c3) idx ∧ Below w.heap.size w wr) (fun i _ => idx.length - (intOf i).toNat)
  case atStart => exact ⟨0, _, Nat.zero_le _, rfl, rfl, hid rfl, ho2, ho3, hb03⟩
  case round =>
    obtain ⟨k, ys, hk, rfl, hyl, hyt, hown, hr, hb⟩ := hrel
    by_cases hlt : k < idx.length
    · obtain ⟨j0, j1⟩ := HF.out idx[k] (List.getElem_mem hlt)
      obtain ⟨j, hj⟩ : ∃ j : Nat, idx[k] = j := ⟨(idx[k]).toNat, by omega⟩
      have hkv : k < vals.length := by omega
      have hjl : j < mem.length := by omega
      have hjy : j < ys.length := by omega
      obtain ⟨g, cap, eg, hg1, hg2⟩ := hown.row (by omega)
      simp only [Value.slice.injEq] at eg
      obtain ⟨rfl, -, rfl⟩ := eg
      obtain ⟨g3, cap3, eg3, hg31, hg32⟩ := hr.row (by omega)
      simp only [Value.slice.injEq] at eg3
      obtain ⟨rfl, -, rfl⟩ := eg3
      obtain ⟨bu, offu, rfl, hltu, hcu⟩ := hu3 (by omega)
      have hxu := (hb.cell (p := ⟨bu, offu + k, none⟩) hltu).trans (hcu k vals[k] (by simp [hkv]))
      have hgs := (hsg g rfl).2
      have hx' := hr.cell k hlt
      rw [hj] at hx'
      have hy := hown.cell j hjy
      have hf := hown.free j
      have HO := hid (hown.put j vals[k])
      have HR := hid (hr.far (p := ⟨g, j, none⟩) hgs (.int .i64 vals[k]))
      have HB := hid (hb.setCell (p := ⟨g, j, none⟩) hg1 (.int .i64 vals[k]))
      have HL1 := hid hyl
      have HT := hid (show ys.set j vals[k] = putK mem idx vals (k + 1) by rw [putK_snoc mem idx vals k hlt hkv, hj, hyt.out]; rfl)
      have hml2 : mem.length ≤ 60 := hml
      clear hown hr hb j0 j1 hj hyt hcu hu3
      go_wp2
      go_roundw
      case rel => exact ⟨k + 1, _, by omega, by go_num, by rw [List.length_set]; exact HL1.out, HT, HO.out, HR.out, HB.out⟩
      case measure => simp [intOf]; omega
    · have HE := hid (show ys = putW mem idx vals by rw [hyt.out, putK_all _ _ _ _ (by omega)])
      go_wp2
      go_ret
      exact ⟨_, rfl, by rw [← HE.out]; exact hown, hb⟩

end Go.Proofs.Ytmglcapjccbknaa
