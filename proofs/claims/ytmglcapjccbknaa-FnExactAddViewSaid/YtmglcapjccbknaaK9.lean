/- Contracts: values added to a memory. No conditions. -/
import Derived.Test.YtmglcapjccbknaaK7
import Derived.Outline
import Derived.StillTailTactics
namespace Go.Proofs.Ytmglcapjccbknaa
open Go.RowKit

def addS (ys : List Int) (i v : Int) : List Int := ys.set i.toNat (Int.tmod (wrap64 (ys.getD i.toNat 0 + v)) 256)
def addK (xs idx vals : List Int) (k : Nat) : List Int := ((idx.zip vals).take k).foldl (fun ys p => addS ys p.1 p.2) xs
def addW (xs idx vals : List Int) : List Int := (idx.zip vals).foldl (fun ys p => addS ys p.1 p.2) xs
theorem addK_snoc (xs idx vals : List Int) (k : Nat) (h : k < idx.length) (h' : k < vals.length) : addK xs idx vals (k + 1) = addS (addK xs idx vals k) idx[k] vals[k] := by
  unfold addK
  rw [take_snocI (idx.zip vals) k (by simp; omega), List.foldl_append, List.getElem_zip]
  rfl
theorem addK_all (xs idx vals : List Int) (k : Nat) (h : idx.length ≤ k) : addK xs idx vals k = addW xs idx vals := by
  unfold addK addW
  rw [List.take_of_length_le (by simp; omega)]
theorem foldl_add_length (ps : List (Int × Int)) (xs : List Int) : (ps.foldl (fun ys p => addS ys p.1 p.2) xs).length = xs.length := by
  induction ps generalizing xs with
  | nil => rfl
  | cons i is ih => rw [List.foldl_cons, ih]; simp [addS]
theorem addW_length (xs idx vals : List Int) : (addW xs idx vals).length = xs.length := foldl_add_length _ _
def addL (mem : List Int) (V : VL) (vals : List Int) : List Int := if okStore mem V vals then addW mem (offs V) vals else []
theorem addL_len (mem : List Int) (V : VL) (vals : List Int) : (addL mem V vals).length ≤ 60 := by
  unfold addL
  split
  · rename_i h
    simp only [okStore, Bool.and_eq_true] at h
    rw [addW_length]; exact (isMemL_and (holdL_and h.1.1).1).1
  · simp
theorem tmod_small (x : Int) : wrap64 (Int.tmod x 256) = Int.tmod x 256 := by
  have h1 := Int.tmod_lt_of_pos x (b := 256) (by decide)
  have h2 : -256 < Int.tmod x 256 := Int.lt_tmod_of_pos x (by decide)
  exact wrap_small (by omega) (by omega)

set_option maxRecDepth 100000 in
set_option maxHeartbeats 1600000 in
theorem AddView_any (m v u : Value) (mem : List Int) (V : VL) (vals : List Int) (w : World) (hm : Ints w m mem) (hv : ViewV w v V) (hu : Ints w u vals) :
    Calls Try.prog 30 #[m, v, u] w (RetOwnB w (addL mem V vals) (okStore mem V vals)) := by
  have hv0 := hv
  obtain ⟨sv, tv, rfl, hsv, htv⟩ := hv
  have hB := Blk.new w 28 #[.int .i64 V.base, sv, tv]
  have hW := below_alloc w (.cells #[.int .i64 V.base, sv, tv] 28)
  cases c : okStore mem V vals
  · have HQ := hid (show addL mem V vals = [] by simp [addL, c])
    go_enter Try.func30, Try.ntmps30
    go_wp2_with fail
    refine (canStore_any _ _ _ mem V vals _ (hm.ext hW) (hv0.ext hW) (hu.ext hW)).mono ?_; rintro e w1 ⟨rfl, hb1⟩
    go_wp2
    go_ret2
    exact ⟨_, by rfl, by rw [HQ.out]; exact Own.nil _ _, bstep hW hb1 hW.size⟩
  · have HQ := hid (show addL mem V vals = addW mem (offs V) vals by simp [addL, c])
    have HS := hid (okStore_and c)
    have hu0 := hu
    have HV := hid (isViewL_and (holdL_and HS.out.1).2.1)
    have HF := hid (fitsL_all (holdL_and HS.out.1).2.2)
    have HL := hid (show (offs V).length ≤ 1000000 by have := shape_prod HV.out.1; simp [offs]; omega)
    have hlc : (offs V).length ≤ 1000000 := HL.out
    have hml : mem.length ≤ 60 := (isMemL_and (holdL_and HS.out.1).1).1
    have hm0 := hm
    obtain ⟨A, cc, em⟩ := hm0.form
    subst em
    obtain ⟨Au, cu, rfl, hu1, hu2, hu3⟩ := hu
    unfold maxLen at hu2
    go_enter Try.func30, Try.ntmps30
    go_wp2_with fail
    refine (canStore_any _ _ _ mem V vals _ (hm.ext hW) (hv0.ext hW) (hu0.ext hW)).mono ?_; rintro e w1 ⟨rfl, hb1⟩
    obtain ⟨⟨q0, q1, q2⟩, -⟩ := (hB.ext hb1 (by simp)).all3
    have hb01 := bstep hW hb1 hW.size
    have hx := (hm.ext hb01).ext (below_alloc w1 (.cells #[] 3))
    have ho := Own.empty w1 (B := w1.heap.size) rfl (Nat.le_refl _)
    have hz : ([] : List Int).length + mem.length ≤ 1000000000000 := by simp; omega
    go_wp2_with (at_builtin; refine appI _ rfl _ _ rfl w1.heap.size _ [] rfl ho _ _ _ mem rfl hx hz (by simp) ?_)
    intro v' w2 ho2' hg hat
    have hb2 : Below w1.heap.size w1 w2 := (below_alloc w1 _).trans (ho.under hg (by simp))
    have ho2 : Own w2 w1.heap.size v' mem := by simpa using ho2'
    clear q0 q1 q2 hx ho hat hg ho2'
    have hb02 := bstep hb01 hb2 hb01.size
    obtain ⟨⟨q0, q1, q2⟩, -⟩ := ((hB.ext hb1 (by simp)).ext hb2 (by have := hb1.size; simp at this; omega)).all3
    go_wp2_with fail
    refine (offsetsOf_any _ V _ (hv0.ext hb02) HV.out.1 HV.out.2.1).mono ?_; rintro e w3 ⟨r, rfl, ho3, hb3⟩
    have hb03 := bstep hb02 hb3 hb02.size
    have ho2 := (ho2.ext hb3).mono hb01.size
    have hsg := Own.seg ‹Own w2 w1.heap.size v' mem›
    obtain ⟨A2, c2, e2⟩ := ho2.form
    subst e2
    obtain ⟨A3, c3, e3⟩ := ho3.form
    subst e3
    generalize hI : offs V = idx at *
    have hc3 : c3 ≤ 9223372036854775807 := by obtain ⟨_, _, e, _, h, _⟩ := ho3.ints; simp only [Value.slice.injEq] at e; obtain ⟨-, -, rfl⟩ := e; unfold maxLen at h; omega
    have hc2 : c2 ≤ 9223372036854775807 := by obtain ⟨_, _, e, _, h, _⟩ := ho2.ints; simp only [Value.slice.injEq] at e; obtain ⟨-, -, rfl⟩ := e; unfold maxLen at h; omega
    clear q0 q1 q2
    go_wp2
    go_loopw [22] (fun i wr => ∃ (k : Nat) (ys : List Int), k ≤ idx.length ∧ i = .int .i64 k ∧ ys.length = mem.length ∧ Hid (ys = addK mem idx vals k) ∧ Own wr w.heap.size (.slice A2 mem.length c2) ys ∧ Own wr w2.heap.size (.slice A3 idx.length c3) idx ∧ Below w.heap.size w wr) (fun i _ => idx.length - (intOf i).toNat)
    case atStart => exact ⟨0, _, Nat.zero_le _, rfl, rfl, hid rfl, ho2, ho3, hb03⟩
    case round =>
      obtain ⟨k, ys, hk, rfl, hyl, hyt, hown, hr, hb⟩ := hrel
      by_cases hlt : k < idx.length
      · obtain ⟨j0, j1⟩ := HF.out idx[k] (List.getElem_mem hlt)
        obtain ⟨j, hj⟩ : ∃ j : Nat, idx[k] = j := ⟨(idx[k]).toNat, by omega⟩
        have hkv : k < vals.length := by have := HS.out.2; omega
        have hjl : j < mem.length := by omega
        have hjy : j < ys.length := by omega
        obtain ⟨g, cap, eg, hg1, hg2⟩ := hown.row (by omega)
        simp only [Value.slice.injEq] at eg
        obtain ⟨rfl, -, rfl⟩ := eg
        obtain ⟨g3, cap3, eg3, hg31, hg32⟩ := hr.row (by omega)
        simp only [Value.slice.injEq] at eg3
        obtain ⟨rfl, -, rfl⟩ := eg3
        obtain ⟨bu, offu, rfl, hltu, hcu⟩ := hu3 (by omega)
        have hgd : ys.getD j 0 = ys[j] := by simp [hjy]
        have hxu := (hb.cell (p := ⟨bu, offu + k, none⟩) hltu).trans (hcu k vals[k] (by simp [hkv]))
        have hgs := (hsg g rfl).2
        have hx' := hr.cell k hlt
        rw [hj] at hx'
        have hy := hown.cell j hjy
        have hf := hown.free j
        have HO := hid (hown.put j (Int.tmod (wrap64 (ys[j] + vals[k])) 256))
        have HR := hid (hr.far (p := ⟨g, j, none⟩) hgs (.int .i64 (Int.tmod (wrap64 (ys[j] + vals[k])) 256)))
        have HB := hid (hb.setCell (p := ⟨g, j, none⟩) hg1 (.int .i64 (Int.tmod (wrap64 (ys[j] + vals[k])) 256)))
        have HL1 := hid hyl
        have HT := hid (show ys.set j (Int.tmod (wrap64 (ys[j] + vals[k])) 256) = addK mem idx vals (k + 1) by rw [addK_snoc mem idx vals k hlt hkv, hj, ← hyt.out]; unfold addS; rw [Int.toNat_natCast, hgd])
        have hml2 : mem.length ≤ 60 := hml
        clear hown hr hb j0 j1 hj hyt hcu hu3
        clear hgd
        go_wp2
        go_still_tail 13, (by kernel_rfl)
        all_goals (go_wp2; go_roundw)
        all_goals first
          | (case rel => exact ⟨k + 1, _, by omega, by go_num, by rw [List.length_set]; exact HL1.out, HT, HO.out.drew, HR.out.drew, HB.out.drew⟩)
          | (case measure => simp [intOf]; omega)
      · have HE := hid (show ys = addW mem idx vals by rw [hyt.out, addK_all _ _ _ _ (by omega)])
        go_wp2
        go_ret2
        exact ⟨_, by rfl, by rw [HQ.out, ← HE.out]; exact hown, hb⟩

set_option maxRecDepth 100000 in
set_option maxHeartbeats 1600000 in
theorem sAddView_any (m v u : Value) (mem : List Int) (V : VL) (vals : List Int) (w : World) (hm : Ints w m mem) (hv : ViewV w v V) (hu : Ints w u vals) :
    Calls Try.prog 29 #[m, v, u] w (RetOwnB w (addL mem V vals) (okStore mem V vals)) := by
  have hv0 := hv
  have hu0 := hu
  obtain ⟨sv, tv, rfl, hsv, htv⟩ := hv
  obtain ⟨Au, cu, rfl, hk, hmx, hu3⟩ := hu
  unfold maxLen at hmx
  have hB := Blk.new w 28 #[.int .i64 V.base, sv, tv]
  have hW := below_alloc w (.cells #[.int .i64 V.base, sv, tv] 28)
  cases c1 : holdL mem V
  · have HQ := hid (show okStore mem V vals = false ∧ addL mem V vals = [] by simp [addL, okStore, c1])
    go_enter Try.func29, Try.ntmps29
    go_wp2_with fail
    refine (sees_any _ _ mem V _ (hm.ext hW) (hv0.ext hW)).mono ?_; rintro e w1 ⟨rfl, hb1⟩
    go_wp2
    go_ret2
    exact ⟨_, by rw [HQ.out.1]; rfl, by rw [HQ.out.2]; exact Own.nil _ _, bstep hW hb1 hW.size⟩
  by_cases c2 : (vals.length : Int) = prodW V.shape
  · have c3 : ((vals.length : Int) != prodW V.shape) = false := by simp [c2]
    cases c4 : vals.all (inR · 0 255)
    · have HQ := hid (show okStore mem V vals = false ∧ addL mem V vals = [] by simp [addL, okStore, c1, c4])
      have HA := hid c4
      clear c4
      go_enter Try.func29, Try.ntmps29
      go_wp2_with fail
      refine (sees_any _ _ mem V _ (hm.ext hW) (hv0.ext hW)).mono ?_; rintro e w1 ⟨rfl, hb1⟩
      obtain ⟨⟨q0, q1, q2⟩, -⟩ := (hB.ext hb1 (by simp)).all3
      have hb01 := bstep hW hb1 hW.size
      go_wp2_with fail
      refine (count_any _ V.shape _ (hsv.ext hb01)).mono ?_; rintro e w1' ⟨rfl, rfl⟩
      go_wp2_with fail
      refine (allIn_any _ vals 0 255 _ (hu0.ext hb01)).mono ?_; rintro e w1' ⟨rfl, rfl⟩
      rw [HA.out]
      go_wp2
      go_ret2
      exact ⟨_, by rw [HQ.out.1]; rfl, by rw [HQ.out.2]; exact Own.nil _ _, hb01⟩
    · have HC := hid (show okStore mem V vals = true by simp only [okStore, c1, c2, c4]; simp)
      have HQ := hid (show addL mem V vals = addW mem (offs V) vals by simp only [addL, HC.out]; rfl)
      have HS := hid (okStore_and HC.out)
      have HV := hid (isViewL_and (holdL_and HS.out.1).2.1)
      have HF := hid (fitsL_all (holdL_and HS.out.1).2.2)
      have HL := hid (show (offs V).length ≤ 1000000 by have := shape_prod HV.out.1; simp [offs]; omega)
      have hlc : (offs V).length ≤ 1000000 := HL.out
      have hml : mem.length ≤ 60 := (isMemL_and (holdL_and HS.out.1).1).1
      have hm0 := hm
      obtain ⟨A, cc, em⟩ := hm0.form
      subst em
      have HA := hid c4
      clear c4
      go_enter Try.func29, Try.ntmps29
      go_wp2_with fail
      refine (sees_any _ _ mem V _ (hm.ext hW) (hv0.ext hW)).mono ?_; rintro e w1 ⟨rfl, hb1⟩
      obtain ⟨⟨q0, q1, q2⟩, -⟩ := (hB.ext hb1 (by simp)).all3
      have hb01 := bstep hW hb1 hW.size
      go_wp2_with fail
      refine (count_any _ V.shape _ (hsv.ext hb01)).mono ?_; rintro e w1' ⟨rfl, rfl⟩
      go_wp2_with fail
      refine (allIn_any _ vals 0 255 _ (hu0.ext hb01)).mono ?_; rintro e w1' ⟨rfl, rfl⟩
      rw [HA.out]
      go_wp2_with fail
      refine (copyInts_any _ mem _ (hm.ext hb01) (by omega)).mono ?_; rintro e w2 ⟨v', rfl, ho2, hb2⟩
      clear q0 q1 q2
      have hb02 := bstep hb01 hb2 hb01.size
      obtain ⟨⟨q0, q1, q2⟩, -⟩ := ((hB.ext hb1 (by simp)).ext hb2 (by have := hb1.size; simp at this; omega)).all3
      go_wp2_with fail
      refine (offsets_any _ V _ (hv0.ext hb02) HV.out.1 HV.out.2.1).mono ?_; rintro e w3 ⟨r, rfl, ho3, hb3⟩
      have hb03 := bstep hb02 hb3 hb02.size
      have ho2 := (ho2.ext hb3).mono hb01.size
      have hsg := Own.seg ‹Own w2 w1.heap.size v' mem›
      obtain ⟨A2, c2, e2⟩ := ho2.form
      subst e2
      obtain ⟨A3, c3, e3⟩ := ho3.form
      subst e3
      generalize hI : offs V = idx at *
      have hc3 : c3 ≤ 9223372036854775807 := by obtain ⟨_, _, e, _, h, _⟩ := ho3.ints; simp only [Value.slice.injEq] at e; obtain ⟨-, -, rfl⟩ := e; unfold maxLen at h; omega
      have hc2 : c2 ≤ 9223372036854775807 := by obtain ⟨_, _, e, _, h, _⟩ := ho2.ints; simp only [Value.slice.injEq] at e; obtain ⟨-, -, rfl⟩ := e; unfold maxLen at h; omega
      clear q0 q1 q2
      go_wp2
      go_loopw [10] (fun i wr => ∃ (k : Nat) (ys : List Int), k ≤ idx.length ∧ i = .int .i64 k ∧ ys.length = mem.length ∧ Hid (ys = addK mem idx vals k) ∧ Own wr w.heap.size (.slice A2 mem.length c2) ys ∧ Own wr w2.heap.size (.slice A3 idx.length c3) idx ∧ Below w.heap.size w wr) (fun i _ => idx.length - (intOf i).toNat)
      case atStart => exact ⟨0, _, Nat.zero_le _, rfl, rfl, hid rfl, ho2, ho3, hb03⟩
      case round =>
        obtain ⟨k, ys, hk, rfl, hyl, hyt, hown, hr, hb⟩ := hrel
        by_cases hlt : k < idx.length
        · obtain ⟨j0, j1⟩ := HF.out idx[k] (List.getElem_mem hlt)
          obtain ⟨j, hj⟩ : ∃ j : Nat, idx[k] = j := ⟨(idx[k]).toNat, by omega⟩
          have hkv : k < vals.length := by have := HS.out.2; omega
          have hjl : j < mem.length := by omega
          have hjy : j < ys.length := by omega
          obtain ⟨g, cap, eg, hg1, hg2⟩ := hown.row (by omega)
          simp only [Value.slice.injEq] at eg
          obtain ⟨rfl, -, rfl⟩ := eg
          obtain ⟨g3, cap3, eg3, hg31, hg32⟩ := hr.row (by omega)
          simp only [Value.slice.injEq] at eg3
          obtain ⟨rfl, -, rfl⟩ := eg3
          obtain ⟨bu, offu, rfl, hltu, hcu⟩ := hu3 (by omega)
          have hkp : (k : Int) < prodW V.shape := by omega
          have hgd : ys.getD j 0 = ys[j] := by simp [hjy]
          have hxu := (hb.cell (p := ⟨bu, offu + k, none⟩) hltu).trans (hcu k vals[k] (by simp [hkv]))
          have hgs := (hsg g rfl).2
          have hx' := hr.cell k hlt
          rw [hj] at hx'
          have hy := hown.cell j hjy
          have hf := hown.free j
          have HO := hid (hown.put j (Int.tmod (wrap64 (ys[j] + vals[k])) 256))
          have HR := hid (hr.far (p := ⟨g, j, none⟩) hgs (.int .i64 (Int.tmod (wrap64 (ys[j] + vals[k])) 256)))
          have HB := hid (hb.setCell (p := ⟨g, j, none⟩) hg1 (.int .i64 (Int.tmod (wrap64 (ys[j] + vals[k])) 256)))
          have HL1 := hid hyl
          have HT := hid (show ys.set j (Int.tmod (wrap64 (ys[j] + vals[k])) 256) = addK mem idx vals (k + 1) by rw [addK_snoc mem idx vals k hlt hkv, hj, ← hyt.out]; unfold addS; rw [Int.toNat_natCast, hgd])
          have hml2 : mem.length ≤ 60 := hml
          clear hown hr hb j0 j1 hj hyt hcu hu3
          clear hgd
          go_wp2
          go_still_tail 19, (by kernel_rfl)
          all_goals (go_wp2; go_roundw)
          all_goals first
            | (case rel => exact ⟨k + 1, _, by omega, by go_num, by rw [List.length_set]; exact HL1.out, HT, HO.out.drew, HR.out.drew, HB.out.drew⟩)
            | (case measure => simp [intOf]; omega)
        · have HE := hid (show ys = addW mem idx vals by rw [hyt.out, addK_all _ _ _ _ (by omega)])
          go_wp2
          go_ret2
          exact ⟨_, by rw [HC.out]; rfl, by rw [HQ.out, ← HE.out]; exact hown, hb⟩
  · have HQ := hid (show okStore mem V vals = false ∧ addL mem V vals = [] by simp [addL, okStore, c2])
    have c3 : ((vals.length : Int) != prodW V.shape) = true := by simp [c2]
    go_enter Try.func29, Try.ntmps29
    go_wp2_with fail
    refine (sees_any _ _ mem V _ (hm.ext hW) (hv0.ext hW)).mono ?_; rintro e w1 ⟨rfl, hb1⟩
    obtain ⟨⟨q0, q1, q2⟩, -⟩ := (hB.ext hb1 (by simp)).all3
    have hb01 := bstep hW hb1 hW.size
    go_wp2_with fail
    refine (count_any _ V.shape _ (hsv.ext hb01)).mono ?_; rintro e w1' ⟨rfl, rfl⟩
    go_wp2
    go_ret2
    exact ⟨_, by rw [HQ.out.1]; rfl, by rw [HQ.out.2]; exact Own.nil _ _, hb01⟩


end Go.Proofs.Ytmglcapjccbknaa
