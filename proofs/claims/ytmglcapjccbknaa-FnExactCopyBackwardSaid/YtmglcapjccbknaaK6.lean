/- Contracts: values stored in a memory, of the reference. No conditions. -/
import Derived.Test.YtmglcapjccbknaaK5
import Derived.Outline
import Derived.BigRegion
namespace Go.Proofs.Ytmglcapjccbknaa
open Go.RowKit

set_option maxRecDepth 100000 in
set_option maxHeartbeats 1600000 in
theorem put_any (m v u : Value) (mem : List Int) (V : VL) (vals : List Int) (w : World) (hm : Ints w m mem) (hv : ViewV w v V) (hu : Ints w u vals) (hok : holdL mem V = true) (hlen : vals.length = (offs V).length) :
    Calls Try.prog 68 #[m, v, u] w (RetOwn w (putW mem (offs V) vals)) := by
  have hv0 := hv
  obtain ⟨sv, tv, rfl, hsv, htv⟩ := hv
  have hB := Blk.new w 28 #[.int .i64 V.base, sv, tv]
  have hW := below_alloc w (.cells #[.int .i64 V.base, sv, tv] 28)
  have HV := hid (isViewL_and (holdL_and hok).2.1)
  have HF := hid (fitsL_all (holdL_and hok).2.2)
  have HL := hid (show (offs V).length ≤ 1000000 by have := shape_prod HV.out.1; simp [offs]; omega)
  have hlc : (offs V).length ≤ 1000000 := HL.out
  have hml : mem.length ≤ 60 := (isMemL_and (holdL_and hok).1).1
  have hm0 := hm
  obtain ⟨A, cc, em⟩ := hm0.form
  subst em
  obtain ⟨Au, cu, rfl, hu1, hu2, hu3⟩ := hu
  unfold maxLen at hu2
  go_enter Try.func68, Try.ntmps68
  go_wp2_with fail
  generalize hw1 : w.alloc (.cells #[.int .i64 V.base, sv, tv] 28) = w1 at *
  have hb01 := hW
  refine (copyInts_any _ mem _ (hm.ext hb01) (by omega)).mono ?_; rintro e w2 ⟨v', rfl, ho2, hb2⟩
  have hb02 := bstep hb01 hb2 hb01.size
  obtain ⟨⟨q0, q1, q2⟩, -⟩ := (hB.ext hb2 hB.lt).all3
  go_wp2_with fail
  refine (offsets_any _ V _ (hv0.ext hb02) HV.out.1 HV.out.2.1).mono ?_; rintro e w3 ⟨r, rfl, ho3, hb3⟩
  have hb03 := bstep hb02 hb3 hb02.size
  have ho2 := (ho2.ext hb3).mono hb01.size
  have hsg := Own.seg ‹Own w2 w1.heap.size v' mem›
  obtain ⟨A2, c2, e2⟩ := ho2.form
  subst e2
  obtain ⟨A3, c3, e3⟩ := ho3.form
  subst e3
  generalize hI : offs V = idx at *
  have hc3 : c3 ≤ 9223372036854775807 := by obtain ⟨_, _, e, _, h, _⟩ := ho3.ints; simp only [Value.slice.injEq] at e; obtain ⟨-, -, rfl⟩ := e; unfold maxLen at h; omega
  have hc2 : c2 ≤ 9223372036854775807 := by obtain ⟨_, _, e, _, h, _⟩ := ho2.ints; simp only [Value.slice.injEq] at e; obtain ⟨-, -, rfl⟩ := e; unfold maxLen at h; omega
  clear q0 q1 q2
  go_wp2
  go_loopw [9] (fun i wr => ∃ (k : Nat) (ys : List Int), k ≤ idx.length ∧ i = .int .i64 k ∧ ys.length = mem.length ∧ Hid (ys = putK mem idx vals k) ∧ Own wr w.heap.size (.slice A2 mem.length c2) ys ∧ Own wr w2.heap.size (.slice A3 idx.length c3) idx ∧ Below w.heap.size w wr) (fun i _ => idx.length - (intOf i).toNat)
  case atStart => exact ⟨0, _, Nat.zero_le _, rfl, rfl, hid rfl, ho2, ho3, hb03⟩
  case round =>
    obtain ⟨k, ys, hk, rfl, hyl, hyt, hown, hr, hb⟩ := hrel
    by_cases hlt : k < idx.length
    · obtain ⟨j0, j1⟩ := HF.out idx[k] (List.getElem_mem hlt)
      obtain ⟨j, hj⟩ : ∃ j : Nat, idx[k] = j := ⟨(idx[k]).toNat, by omega⟩
      have hkv : k < vals.length := by omega
      have hjl : j < mem.length := by omega
      have hjy : j < ys.length := by omega
      obtain ⟨g, cap, eg, hg1, hg2⟩ := hown.row (by omega)
      simp only [Value.slice.injEq] at eg
      obtain ⟨rfl, -, rfl⟩ := eg
      obtain ⟨g3, cap3, eg3, hg31, hg32⟩ := hr.row (by omega)
      simp only [Value.slice.injEq] at eg3
      obtain ⟨rfl, -, rfl⟩ := eg3
      obtain ⟨bu, offu, rfl, hltu, hcu⟩ := hu3 (by omega)
      have hxu := (hb.cell (p := ⟨bu, offu + k, none⟩) hltu).trans (hcu k vals[k] (by simp [hkv]))
      have hgs := (hsg g rfl).2
      have hx' := hr.cell k hlt
      rw [hj] at hx'
      have hy := hown.cell j hjy
      have hf := hown.free j
      have HO := hid (hown.put j vals[k])
      have HR := hid (hr.far (p := ⟨g, j, none⟩) hgs (.int .i64 vals[k]))
      have HB := hid (hb.setCell (p := ⟨g, j, none⟩) hg1 (.int .i64 vals[k]))
      have HL1 := hid hyl
      have HT := hid (show ys.set j vals[k] = putK mem idx vals (k + 1) by rw [putK_snoc mem idx vals k hlt hkv, hj, hyt.out]; rfl)
      have hml2 : mem.length ≤ 60 := hml
      clear hown hr hb j0 j1 hj hyt hcu hu3
      go_wp2
      go_region
      all_goals (go_wp2; go_roundw)
      all_goals first
        | (case rel => exact ⟨k + 1, _, by omega, by go_num, by rw [List.length_set]; exact HL1.out, HT, HO.out.drew, HR.out.drew, HB.out.drew⟩)
        | (case measure => simp [intOf]; omega)
    · have HE := hid (show ys = putW mem idx vals by rw [hyt.out, putK_all _ _ _ _ (by omega)])
      go_wp2
      go_ret
      exact ⟨_, rfl, by rw [← HE.out]; exact hown, hb⟩


end Go.Proofs.Ytmglcapjccbknaa
