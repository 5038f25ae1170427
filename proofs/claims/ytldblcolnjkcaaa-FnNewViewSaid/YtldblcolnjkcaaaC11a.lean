/- Contracts: dense views, equal views. No conditions. -/
import Derived.Test.YtldblcolnjkcaaaC9a
import Derived.Test.YtldblcolnjkcaaaC7a
import Derived.Test.YtldblcolnjkcaaaC4
import Derived.Test.YtldblcolnjkcaaaS2
import Derived.Outline
import Derived.Deep.RegionHeld3
namespace Go.Proofs.Ytldblcolnjkcaaa
open Go.RowKit
set_option maxRecDepth 100000 in
set_option maxHeartbeats 800000 in
theorem iIsRow_any (v : Value) (V : VL) (w : World) (hv : ViewV w v V) :
    Calls Try.prog 36 #[v] w fun e w' => e = .returned (.bool (isRowL V)) ∧ Below w.heap.size w w' := by
  have hv0 := hv
  obtain ⟨sv, tv, rfl, hsv, htv⟩ := hv
  obtain ⟨As, cs, es⟩ := hsv.form
  subst es
  have hB := Blk.new w 43 #[.int .i64 V.base, .slice As V.shape.length cs, tv]
  have hW := below_alloc w (.cells #[.int .i64 V.base, .slice As V.shape.length cs, tv] 43)
  have hN : w.heap.size < (w.alloc (.cells #[.int .i64 V.base, .slice As V.shape.length cs, tv] 43)).heap.size := by simp
  have t1 : True := trivial
  have t2 : True := trivial
  cases c : isViewL V
  · have HQ := hid (show isRowL V = false by simp [isRowL, c])
    go_enter Try.func36, Try.ntmps36
    go_wp2_with fail
    refine (isView_any _ V _ (hv0.ext hW)).mono ?_; rintro e w1 ⟨rfl, hb1⟩
    go_wp2
    go_ret
    exact ⟨ret_bool HQ.out.symm, hW.trans (hb1.mono hW.size)⟩
  · have HV := hid (isViewL_and c)
    have HQ := hid (show isRowL V = eqL (offs V) (offs ⟨V.base, V.shape, rowS V.shape⟩) by simp [isRowL, c])
    have HLr := hid (rowS_length V.shape)
    go_enter Try.func36, Try.ntmps36
    go_wp2_with fail
    generalize w.alloc (.cells #[.int .i64 V.base, .slice As V.shape.length cs, tv] 43) = W1 at *
    refine (isView_any _ V _ (hv0.ext hW)).mono ?_; rintro e w1 ⟨rfl, hb1⟩
    have hB1 := hB.ext hb1 hN
    obtain ⟨⟨q0, q1, q2⟩, -⟩ := id hB1.all3
    have hD := (hW.trans (hb1.mono hW.size)).drew
    go_wp2_with fail
    go_region_held3 (fun w' => w'.cell? ⟨w.heap.size, 0, none⟩ = some (.int .i64 V.base) ∧ w'.cell? ⟨w.heap.size, 1, none⟩ = some (.slice As V.shape.length cs) ∧ w'.cell? ⟨w.heap.size, 2, none⟩ = some tv)
      (first | go_keep | exact hK1 | exact hK2 | exact hK3 | exact hK4)
      (first
        | (go_at_call 114; have _t := t1; refine (offsetsOf_any _ V _ (hv0.ext hD) HV.out.1 HV.out.2.1).mono ?_; rintro e w2 ⟨r1, rfl, ho1, hb2⟩; clear t1; have hB2 := (Blk.ext hB1 (below_drew w1) hB1.lt).ext hb2 hB1.lt; have hK1 := hB2.all3.1; have hD1 := bstep hD hb2 hD.size)
        | (go_at_call 95; refine (irowStrides_any _ V.shape _ (hsv.ext hD1) HV.out.1).mono ?_; rintro e w3 ⟨st, rfl, hst, hb3⟩; obtain ⟨Ast, cst, est⟩ := hst.form; subst est; have hB3 := hB2.ext hb3 hB2.lt; have hK2 := hB3.all3.1; have hD2 := bstep hD1 hb3 hD1.size)
        | (go_at_call 114; have _t := t2; refine (offsetsOf_any _ ⟨V.base, V.shape, rowS V.shape⟩ _ ⟨_, _, rfl, hsv.ext hD2, hst.ints⟩ HV.out.1 HLr.out.symm).mono ?_; rintro e w4 ⟨r2, rfl, ho2, hb4⟩; clear t2; have hB4 := hB3.ext hb4 hB3.lt; have hK3 := hB4.all3.1; have hD3 := bstep hD2 hb4 hD2.size)
        | (go_at_call 115; refine (Equal_any _ _ (offs V) (offs ⟨V.base, V.shape, rowS V.shape⟩) _ (Own.ints ((ho1.ext hb3).ext hb4)) ho2.ints).mono ?_; rintro e w5 ⟨rfl, hb5⟩; have hB5 := hB4.ext hb5 hB4.lt; have hK4 := hB5.all3.1; have hD4 := bstep hD3 hb5 hD3.size))
    go_wp2
    go_ret
    exact ⟨ret_bool HQ.out.symm, hD4⟩

end Go.Proofs.Ytldblcolnjkcaaa
