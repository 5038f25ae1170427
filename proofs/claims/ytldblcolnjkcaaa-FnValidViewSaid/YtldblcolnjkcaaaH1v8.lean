/- Windows of a view: plain, and a view whose shape is written. No conditions. -/
import Derived.Test.YtldblcolnjkcaaaV2v8
import Derived.Test.YtldblcolnjkcaaaD3v8
import Derived.Test.YtldblcolnjkcaaaG1
namespace Go.Proofs.Ytldblcolnjkcaaa
open Go.RowKit

theorem GrowView.putS {B : Nat} {w : World} {g gs cap n : Nat} {b : Int} {tv : Value} {xs ys : List Int} (h : GrowView B w g b (.slice (some ⟨gs, 0, none⟩) n cap) tv xs ys) (j : Nat) (x : Int) :
    GrowView B (w.setCell ⟨gs, j, none⟩ (.int .i64 x)) g b (.slice (some ⟨gs, 0, none⟩) n cap) tv (xs.set j x) ys :=
  ⟨h.box.far (p := ⟨gs, j, none⟩) (fun e => h.gs gs rfl e.symm) _, h.s.put j x, h.t.off (p := ⟨gs, j, none⟩) (fun k hk e => h.sep gs rfl (by rw [hk, e])) _, h.gs, h.gt, h.sep⟩

def winV (V : VL) (k : Nat) (n : Int) : VL := ⟨V.base, V.shape.set k (V.shape.getD k 0 - n + 1) ++ [n], V.strides ++ [V.strides.getD k 0]⟩
def winOk (V : VL) (d n : Int) : Bool := hasDimL V d && inR n 1 (V.shape.getD d.toNat 0)
def winL (V : VL) (d n : Int) : VL := if winOk V d n then madeL (winV V d.toNat n) else VL.zero
def winB (V : VL) (d n : Int) : Bool := winOk V d n && isViewL (winV V d.toNat n)
theorem win_no {V : VL} {d n : Int} (h : winOk V d n = false) : winL V d n = VL.zero ∧ winB V d n = false := by simp [winL, winB, h]
theorem win_yes {V : VL} {d n : Int} (h : winOk V d n = true) : winL V d n = madeL (winV V d.toNat n) ∧ winB V d n = isViewL (winV V d.toNat n) := by simp [winL, winB, h]
theorem win_full {V : VL} {d n : Int} (h : V.shape.length = 4) : winL V d n = VL.zero ∧ winB V d n = false := by
  have hno : isViewL (winV V d.toNat n) = false := by
    cases c : isViewL (winV V d.toNat n)
    · rfl
    · have := (isViewL_lens c).1
      simp [winV, h] at this
  cases c : winOk V d n
  · exact win_no c
  · obtain ⟨a, b⟩ := win_yes c
    rw [a, b, hno]; simp [madeL, hno]
theorem madeL_len (V : VL) : (madeL V).shape.length ≤ 60 ∧ (madeL V).strides.length ≤ 60 := by
  unfold madeL
  split
  · rename_i h
    have := isViewL_lens h
    omega
  · simp [VL.zero]
theorem winL_len (V : VL) (d n : Int) : (winL V d n).shape.length ≤ 60 ∧ (winL V d n).strides.length ≤ 60 := by
  unfold winL
  split
  · exact madeL_len _
  · simp [VL.zero]
theorem shape_le {V : VL} (h : isViewL V = true) {k : Nat} (hk : k < V.shape.length) : 0 ≤ V.shape[k] ∧ V.shape[k] ≤ 60 := (shape_ext (isViewL_and h).1).2.1 _ (List.getElem_mem hk)

end Go.Proofs.Ytldblcolnjkcaaa
