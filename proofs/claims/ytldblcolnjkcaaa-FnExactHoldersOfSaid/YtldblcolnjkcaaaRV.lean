/- Rows of views: words. No conditions. -/
import Derived.Test.YtldblcolnjkcaaaRR
namespace Go.Proofs.Ytldblcolnjkcaaa
open Go.RowKit

def encV (V : VL) : List Cl := [.num V.base, .row V.shape, .row V.strides]
theorem encV_len (V : VL) : (encV V).length = 3 := rfl
/-- The value v reads as the views xs. -/
def ViewsV (w : World) (v : Value) (xs : List VL) : Prop := RowV 3 w v xs.length (flatR encV xs)
theorem ViewsV.ext {w w' : World} {v : Value} {xs : List VL} (h : ViewsV w v xs) (hb : Below w.heap.size w w') : ViewsV w' v xs := RowV.ext h hb
theorem ViewsV.form {w : World} {v : Value} {xs : List VL} (h : ViewsV w v xs) : ∃ A c, v = .slice A xs.length c ∧ xs.length ≤ c ∧ c ≤ 9223372036854775807 := RowV.form h
theorem ViewsV.at_ {w : World} {A : Option Addr} {m c : Nat} {xs : List VL} (h : ViewsV w (.slice A m c) xs) (k : Nat) (hk : k < xs.length) :
    ∃ b off u1 u2, A = some ⟨b, off, none⟩ ∧ w.cell? ⟨b, off + k * 3, none⟩ = some (.int .i64 xs[k].base) ∧ w.cell? ⟨b, off + k * 3 + 1, none⟩ = some u1 ∧ w.cell? ⟨b, off + k * 3 + 2, none⟩ = some u2 ∧ ViewV w (.agg #[.int .i64 xs[k].base, u1, u2]) xs[k] := by
  obtain ⟨b, off, e, hb, hc⟩ := RowV.at_ h k hk
  have hg := fun j (hj : j < 3) => flatR_get encV_len xs k j hk hj
  obtain ⟨u0, c0, h0⟩ := hc 0 (.num xs[k].base) (by omega) (by rw [hg 0 (by omega)]; rfl)
  obtain ⟨u1, c1, h1⟩ := hc 1 (.row xs[k].shape) (by omega) (by rw [hg 1 (by omega)]; rfl)
  obtain ⟨u2, c2, h2⟩ := hc 2 (.row xs[k].strides) (by omega) (by rw [hg 2 (by omega)]; rfl)
  have e0 : u0 = .int .i64 xs[k].base := h0
  subst e0
  exact ⟨b, off, u1, u2, e, c0, c1, c2, u1, u2, rfl, h1, h2⟩
def lenV (V : VL) : Nat := V.shape.length + V.strides.length
def viewsOk (xs : List VL) : Bool := xs.all isViewL && decide (xs.length ≤ 8)

end Go.Proofs.Ytldblcolnjkcaaa
