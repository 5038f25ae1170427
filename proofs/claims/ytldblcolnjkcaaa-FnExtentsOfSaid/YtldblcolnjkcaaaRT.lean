/- Rows of tensors: words. No conditions. -/
import Derived.Test.YtldblcolnjkcaaaRR
namespace Go.Proofs.Ytldblcolnjkcaaa
open Go.RowKit

def encT (T : TL) : List Cl := [.row T.shape, .row T.values]
theorem encT_len (T : TL) : (encT T).length = 2 := rfl
def lenT (T : TL) : Nat := T.shape.length + T.values.length
/-- The value v reads as the tensors xs. -/
def TensorsV (w : World) (v : Value) (xs : List TL) : Prop := RowV 2 w v xs.length (flatR encT xs)
theorem TensorsV.ext {w w' : World} {v : Value} {xs : List TL} (h : TensorsV w v xs) (hb : Below w.heap.size w w') : TensorsV w' v xs := RowV.ext h hb
theorem TensorsV.form {w : World} {v : Value} {xs : List TL} (h : TensorsV w v xs) : ∃ A c, v = .slice A xs.length c ∧ xs.length ≤ c ∧ c ≤ 9223372036854775807 := RowV.form h
theorem TensorsV.at_ {w : World} {A : Option Addr} {m c : Nat} {xs : List TL} (h : TensorsV w (.slice A m c) xs) (k : Nat) (hk : k < xs.length) :
    ∃ b off u1 u2, A = some ⟨b, off, none⟩ ∧ w.cell? ⟨b, off + k * 2, none⟩ = some u1 ∧ w.cell? ⟨b, off + k * 2 + 1, none⟩ = some u2 ∧ TensorV w (.agg #[u1, u2]) xs[k] := by
  obtain ⟨b, off, e, hb, hc⟩ := RowV.at_ h k hk
  have hg := fun j (hj : j < 2) => flatR_get encT_len xs k j hk hj
  obtain ⟨u1, c1, h1⟩ := hc 0 (.row xs[k].shape) (by omega) (by rw [hg 0 (by omega)]; rfl)
  obtain ⟨u2, c2, h2⟩ := hc 1 (.row xs[k].values) (by omega) (by rw [hg 1 (by omega)]; rfl)
  exact ⟨b, off, u1, u2, e, c1, c2, u1, u2, rfl, h1, h2⟩

end Go.Proofs.Ytldblcolnjkcaaa
