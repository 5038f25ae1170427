/- Rows of exports, buffers: words. No conditions. -/
import Derived.Test.YtfiphjifnjnmbaaRR
namespace Go.Proofs.Ytfiphjifnjnmbaa
open Go.RowKit

/-- An export, as data. -/
structure EL where
  parent : Int
  view : VL
  opn : Bool
def encE (E : EL) : List Cl := [.num E.parent, .num E.view.base, .row E.view.shape, .row E.view.strides, .bit E.opn]
theorem encE_len (E : EL) : (encE E).length = 5 := rfl
def lenE (E : EL) : Nat := E.view.shape.length + E.view.strides.length
def ExportV (w : World) (v : Value) (E : EL) : Prop := ∃ sv tv, v = .agg #[.int .i64 E.parent, .int .i64 E.view.base, sv, tv, .bool E.opn] ∧ Ints w sv E.view.shape ∧ Ints w tv E.view.strides
theorem ExportV.ext {w w' : World} {v : Value} {E : EL} (h : ExportV w v E) (hb : Below w.heap.size w w') : ExportV w' v E := by
  obtain ⟨sv, tv, hv, h1, h2⟩ := h
  exact ⟨sv, tv, hv, h1.ext hb, h2.ext hb⟩
/-- What a function that returns a new export leaves. -/
def RetExport (w : World) (E : EL) (e : Ending) (w' : World) : Prop := ∃ sv tv, e = .returned (.agg #[.int .i64 E.parent, .int .i64 E.view.base, sv, tv, .bool E.opn]) ∧
  Own w' w.heap.size sv E.view.shape ∧ Own w' w.heap.size tv E.view.strides ∧ Sep sv tv ∧ Below w.heap.size w w'
/-- The value v reads as the exports xs. -/
def ExportsV (w : World) (v : Value) (xs : List EL) : Prop := RowV 5 w v xs.length (flatR encE xs)
theorem ExportsV.ext {w w' : World} {v : Value} {xs : List EL} (h : ExportsV w v xs) (hb : Below w.heap.size w w') : ExportsV w' v xs := RowV.ext h hb
theorem ExportsV.nx {w w' : World} {v : Value} {xs : List EL} (h : ExportsV w v xs) (hb : Below w.heap.size w w') : ExportsV w' v xs := RowV.ext h hb
theorem ExportsV.form {w : World} {v : Value} {xs : List EL} (h : ExportsV w v xs) : ∃ A c, v = .slice A xs.length c ∧ xs.length ≤ c ∧ c ≤ 9223372036854775807 := RowV.form h
theorem ExportsV.at_ {w : World} {A : Option Addr} {m c : Nat} {xs : List EL} (h : ExportsV w (.slice A m c) xs) (k : Nat) (hk : k < xs.length) :
    ∃ b off u1 u2, A = some ⟨b, off, none⟩ ∧ w.cell? ⟨b, off + k * 5, none⟩ = some (.int .i64 xs[k].parent) ∧ w.cell? ⟨b, off + k * 5 + 1, none⟩ = some (.int .i64 xs[k].view.base) ∧ w.cell? ⟨b, off + k * 5 + 2, none⟩ = some u1 ∧ w.cell? ⟨b, off + k * 5 + 3, none⟩ = some u2 ∧ w.cell? ⟨b, off + k * 5 + 4, none⟩ = some (.bool xs[k].opn) ∧
      ExportV w (.agg #[.int .i64 xs[k].parent, .int .i64 xs[k].view.base, u1, u2, .bool xs[k].opn]) xs[k] := by
  obtain ⟨b, off, e, hb, hc⟩ := RowV.at_ h k hk
  have hg := fun j (hj : j < 5) => flatR_get encE_len xs k j hk hj
  obtain ⟨u0, c0, h0⟩ := hc 0 (.num xs[k].parent) (by omega) (by rw [hg 0 (by omega)]; rfl)
  obtain ⟨ub, cb, hb1⟩ := hc 1 (.num xs[k].view.base) (by omega) (by rw [hg 1 (by omega)]; rfl)
  obtain ⟨u1, c1, h1⟩ := hc 2 (.row xs[k].view.shape) (by omega) (by rw [hg 2 (by omega)]; rfl)
  obtain ⟨u2, c2, h2⟩ := hc 3 (.row xs[k].view.strides) (by omega) (by rw [hg 3 (by omega)]; rfl)
  obtain ⟨uo, co, ho⟩ := hc 4 (.bit xs[k].opn) (by omega) (by rw [hg 4 (by omega)]; rfl)
  have e0 : u0 = .int .i64 xs[k].parent := h0
  have e1 : ub = .int .i64 xs[k].view.base := hb1
  have e2 : uo = .bool xs[k].opn := ho
  subst e0 e1 e2
  exact ⟨b, off, u1, u2, e, c0, cb, c1, c2, co, u1, u2, rfl, h1, h2⟩
/-- A buffer, as data. -/
structure BL where
  cells : List Int
  exports : List EL
def BufferV (w : World) (v : Value) (B : BL) : Prop := ∃ cv ev, v = .agg #[cv, ev] ∧ Ints w cv B.cells ∧ ExportsV w ev B.exports
theorem BufferV.ext {w w' : World} {v : Value} {B : BL} (h : BufferV w v B) (hb : Below w.heap.size w w') : BufferV w' v B := by
  obtain ⟨cv, ev, hv, h1, h2⟩ := h
  exact ⟨cv, ev, hv, h1.ext hb, h2.ext hb⟩

end Go.Proofs.Ytfiphjifnjnmbaa
