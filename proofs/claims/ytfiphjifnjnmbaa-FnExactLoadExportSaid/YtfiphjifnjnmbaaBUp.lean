/- Buffers, plain. No conditions. -/
import Derived.Test.YtfiphjifnjnmbaaRE
import Derived.Test.YtfiphjifnjnmbaaC3
namespace Go.Proofs.Ytfiphjifnjnmbaa
open Go.RowKit

def EL.none : EL := ⟨0, ⟨0, [], []⟩, false⟩
def expAt (U : BL) (i : Nat) : EL := U.exports.getD i EL.none
/-- The export i is valid. -/
def okExp (U : BL) (i : Nat) : Bool :=
  inR (expAt U i).parent (-1) ((i : Int) - 1) && isViewL (expAt U i).view && (!(expAt U i).opn || (fitsL (expAt U i).view (U.cells.length : Nat) && (decide ((expAt U i).parent < 0) || (expAt U (expAt U i).parent.toNat).opn)))
def okTo (U : BL) (k : Nat) : Bool := (List.range k).all (okExp U)
def isBufL (U : BL) : Bool := isMemL U.cells && decide (U.exports.length ≤ 8) && okTo U U.exports.length
def openL (U : BL) (i : Int) : Bool := inR i 0 ((U.exports.length : Int) - 1) && (expAt U i.toNat).opn
theorem expAt_get {U : BL} {k : Nat} (hk : k < U.exports.length) : expAt U k = U.exports[k] := by simp [expAt, hk]
theorem okTo_succ (U : BL) (k : Nat) : okTo U (k + 1) = (okTo U k && okExp U k) := by simp [okTo, List.range_succ]
theorem okTo_zero (U : BL) : okTo U 0 = true := rfl
theorem isBufL_bad {U : BL} {k : Nat} (hk : k < U.exports.length) (h : okExp U k = false) : isBufL U = false := by
  have : okTo U U.exports.length = false := by
    rw [okTo, List.all_eq_false]
    exact ⟨k, List.mem_range.2 hk, by simp [h]⟩
  simp [isBufL, this]
theorem isBufL_mem {U : BL} (h : isMemL U.cells = false) : isBufL U = false := by simp [isBufL, h]
theorem isBufL_len {U : BL} (h : 8 < U.exports.length) : isBufL U = false := by
  have : decide (U.exports.length ≤ 8) = false := by simp; omega
  simp [isBufL, this]
theorem isBufL_yes {U : BL} (h1 : isMemL U.cells = true) (h2 : U.exports.length ≤ 8) (h3 : okTo U U.exports.length = true) : isBufL U = true := by simp [isBufL, h1, h2, h3]
theorem isBufL_and {U : BL} (h : isBufL U = true) : isMemL U.cells = true ∧ U.exports.length ≤ 8 ∧ ∀ k, k < U.exports.length → okExp U k = true := by
  simp only [isBufL, Bool.and_eq_true, decide_eq_true_eq] at h
  exact ⟨h.1.1, h.1.2, fun k hk => List.all_eq_true.1 h.2 k (List.mem_range.2 hk)⟩
theorem okExp_open {U : BL} {k : Nat} (h : okExp U k = true) (ho : (expAt U k).opn = true) : isViewL (expAt U k).view = true ∧ fitsL (expAt U k).view (U.cells.length : Nat) = true := by
  simp only [okExp, ho, Bool.not_true, Bool.false_or, Bool.and_eq_true] at h
  exact ⟨h.1.2, h.2.1⟩
/-- The open exports, of the first k, with a parent (of any, if there is no number). -/
def kidAt (U : BL) (id : Option Int) (k : Nat) : Bool := (expAt U k).opn && match id with | some p => (expAt U k).parent == p | none => true
def kidsTo (U : BL) (id : Option Int) : Nat → List Int
  | 0 => []
  | k + 1 => kidsTo U id k ++ (if kidAt U id k then [(k : Int)] else [])
theorem kidsTo_yes {U : BL} {id : Option Int} {k : Nat} (h : kidAt U id k = true) : kidsTo U id (k + 1) = kidsTo U id k ++ [(k : Int)] := by simp [kidsTo, h]
theorem kidsTo_no {U : BL} {id : Option Int} {k : Nat} (h : kidAt U id k = false) : kidsTo U id (k + 1) = kidsTo U id k := by simp [kidsTo, h]
theorem kidsTo_len (U : BL) (id : Option Int) (k : Nat) : (kidsTo U id k).length ≤ k := by
  induction k with
  | zero => simp [kidsTo]
  | succ k ih => simp only [kidsTo, List.length_append]; split <;> simp <;> omega
def openOfL (U : BL) : List Int := if isBufL U then kidsTo U none U.exports.length else []
def kidsOfL (U : BL) (id : Int) : List Int := if isBufL U && inR id (-1) ((U.exports.length : Int) - 1) then kidsTo U (some id) U.exports.length else []
def loadExpL (U : BL) (id : Int) : List Int := if isBufL U && openL U id then takenL U.cells (offs (expAt U id.toNat).view) else []
theorem openOfL_len (U : BL) : (openOfL U).length ≤ 8 := by
  unfold openOfL
  split
  · rename_i h; have := kidsTo_len U none U.exports.length; have := (isBufL_and h).2.1; omega
  · simp
theorem kidsOfL_len (U : BL) (id : Int) : (kidsOfL U id).length ≤ 8 := by
  unfold kidsOfL
  split
  · rename_i h
    simp only [Bool.and_eq_true] at h
    have := kidsTo_len U (some id) U.exports.length
    have := (isBufL_and h.1).2.1
    omega
  · simp
theorem openL_get {U : BL} {i : Int} (h : openL U i = true) : 0 ≤ i ∧ i.toNat < U.exports.length ∧ (expAt U i.toNat).opn = true := by
  simp only [openL, Bool.and_eq_true, inR, decide_eq_true_eq] at h
  exact ⟨h.1.1, by omega, h.2⟩
theorem loadExpL_len (U : BL) (id : Int) : (loadExpL U id).length ≤ 1000 := by
  unfold loadExpL
  split
  · rename_i h
    simp only [Bool.and_eq_true] at h
    obtain ⟨h0, h1, h2⟩ := openL_get h.2
    have hv := (okExp_open ((isBufL_and h.1).2.2 _ h1) h2).1
    have := shape_prod (isViewL_and hv).1
    simp only [takenL, List.length_map, offs, List.length_range]
    omega
  · simp
theorem load_holds {U : BL} {id : Int} (hb : isBufL U = true) (ho : openL U id = true) : holdL U.cells (expAt U id.toNat).view = true := by
  obtain ⟨h0, h1, h2⟩ := openL_get ho
  obtain ⟨a, b⟩ := okExp_open ((isBufL_and hb).2.2 _ h1) h2
  simp [holdL, (isBufL_and hb).1, a, b]

end Go.Proofs.Ytfiphjifnjnmbaa
