/- A dimension summed, plain. No conditions. -/
import Derived.Test.YtldblcolnjkcaaaEXp
import Derived.Test.YtldblcolnjkcaaaNVp
import Derived.Test.YtldblcolnjkcaaaRK1
import Derived.Test.YtldblcolnjkcaaaRKp
namespace Go.Proofs.Ytldblcolnjkcaaa
open Go.RowKit

def sdS (T : TL) (d : Nat) : List Int := T.shape.eraseIdx d
/-- The index, behind the sum, of the value with the rank k. -/
def sdI (T : TL) (d : Nat) (k : Nat) : List Int := (unr T.shape k).eraseIdx d
def sdAt (T : TL) (d : Nat) (k : Nat) : Nat := (rankW (sdS T d) (sdI T d k)).toNat
def sdV (T : TL) (d : Nat) : Nat → List Int
  | 0 => List.replicate (prodW (sdS T d)).toNat 0
  | k + 1 => (sdV T d k).set (sdAt T d k) (wrap64 ((sdV T d k).getD (sdAt T d k) 0 + T.values.getD k 0))
def sdT (T : TL) (d : Nat) : TL := ⟨sdS T d, sdV T d T.values.length⟩
def okSD (T : TL) (d : Int) : Bool := isTensorL T && inR d 0 ((T.shape.length : Int) - 1) && isShapeL (sdS T d.toNat)
def okSum (T : TL) (d : Int) : Bool := okSD T d && isTensorL (sdT T d.toNat)
def sumDL (T : TL) (d : Int) : TL := if okSum T d then sdT T d.toNat else ⟨[], []⟩

theorem sumD_no {T : TL} {d : Int} (h : okSum T d = false) : sumDL T d = ⟨[], []⟩ := by simp [sumDL, h]
theorem sumD_yes {T : TL} {d : Int} (h : okSum T d = true) : sumDL T d = sdT T d.toNat := by simp [sumDL, h]
theorem sdV_len (T : TL) (d k : Nat) : (sdV T d k).length = (prodW (sdS T d)).toNat := by
  induction k with
  | zero => simp [sdV]
  | succ k ih => rw [sdV, List.length_set]; exact ih
theorem sumDL_len (T : TL) (d : Int) : (sumDL T d).shape.length ≤ 60 ∧ (sumDL T d).values.length ≤ 60 := by
  cases h : okSum T d
  · rw [sumD_no h]; simp
  · rw [sumD_yes h]
    simp only [okSum, Bool.and_eq_true] at h
    have hT := isTensorL_and h.2
    have hp := shape_prod hT.1
    have hv : ((sdT T d.toNat).values.length : Int) = prodW (sdT T d.toNat).shape := hT.2.1
    exact ⟨Nat.le_trans (shape_ext hT.1).1 (by omega), by rw [hp.1] at hv; omega⟩
section
variable {T : TL} {d : Nat}
theorem erase_box {i s : List Int} (h : InBox i s) : InBox (i.eraseIdx d) (s.eraseIdx d) := by
  obtain ⟨h1, h2⟩ := box_iff.1 h
  refine box_iff.2 ⟨by rw [List.length_eraseIdx, List.length_eraseIdx, h1], fun k k1 k2 => ?_⟩
  rw [List.getElem_eraseIdx, List.getElem_eraseIdx]
  split
  · exact h2 k _ _
  · exact h2 (k + 1) _ _
theorem rank_box {s i : List Int} (hs : isShapeL s = true) (hb : InBox i s) : rankW s i = dotI i (rowS s) ∧ 0 ≤ rankW s i ∧ rankW s i < prodI s := by
  obtain ⟨s1, s2, s3⟩ := shape_ext hs
  have e : rankW s i = dotI i (rowS s) := by
    rw [rankW_eq s1 s2 (box_le hb fun x hx => (s2 x hx).2), rankF_dot _ _ _ (box_length hb)]
    simp
  have := dot_row hb
  exact ⟨e, by rw [e]; exact this.1, by rw [e]; exact this.2.1⟩
theorem unr_in (hT : isTensorL T = true) {k : Nat} (hk : k < T.values.length) : InBox (unr T.shape k) T.shape ∧ (∀ x ∈ T.shape, 1 ≤ x ∧ x ≤ 60) ∧ (k : Int) < prodI T.shape := by
  obtain ⟨hs, hv, -⟩ := isTensorL_and hT
  obtain ⟨s1, s2, s3⟩ := shape_ext hs
  have hp := shape_prod hs
  rw [hp.1] at hv
  have hpos := prodI_pos (fun x hx => (s2 x hx).1) (show 0 < prodI T.shape by omega)
  exact ⟨unr_box hpos k, fun x hx => ⟨hpos x hx, (s2 x hx).2⟩, by omega⟩
theorem rank_unr (hT : isTensorL T = true) {k : Nat} (hk : k < T.values.length) : rankW T.shape (unr T.shape k) = k := by
  obtain ⟨hb, hpos, hk2⟩ := unr_in hT hk
  rw [(rank_box (isTensorL_and hT).1 hb).1]
  exact dot_unr (fun x hx => (hpos x hx).1) k (by omega) hk2
theorem sdAt_in (hT : isTensorL T = true) (hs : isShapeL (sdS T d) = true) {k : Nat} (hk : k < T.values.length) : rankW (sdS T d) (sdI T d k) = sdAt T d k ∧ sdAt T d k < (prodW (sdS T d)).toNat ∧ isIndexL (sdS T d) (sdI T d k) = true := by
  obtain ⟨hb, -⟩ := unr_in hT hk
  have hb' : InBox (sdI T d k) (sdS T d) := erase_box hb
  have h := rank_box hs hb'
  have hp := shape_prod hs
  refine ⟨by unfold sdAt; omega, by unfold sdAt; rw [hp.1]; omega, ?_⟩
  obtain ⟨h1, h2⟩ := box_iff.1 hb'
  simp only [isIndexL, Bool.and_eq_true, decide_eq_true_eq, List.all_eq_true, inR_iff]
  refine ⟨h1, fun p hp => ?_⟩
  obtain ⟨k, hk, rfl⟩ := List.getElem_of_mem hp
  simp only [List.length_zip] at hk
  have := h2 k (by omega) (by omega)
  simp only [List.getElem_zip]
  omega
theorem rankOf_at (hT : isTensorL T = true) (hs : isShapeL (sdS T d) = true) {k : Nat} (hk : k < T.values.length) : rankOfL (sdS T d) (sdI T d k) = sdAt T d k := by
  obtain ⟨h1, -, h3⟩ := sdAt_in hT hs hk
  rw [rankOfL, hs, h3]
  exact h1
end

/-! The extents of one tensor whose labels are its dimensions. -/
def extS (s : List Int) : List Int := s ++ List.replicate (5 - s.length) (-1)
theorem ext_to {s : List Int} (hl : s.length ≤ 4) : ∀ d, d ≤ s.length → extD ext0 (upI s.length) s d = some (s.take d ++ List.replicate (5 - d) (-1))
  | 0, _ => by simp [extD, ext0]
  | d + 1, h => by
    rw [extD, ext_to hl d (by omega)]
    have hd : d < s.length := by omega
    have h1 : (upI s.length).getD d 0 = (d : Int) := by simp [upI, hd]
    have h2 : (s.take d ++ List.replicate (5 - d) (-1 : Int)).getD d 0 = -1 := by
      rw [List.getD_eq_getElem?_getD, List.getElem?_append_right (by simp; omega)]
      simp [show min d s.length = d by omega, show 0 < 5 - d by omega]
    have hs : s.getD d 0 = s[d] := by simp [hd]
    simp only [Option.bind_some, h1, Int.toNat_natCast, h2]
    rw [if_neg (by omega), hs]
    congr 1
    rw [List.set_append_right _ _ (by simp; omega)]
    simp only [List.length_take, show min d s.length = d by omega, Nat.sub_self]
    rw [show 5 - d = (4 - d) + 1 by omega, List.replicate_succ, List.set_cons_zero, show 5 - (d + 1) = 4 - d by omega]
    rw [take_snocI _ d hd, List.append_assoc]
    rfl
theorem ext_one {T : TL} (hT : isTensorL T = true) : extentsL [T] [upI T.shape.length] = extS T.shape ∧ okExtents [T] [upI T.shape.length] = true := by
  have hs := shape_ext (isTensorL_and hT).1
  have hok : okTs [T] [upI T.shape.length] = true := by simp [okTs, hT]
  have hf : fitT T (upI T.shape.length) = true := by
    simp only [fitT, Bool.and_eq_true, decide_eq_true_eq, List.all_eq_true]
    refine ⟨upI_length _, fun x hx => ?_⟩
    simp only [upI, List.mem_map, List.mem_range] at hx
    obtain ⟨i, hi, rfl⟩ := hx
    exact inR_yes (by omega) (by omega)
  have h : extentsR [T] [upI T.shape.length] = some (extS T.shape) := by
    rw [extentsR, if_pos hok]
    show (some ext0).bind (fun o => extT o T (upI T.shape.length)) = _
    rw [Option.bind_some, extT, if_pos hf, upI_length, ext_to hs.1 _ (Nat.le_refl _)]
    simp [extS]
  simp [extentsL, okExtents, h]
/-- All extents, those not given being one. -/
def spX (xs : List Int) : List Int := xs.map fun e => if e < 0 then 1 else e
theorem spX_ext {s : List Int} (hs : isShapeL s = true) : spX (extS s) = s ++ List.replicate (5 - s.length) 1 := by
  have h2 := (shape_ext hs).2.1
  simp only [spX, extS, List.map_append, List.map_replicate]
  congr 1
  refine (List.map_congr_left fun x hx => ?_).trans (List.map_id _)
  rw [if_neg (by have := h2 x hx; omega)]
  rfl
theorem prodI_ones (n : Nat) : prodI (List.replicate n 1) = 1 := by
  induction n with
  | zero => rfl
  | succ n ih => rw [List.replicate_succ]; simp only [prodI, ih]; rfl
theorem unr_ones (s : List Int) (n : Nat) (k : Int) : (unr (s ++ List.replicate n 1) k).take s.length = unr s k := by
  apply List.ext_getElem?
  intro j
  by_cases hj : j < s.length
  · rw [List.getElem?_take, if_pos hj, unr_get _ _ _ (by simp; omega), unr_get _ _ _ hj, List.drop_append_of_le_length (by omega), prodI_append, prodI_ones, Int.mul_one, List.getElem_append_left hj]
  · rw [List.getElem?_eq_none (by simp; omega), List.getElem?_eq_none (by rw [unr_length]; omega)]
theorem taken_up {xs : List Int} {n : Nat} (h : n ≤ xs.length) : takenL xs (upI n) = xs.take n := by
  apply List.ext_getElem?
  intro j
  simp only [takenL, upI, List.map_map, List.getElem?_map, List.getElem?_take]
  by_cases hj : j < n
  · have hx : j < xs.length := by omega
    simp [hj, hx]
  · simp [hj]
theorem taken_erase {xs : List Int} {n d : Nat} (h : n ≤ xs.length) : takenL xs ((upI n).eraseIdx d) = (xs.take n).eraseIdx d := by
  rw [← taken_up h]
  apply List.ext_getElem?
  intro j
  simp only [takenL, List.getElem?_map, List.getElem?_eraseIdx]
  split <;> rfl
theorem extS_len {s : List Int} (h : s.length ≤ 4) : (extS s).length = 5 := by simp [extS]; omega
theorem extS_take (s : List Int) : (extS s).take s.length = s := by simp [extS]

end Go.Proofs.Ytldblcolnjkcaaa
