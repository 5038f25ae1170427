/- Tensors with their dimensions in another order, plain. No conditions. -/
import Derived.Test.YtldblcolnjkcaaaTN1
import Derived.Test.YtldblcolnjkcaaaG2
import Derived.Test.YtldblcolnjkcaaaRKp
import Derived.Test.YtldblcolnjkcaaaRK1
namespace Go.Proofs.Ytldblcolnjkcaaa
open Go.RowKit

/-- The index before the turn: the dimension P[i] has the number i. -/
def unP (P : List Nat) (idx : List Int) (n : Nat) : List Int := (List.range n).map fun d => idx.getD (P.idxOf d) 0
def unPk (P : List Nat) (idx : List Int) (n k : Nat) : List Int := (List.range n).map fun d => if P.idxOf d < k then idx.getD (P.idxOf d) 0 else 0
theorem unPk_len (P : List Nat) (idx : List Int) (n k : Nat) : (unPk P idx n k).length = n := by simp [unPk]
theorem unP_len (P : List Nat) (idx : List Int) (n : Nat) : (unP P idx n).length = n := by simp [unP]
theorem unPk_zero (P : List Nat) (idx : List Int) (n : Nat) : unPk P idx n 0 = List.replicate n 0 := by
  apply List.ext_getElem
  · simp [unPk]
  · intro i h1 h2; simp [unPk]
theorem unPk_put {P : List Nat} {idx : List Int} {n k : Nat} (hn : P.Nodup) (hk : k < P.length) (hi : k < idx.length) : (unPk P idx n k).set P[k] idx[k] = unPk P idx n (k + 1) := by
  apply List.ext_getElem
  · simp [unPk]
  · intro i h1 h2
    rw [List.getElem_set]
    simp only [unPk, List.getElem_map, List.getElem_range]
    split
    · rename_i e
      subst e
      rw [hn.idxOf_getElem k hk, if_pos (by omega)]
      simp [hi]
    · rename_i e
      have hne : P.idxOf i ≠ k := fun h => by
        have h2 : P.idxOf i < P.length := by omega
        have := List.getElem_idxOf h2
        simp only [h] at this
        exact e this
      by_cases h : P.idxOf i < k
      · rw [if_pos h, if_pos (by omega)]
      · rw [if_neg h, if_neg (by omega)]
theorem unPk_all {P : List Nat} {idx : List Int} {n : Nat} (hp : P.Perm (List.range n)) : unPk P idx n n = unP P idx n := by
  have hl : P.length = n := by have := hp.length_eq; simpa using this
  apply List.ext_getElem
  · simp [unPk, unP]
  · intro i h1 h2
    simp only [unPk, unP, List.getElem_map, List.getElem_range]
    have hm : i ∈ P := hp.mem_iff.2 (List.mem_range.2 (by simpa [unPk] using h1))
    have := List.idxOf_lt_length_of_mem hm
    rw [if_pos (by omega)]
theorem pick_unP {P : List Nat} {idx : List Int} {n : Nat} (hp : P.Perm (List.range n)) (hl : idx.length = n) : pickN (unP P idx n) P = idx := by
  have hpl : P.length = n := by have := hp.length_eq; simpa using this
  have hn : P.Nodup := hp.nodup_iff.2 List.nodup_range
  apply List.ext_getElem
  · simp [pickN, hpl, hl]
  · intro i h1 h2
    have hip : i < P.length := by simpa [pickN] using h1
    have hm : P[i] < n := List.mem_range.1 (hp.mem_iff.1 (List.getElem_mem hip))
    simp only [pickN, List.getElem_map]
    have : (unP P idx n).getD P[i] 0 = idx.getD (P.idxOf P[i]) 0 := by simp [unP, hm]
    rw [this, hn.idxOf_getElem i hip]
    simp [h2]
theorem dotI_sum (f g : Nat → Int) (P : List Nat) : dotI (P.map f) (P.map g) = sumI (P.map fun i => f i * g i) := by
  induction P with
  | nil => rfl
  | cons p ps ih => simp only [List.map_cons, dotI, ih, sumI, List.foldr_cons]
theorem dotI_perm {P : List Nat} {n : Nat} (hp : P.Perm (List.range n)) {xs ys : List Int} (hx : xs.length = n) (hy : ys.length = n) : dotI (pickN xs P) (pickN ys P) = dotI xs ys := by
  have a := dotI_sum (fun i => xs.getD i 0) (fun i => ys.getD i 0) (List.range n)
  rw [map_range_getD xs n hx, map_range_getD ys n hy] at a
  rw [a]
  exact (dotI_sum _ _ P).trans (sumI_perm (hp.map _))
/-- A turned index lies in the turned box exactly if it did before. -/
theorem unP_box {P : List Nat} {n : Nat} (hp : P.Perm (List.range n)) {s idx : List Int} (hs : s.length = n) (hb : InBox idx (pickN s P)) : InBox (unP P idx n) s := by
  have hpl : P.length = n := by have := hp.length_eq; simpa using this
  obtain ⟨h1, h2⟩ := box_iff.1 hb
  refine box_iff.2 ⟨by rw [unP_len, hs], fun d k1 k2 => ?_⟩
  rw [unP_len] at k1
  have hm : d ∈ P := hp.mem_iff.2 (List.mem_range.2 k1)
  have hq := List.idxOf_lt_length_of_mem hm
  have hg := List.getElem_idxOf hq
  have hqi : P.idxOf d < idx.length := by rw [h1]; simpa [pickN] using hq
  have := h2 (P.idxOf d) hqi (by simpa [pickN] using hq)
  simp only [pickN, List.getElem_map, hg] at this
  simp only [unP, List.getElem_map, List.getElem_range]
  simp only [List.getD_eq_getElem?_getD, List.getElem?_eq_getElem hqi, List.getElem?_eq_getElem k2, Option.getD_some] at this ⊢
  exact this
theorem box_index {s i : List Int} (h : InBox i s) : isIndexL s i = true := by
  obtain ⟨h1, h2⟩ := box_iff.1 h
  simp only [isIndexL, Bool.and_eq_true, decide_eq_true_eq, List.all_eq_true, inR_iff]
  refine ⟨h1, fun p hp => ?_⟩
  obtain ⟨k, hk, rfl⟩ := List.getElem_of_mem hp
  simp only [List.length_zip] at hk
  have := h2 k (by omega) (by omega)
  simp only [List.getElem_zip]
  omega
def turnS (s O : List Int) : List Int := pickN s (O.map Int.toNat)
def turnV (s O : List Int) : VL := permV ⟨0, s, rowS s⟩ O
/-- The rank, before the turn, of the value with the rank k behind it. -/
def turnK (s O : List Int) (k : Int) : Int := dotI (unP (O.map Int.toNat) (unr (turnS s O) k) s.length) (rowS s)
def turnL (T : TL) (O : List Int) : TL := if isTensorL T && orderL O T.shape.length then ⟨turnS T.shape O, takenL T.values (offs (turnV T.shape O))⟩ else ⟨[], []⟩
theorem rowS_small {s : List Int} (h : isShapeL s = true) (h0 : 0 < prodI s) : ∀ x ∈ rowS s, 0 ≤ x ∧ x ≤ 60 := by
  obtain ⟨s1, s2, s3⟩ := shape_ext h
  have hp := shape_prod h
  have hpos := prodI_pos (fun x hx => (s2 x hx).1) h0
  intro x hx
  simp only [rowS, List.mem_map, List.mem_range] at hx
  obtain ⟨j, hj, rfl⟩ := hx
  have h1 : ∀ x ∈ s.drop (j + 1), 1 ≤ x := fun x hx => hpos x (List.mem_of_mem_drop hx)
  have h2 := prodI_gt h1
  have e : prodI s = prodI (s.take (j + 1)) * prodI (s.drop (j + 1)) := by rw [← prodI_append, List.take_append_drop]
  have h3 := prodI_gt (xs := s.take (j + 1)) (fun x hx => hpos x (List.mem_of_mem_take hx))
  have := Int.mul_le_mul_of_nonneg_right (show 1 ≤ prodI (s.take (j + 1)) by omega) (show 0 ≤ prodI (s.drop (j + 1)) by omega)
  omega
section
variable {s O : List Int}
theorem turnS_perm (ho : orderL O s.length = true) : (turnS s O).Perm s := by
  have := (order_perm ho).map fun i => s.getD i 0
  rwa [map_range_getD s _ rfl] at this
theorem turnS_prod (ho : orderL O s.length = true) : prodI (turnS s O) = prodI s := prodI_perm (turnS_perm ho)
theorem turnS_len (ho : orderL O s.length = true) : (turnS s O).length = s.length := (turnS_perm ho).length_eq
theorem turnS_shape (hs : isShapeL s = true) (ho : orderL O s.length = true) : isShapeL (turnS s O) = true := by
  obtain ⟨s1, s2, s3⟩ := shape_ext hs
  have ps := turnS_perm (s := s) ho
  have q1 : (turnS s O).length ≤ 4 := by rw [ps.length_eq]; exact s1
  have q2 : ∀ x ∈ turnS s O, 0 ≤ x ∧ x ≤ 60 := fun x hx => s2 x (ps.mem_iff.1 hx)
  have a := shape_prod hs
  have b := prodW_eq q1 q2
  simp only [isShapeL, Bool.and_eq_true, decide_eq_true_eq, List.all_eq_true, okExt, inR_iff]
  exact ⟨⟨q1, q2⟩, by rw [b.1, turnS_prod ho]; exact a.2.2⟩
/-- What the place of a turned value is. -/
theorem turn_at (hs : isShapeL s = true) (ho : orderL O s.length = true) {k : Int} (h0 : 0 ≤ k) (h1 : k < prodI s) :
    InBox (unP (O.map Int.toNat) (unr (turnS s O) k) s.length) s ∧ offW 0 (unr (turnS s O) k) (turnV s O).strides = turnK s O k ∧ 0 ≤ turnK s O k ∧ turnK s O k < prodI s := by
  have hp := order_perm ho
  obtain ⟨s1, s2, s3⟩ := shape_ext hs
  have hpos := prodI_pos (fun x hx => (s2 x hx).1) (show 0 < prodI s by omega)
  have hps : ∀ x ∈ turnS s O, 1 ≤ x := fun x hx => hpos x ((turnS_perm ho).mem_iff.1 hx)
  have hb := unr_box hps k
  have hB := unP_box hp rfl hb
  have hul : (unr (turnS s O) k).length = s.length := by rw [unr_length, turnS_len ho]
  have hr := rowS_small hs (by omega)
  have e : dotI (unr (turnS s O) k) (turnV s O).strides = turnK s O k := by
    have h := dotI_perm hp (xs := unP (O.map Int.toNat) (unr (turnS s O) k) s.length) (ys := rowS s) (unP_len _ _ _) (rowS_length s)
    rw [pick_unP hp hul] at h
    exact h
  have hw := offW_dot (base := 0) (idx := unr (turnS s O) k) (strides := (turnV s O).strides) ⟨by omega, by omega⟩ (box_le hb fun x hx => (s2 x ((turnS_perm ho).mem_iff.1 hx)).2)
    (fun x hx => by
      have : x ∈ pickN (rowS s) (O.map Int.toNat) := hx
      simp only [pickN, List.mem_map] at this
      obtain ⟨i, -, rfl⟩ := this
      simp only [List.getD_eq_getElem?_getD]
      cases hi : (rowS s)[i]? with
      | none => simp
      | some y => have := hr y (List.mem_of_getElem? hi); simp; omega)
    (by rw [hul]; omega)
  obtain ⟨d1, d2, -⟩ := dot_row hB
  exact ⟨hB, by rw [hw, e]; omega, d1, d2⟩
theorem turn_offs_len (hs : isShapeL s = true) (ho : orderL O s.length = true) : (offs (turnV s O)).length = (prodI s).toNat := by
  have := shape_prod (turnS_shape hs ho)
  have e : (offs (turnV s O)).length = (prodW (turnS s O)).toNat := by simp [offs, turnV, permV, turnS]
  rw [e, this.1, turnS_prod ho]
theorem turn_offs_get (hs : isShapeL s = true) (ho : orderL O s.length = true) (k : Nat) (hk : k < (offs (turnV s O)).length) : (offs (turnV s O))[k] = turnK s O k := by
  have hl := turn_offs_len hs ho
  have hp := shape_prod hs
  have h := (turn_at hs ho (k := k) (by omega) (by omega)).2.1
  simp only [offs, List.getElem_map, List.getElem_range]
  exact h
theorem turn_offs_in (hs : isShapeL s = true) (ho : orderL O s.length = true) : ∀ x ∈ offs (turnV s O), 0 ≤ x ∧ x < prodI s := by
  intro x hx
  obtain ⟨k, hk, rfl⟩ := List.getElem_of_mem hx
  have hl := turn_offs_len hs ho
  have hp := shape_prod hs
  rw [turn_offs_get hs ho k hk]
  exact (turn_at hs ho (k := k) (by omega) (by omega)).2.2
/-- The rank of the index before the turn. -/
theorem turn_rank (hs : isShapeL s = true) (ho : orderL O s.length = true) {k : Int} (h0 : 0 ≤ k) (h1 : k < prodI s) :
    rankOfL s (unP (O.map Int.toNat) (unr (turnS s O) k) s.length) = turnK s O k := by
  obtain ⟨hB, -⟩ := turn_at hs ho h0 h1
  obtain ⟨s1, s2, s3⟩ := shape_ext hs
  have hx : isIndexL s (unP (O.map Int.toNat) (unr (turnS s O) k) s.length) = true := box_index hB
  rw [rankOfL, hs, hx]
  simp only [Bool.and_self, if_true]
  rw [rankW_eq s1 s2 (box_le hB fun x hx => (s2 x hx).2), rankF_dot _ _ _ (by rw [unP_len])]
  simp only [Int.zero_mul, Int.zero_add]
  rfl
theorem turnL_len (T : TL) (O : List Int) : (turnL T O).shape.length ≤ 60 ∧ (turnL T O).values.length ≤ 60 := by
  unfold turnL
  split
  · rename_i h
    simp only [Bool.and_eq_true] at h
    have hT := isTensorL_and h.1
    have h1 := turnS_len h.2
    have h2 := (shape_ext hT.1).1
    have h3 := turn_offs_len hT.1 h.2
    have h4 := shape_prod hT.1
    refine ⟨by show (turnS T.shape O).length ≤ 60; omega, ?_⟩
    show (takenL T.values (offs (turnV T.shape O))).length ≤ 60
    simp only [takenL, List.length_map]
    omega
  · simp
end

end Go.Proofs.Ytldblcolnjkcaaa
