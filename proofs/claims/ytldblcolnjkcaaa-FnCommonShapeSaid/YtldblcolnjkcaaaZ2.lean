/- SpreadTo: plain. No conditions. -/
import Derived.Test.YtldblcolnjkcaaaJ1
namespace Go.Proofs.Ytldblcolnjkcaaa
open Go.RowKit

def ahead (V : VL) (X : List Int) : Nat := X.length - V.shape.length
def spAt (V : VL) (X : List Int) (k j : Nat) : Int := if ahead V X ≤ j ∧ j - ahead V X < k ∧ V.shape.getD (j - ahead V X) 0 = X.getD j 0 then V.strides.getD (j - ahead V X) 0 else 0
/-- The strides after the first k dimensions. -/
def spS (V : VL) (X : List Int) (k : Nat) : List Int := (List.range X.length).map (spAt V X k)
theorem spS_length (V : VL) (X : List Int) (k : Nat) : (spS V X k).length = X.length := by simp [spS]
theorem spS_zero (V : VL) (X : List Int) : spS V X 0 = List.replicate X.length 0 := by
  apply List.ext_getElem
  · simp [spS]
  · intro i h1 h2; simp [spS, spAt]
theorem spS_put {V : VL} {X : List Int} {k : Nat} (he : V.shape.getD k 0 = X.getD (ahead V X + k) 0) :
    (spS V X k).set (ahead V X + k) (V.strides.getD k 0) = spS V X (k + 1) := by
  apply List.ext_getElem
  · simp [spS]
  · intro i h1 h2
    simp only [spS, List.length_set, List.length_map, List.length_range] at h1
    rw [List.getElem_set]
    simp only [spS, List.getElem_map, List.getElem_range]
    split
    · rename_i e
      subst e
      simp only [spAt, Nat.add_sub_cancel_left]
      rw [if_pos ⟨by omega, by omega, he⟩]
    · rename_i e
      unfold spAt
      by_cases h : ahead V X ≤ i ∧ i - ahead V X < k ∧ V.shape.getD (i - ahead V X) 0 = X.getD i 0
      · rw [if_pos h, if_pos ⟨h.1, by omega, h.2.2⟩]
      · rw [if_neg h, if_neg fun h' => h ⟨h'.1, by have := h'.2.1; have := h'.1; omega, h'.2.2⟩]
theorem spS_skip {V : VL} {X : List Int} {k : Nat} (he : V.shape.getD k 0 ≠ X.getD (ahead V X + k) 0) : spS V X k = spS V X (k + 1) := by
  apply List.ext_getElem
  · simp [spS]
  · intro i h1 h2
    simp only [spS, List.getElem_map, List.getElem_range]
    unfold spAt
    by_cases h : ahead V X ≤ i ∧ i - ahead V X < k ∧ V.shape.getD (i - ahead V X) 0 = X.getD i 0
    · rw [if_pos h, if_pos ⟨h.1, by omega, h.2.2⟩]
    · rw [if_neg h, if_neg fun h' => ?_]
      by_cases e : i - ahead V X = k
      · exact he (by have h3 := h'.2.2; rw [e] at h3; rw [h3]; congr 1; have := h'.1; omega)
      · exact h ⟨h'.1, by have := h'.2.1; omega, h'.2.2⟩
/-- The dimension i can be spread. -/
def fitAt (V : VL) (X : List Int) (i : Nat) : Bool := V.shape.getD i 0 == X.getD (ahead V X + i) 0 || V.shape.getD i 0 == 1
def okSpread (V : VL) (X : List Int) : Bool := isViewL V && isShapeL X && decide (V.shape.length ≤ X.length) && (List.range V.shape.length).all (fitAt V X)
def spreadV (V : VL) (X : List Int) : VL := ⟨V.base, X, spS V X V.shape.length⟩
def spreadL (V : VL) (X : List Int) : VL := if okSpread V X then tidyL (spreadV V X) else VL.zero
theorem spread_no {V : VL} {X : List Int} (h : okSpread V X = false) : spreadL V X = VL.zero := by simp [spreadL, h]
theorem spread_bad {V : VL} {X : List Int} {k : Nat} (hk : k < V.shape.length) (h : fitAt V X k = false) : okSpread V X = false := by
  have : (List.range V.shape.length).all (fitAt V X) = false := by
    rw [List.all_eq_false]
    exact ⟨k, List.mem_range.2 hk, by simp [h]⟩
  simp [okSpread, this]

def spZ : List Int → List Int → List Int → List Int
  | e :: es, t :: ts, x :: xs => (if e = x then t else 0) :: spZ es ts xs
  | _, _, _ => []
theorem spZ_lo : ∀ (es ts xs : List Int), es.length = xs.length → ts.length = es.length → (∀ i, i < es.length → es.getD i 0 = xs.getD i 0 ∨ es.getD i 0 = 1) →
    loS xs (spZ es ts xs) = loS es ts ∧ hiS xs (spZ es ts xs) = hiS es ts
  | [], ts, [], _, _, _ => by simp [loS, hiS]
  | [], _, _ :: _, h, _, _ => by simp at h
  | _ :: _, _, [], h, _, _ => by simp at h
  | _ :: _, [], _ :: _, _, h, _ => by simp at h
  | e :: es, t :: ts, x :: xs, h1, h2, h3 => by
    have ih := spZ_lo es ts xs (by simpa using h1) (by simpa using h2) fun i hi => by
      have := h3 (i + 1) (by simpa using hi)
      simpa using this
    have h0 := h3 0 (by simp)
    simp only [List.getD_cons_zero] at h0
    simp only [spZ, loS, hiS, ih.1, ih.2]
    by_cases hex : e = x
    · subst hex; simp
    · rcases h0 with h0 | h0
      · exact absurd h0 hex
      · subst h0; simp [hex]
theorem lo_zeros : ∀ (xs ys zs : List Int), loS (xs ++ ys) (List.replicate xs.length 0 ++ zs) = loS ys zs ∧ hiS (xs ++ ys) (List.replicate xs.length 0 ++ zs) = hiS ys zs
  | [], _, _ => by simp
  | x :: xs, ys, zs => by
    have ih := lo_zeros xs ys zs
    simp only [List.length_cons, List.replicate_succ, List.cons_append, loS, hiS, ih.1, ih.2]
    simp
theorem spZ_get : ∀ (es ts xs : List Int) (i : Nat), es.length = xs.length → ts.length = es.length → i < es.length → (spZ es ts xs).getD i 0 = if es.getD i 0 = xs.getD i 0 then ts.getD i 0 else 0
  | [], _, _, _, _, _, h => by simp at h
  | _ :: _, _, [], _, h, _, _ => by simp at h
  | _ :: _, [], _ :: _, _, _, h, _ => by simp at h
  | e :: es, t :: ts, x :: xs, 0, _, _, _ => by simp [spZ]
  | e :: es, t :: ts, x :: xs, i + 1, h1, h2, h3 => by
    have := spZ_get es ts xs i (by simpa using h1) (by simpa using h2) (by simpa using h3)
    simpa [spZ] using this
theorem spZ_length : ∀ (es ts xs : List Int), es.length = xs.length → ts.length = es.length → (spZ es ts xs).length = es.length
  | [], _, _, _, _ => by simp [spZ]
  | _ :: _, _, [], h, _ => by simp at h
  | _ :: _, [], _ :: _, _, h => by simp at h
  | e :: es, t :: ts, x :: xs, h1, h2 => by simp [spZ, spZ_length es ts xs (by simpa using h1) (by simpa using h2)]
theorem spS_eq {V : VL} {X : List Int} (hl : V.shape.length ≤ X.length) (ht : V.strides.length = V.shape.length) : spS V X V.shape.length = List.replicate (X.take (ahead V X)).length 0 ++ spZ V.shape V.strides (X.drop (ahead V X)) := by
  have ha : ahead V X + V.shape.length = X.length := by unfold ahead; omega
  have hd : V.shape.length = (X.drop (ahead V X)).length := by rw [List.length_drop]; omega
  have hta : (X.take (ahead V X)).length = ahead V X := by rw [List.length_take]; omega
  have hz := spZ_length V.shape V.strides (X.drop (ahead V X)) hd ht
  rw [hta]
  apply List.ext_getElem
  · simp [spS, hz]; omega
  · intro i h1 h2
    simp only [spS, List.length_map, List.length_range] at h1
    simp only [spS, List.getElem_map, List.getElem_range]
    unfold spAt
    rcases Nat.lt_or_ge i (ahead V X) with hi | hi
    · rw [if_neg (by omega), List.getElem_append_left (by simpa using hi)]; simp
    · rw [List.getElem_append_right (by simpa using hi)]
      simp only [List.length_replicate]
      have hg := spZ_get V.shape V.strides (X.drop (ahead V X)) (i - ahead V X) hd ht (by omega)
      have hx : (X.drop (ahead V X)).getD (i - ahead V X) 0 = X.getD i 0 := by
        simp only [List.getD_eq_getElem?_getD, List.getElem?_drop]
        congr 2; omega
      rw [hx] at hg
      have hgl : (spZ V.shape V.strides (X.drop (ahead V X))).getD (i - ahead V X) 0 = (spZ V.shape V.strides (X.drop (ahead V X)))[i - ahead V X]'(by rw [hz]; omega) := by
        have hb : i - ahead V X < (spZ V.shape V.strides (X.drop (ahead V X))).length := by rw [hz]; omega
        simp [List.getD_eq_getElem?_getD, hb]
      rw [← hgl, hg]
      have : i - ahead V X < V.shape.length := by omega
      simp [hi, this]
theorem spread_valid {V : VL} {X : List Int} (h : okSpread V X = true) : isViewL (tidyL (spreadV V X)) = true := by
  simp only [okSpread, Bool.and_eq_true, decide_eq_true_eq] at h
  obtain ⟨⟨⟨hV, hX⟩, hl⟩, hfit⟩ := h
  rw [valid_iff] at hV
  obtain ⟨a1, a2, a3, a4, a5⟩ := hV
  have ha : ahead V X + V.shape.length = X.length := by unfold ahead; omega
  have hfa : ∀ i, i < V.shape.length → V.shape.getD i 0 = X.getD (ahead V X + i) 0 ∨ V.shape.getD i 0 = 1 := fun i hi => by
    have := (List.all_eq_true.1 hfit) i (List.mem_range.2 hi)
    simpa [fitAt] using this
  obtain ⟨s1, s2, s3⟩ := shape_ext hX
  obtain ⟨t1, t2, t3⟩ := shape_ext a1
  apply tidy_valid
  · exact hX
  · exact spS_length _ _ _
  · intro hz
    have hz' : prodI X ≠ 0 := hz
    have sp := shape_prod hX
    have hpos := prodI_pos (fun x hx => (s2 x hx).1) (show 0 < prodI X by omega)
    have hVpos : ∀ x ∈ V.shape, 1 ≤ x := fun x hx => by
      obtain ⟨i, hi, rfl⟩ := List.getElem_of_mem hx
      have hb : ahead V X + i < X.length := by omega
      have e1 : V.shape.getD i 0 = V.shape[i] := by simp [hi]
      have e2 : X.getD (ahead V X + i) 0 = X[ahead V X + i] := by simp [hb]
      have := hfa i hi
      rw [e1, e2] at this
      rcases this with h | h
      · rw [h]; exact hpos _ (List.getElem_mem hb)
      · omega
    have hne : prodI V.shape ≠ 0 := by have := prodI_gt hVpos; omega
    obtain ⟨b1, b2⟩ := a5.resolve_left hne
    have hd : V.shape.length = (X.drop (ahead V X)).length := by rw [List.length_drop]; omega
    have hz1 := spZ_lo V.shape V.strides (X.drop (ahead V X)) hd a2 fun i hi => by
      have := hfa i hi
      simpa [List.getD_eq_getElem?_getD, List.getElem?_drop] using this
    have hz2 := lo_zeros (X.take (ahead V X)) (X.drop (ahead V X)) (spZ V.shape V.strides (X.drop (ahead V X)))
    rw [List.take_append_drop, ← spS_eq hl a2] at hz2
    simp only [spreadV]
    refine ⟨a3, fun x hx => ?_, by rw [hz2.1, hz1.1]; exact b1, by rw [hz2.2, hz1.2]; exact b2⟩
    simp only [spS, List.mem_map, List.mem_range] at hx
    obtain ⟨j, _, rfl⟩ := hx
    unfold spAt
    split
    · rename_i hj
      have hjl : j - ahead V X < V.strides.length := by omega
      have e : V.strides.getD (j - ahead V X) 0 = V.strides[j - ahead V X] := by simp [hjl]
      rw [e]; exact a4 _ (List.getElem_mem hjl)
    · omega
theorem spreadL_len (V : VL) (X : List Int) : (spreadL V X).shape.length ≤ 60 ∧ (spreadL V X).strides.length ≤ 60 := by
  cases h : okSpread V X
  · rw [spread_no h]; simp [VL.zero]
  · have hX : isShapeL X = true := by simp only [okSpread, Bool.and_eq_true] at h; exact h.1.1.2
    have hl := (shape_ext hX).1
    simp only [spreadL, h, if_true]
    unfold tidyL
    split
    · simp only [spreadV, zerosL_length]; omega
    · simp only [spreadV, spS_length]; omega

end Go.Proofs.Ytldblcolnjkcaaa
