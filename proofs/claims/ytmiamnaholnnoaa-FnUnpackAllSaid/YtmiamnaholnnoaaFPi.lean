/- Formats, plain: items and bytes are each other's inverse. Conditions: none. -/
import Derived.Test.YtmiamnaholnnoaaQB
import Derived.Test.YtmiamnaholnnoaaFPp
namespace Go.Proofs.Ytmiamnaholnnoaa
open Go.RowKit

theorem getD_get (xs : List Int) (k : Nat) (h : k < xs.length) : xs.getD k 0 = xs[k] := by rw [List.getD_eq_getElem?_getD, List.getElem?_eq_getElem h]; rfl
/-- Fields lie one behind the other. -/
theorem psF_apart {F : FL} (h : isFormatL F = true) (j k : Nat) (hj : j < k) (hk : k < F.sizes.length) : (psF F).getD j 0 + F.sizes.getD j 0 ≤ (psF F).getD k 0 := by
  obtain ⟨h1, h2, h3⟩ := isFormat_iff.1 h
  have a := (placesF_at F.aligned F.sizes j (by omega) h3).1
  have b := (placesF_at F.aligned F.sizes k hk h3).2
  have c := placesF_mono F.aligned F.sizes (j + 1) k (by omega) (by omega) h3
  rw [getD_get F.sizes j (by omega)]
  unfold psF
  omega
theorem sz_cases {F : FL} (h : isFormatL F = true) (k : Nat) (hk : k < F.sizes.length) : F.sizes.getD k 0 = 1 ∨ F.sizes.getD k 0 = 2 ∨ F.sizes.getD k 0 = 4 := by
  rw [getD_get _ k hk]; exact (psF_in h k hk).2.2
theorem psF_inD {F : FL} (h : isFormatL F = true) (k : Nat) (hk : k < F.sizes.length) : 0 ≤ (psF F).getD k 0 ∧ (psF F).getD k 0 + F.sizes.getD k 0 ≤ sizeF F := by
  rw [getD_get F.sizes k hk]; exact ⟨(psF_in h k hk).1, (psF_in h k hk).2.1⟩
theorem packTo_field {F : FL} (h : isFormatL F = true) (vs : List Int) (k : Nat) (hk : k ≤ F.sizes.length) (j : Nat) (hj : j < k) (t : Nat) (ht : (t : Int) < F.sizes.getD j 0) :
    (packTo (psF F) F.sizes vs F.big (sizeF F).toNat k)[((psF F).getD j 0).toNat + t]? = (bytesF F.big (vs.getD j 0) (F.sizes.getD j 0).toNat)[t]? := by
  induction k with
  | zero => omega
  | succ k ih =>
    have hl := packTo_length h vs k (by omega)
    have hp := psF_inD h k (by omega)
    have hs := sz_cases h k (by omega)
    unfold packTo
    rw [putAt_getElem? (by rw [hl, bytesF_length]; omega), bytesF_length]
    rcases Nat.lt_or_ge j k with h1 | h1
    · have ha := psF_apart h j k h1 (by omega)
      have hpj := psF_inD h j (by omega)
      rw [if_neg (by omega), ih (by omega) h1]
    · obtain rfl : j = k := by omega
      rw [if_pos (by omega), Nat.add_sub_cancel_left]
theorem inFieldB_no {P xs : List Int} {x : Int} {k j : Nat} (h : inFieldB P xs x k = false) (hj : j < k) : ¬ (P.getD j 0 ≤ x ∧ x ≤ P.getD j 0 + xs.getD j 0 - 1) := by
  unfold inFieldB at h
  rw [List.any_eq_false] at h
  have := h j (List.mem_range.2 hj)
  intro hh
  exact this (inR_yes hh.1 hh.2)
theorem inFieldB_yes {P xs : List Int} {x : Int} {k : Nat} (h : inFieldB P xs x k = true) : ∃ j, j < k ∧ P.getD j 0 ≤ x ∧ x ≤ P.getD j 0 + xs.getD j 0 - 1 := by
  unfold inFieldB at h
  rw [List.any_eq_true] at h
  obtain ⟨j, hj, hx⟩ := h
  refine ⟨j, List.mem_range.1 hj, ?_⟩
  simpa [inR] using hx
theorem packTo_gap {F : FL} (h : isFormatL F = true) (vs : List Int) (k : Nat) (hk : k ≤ F.sizes.length) (i : Nat) (hi : (i : Int) < sizeF F) (hf : inFieldB (psF F) F.sizes i k = false) :
    (packTo (psF F) F.sizes vs F.big (sizeF F).toNat k)[i]? = some 0 := by
  induction k with
  | zero => unfold packTo; rw [List.getElem?_replicate, if_pos (by omega)]
  | succ k ih =>
    have hl := packTo_length h vs k (by omega)
    have hp := psF_inD h k (by omega)
    have hs := sz_cases h k (by omega)
    have hno := inFieldB_no hf (Nat.lt_succ_self k)
    rw [inFieldB_succ, Bool.or_eq_false_iff] at hf
    unfold packTo
    rw [putAt_getElem? (by rw [hl, bytesF_length]; omega), bytesF_length, if_neg (by omega), ih (by omega) hf.1]
theorem packL_len' {F : FL} (h : isFormatL F = true) (vs : List Int) : (packL F vs).length = (sizeF F).toNat := packTo_length h vs _ (Nat.le_refl _)
theorem mem_padL {F : FL} (h : isFormatL F = true) (x : Int) : x ∈ padL F ↔ ∃ i : Nat, x = i ∧ (i : Int) < sizeF F ∧ inFieldB (psF F) F.sizes i F.sizes.length = false := by
  unfold padL padTo
  rw [if_pos h, List.mem_filter, List.mem_map]
  constructor
  · rintro ⟨⟨i, hi, rfl⟩, hf⟩
    rw [List.mem_range] at hi
    exact ⟨i, rfl, by omega, by simpa using hf⟩
  · rintro ⟨i, rfl, hi, hf⟩
    exact ⟨⟨i, List.mem_range.2 (by omega), rfl⟩, by simpa using hf⟩
/-- All bytes of the padding are 0. -/
theorem pack_pad {F : FL} (h : isFormatL F = true) (vs : List Int) (x : Int) (hx : x ∈ padL F) : 0 ≤ x ∧ (packL F vs)[x.toNat]? = some 0 := by
  obtain ⟨i, rfl, hi, hf⟩ := (mem_padL h x).1 hx
  exact ⟨by omega, packTo_gap h vs _ (Nat.le_refl _) i hi hf⟩
theorem field_pack {F : FL} (h : isFormatL F = true) (vs : List Int) (j : Nat) (hj : j < F.sizes.length) :
    fieldL (packL F vs) ((psF F).getD j 0).toNat (F.sizes.getD j 0).toNat = bytesF F.big (vs.getD j 0) (F.sizes.getD j 0).toNat := by
  have hp := psF_inD h j hj
  have hs := sz_cases h j hj
  apply List.ext_getElem?
  intro t
  unfold fieldL
  rw [List.getElem?_take]
  split
  · rename_i ht
    rw [List.getElem?_drop]
    exact packTo_field h vs _ (Nat.le_refl _) j hj t (by omega)
  · rw [List.getElem?_eq_none (by rw [bytesF_length]; omega)]
theorem numLE_bytesLE (x : Int) (s : Nat) (hs : s = 1 ∨ s = 2 ∨ s = 4) (h0 : 0 ≤ x) (hx : x < 256 ^ s) : numLE (bytesLE x s) = x := by
  rcases hs with rfl | rfl | rfl
  all_goals
    simp [bytesLE, byteL, numLE, List.range_succ] at hx ⊢
    omega
theorem numF_bytesF (big : Bool) (x : Int) (s : Nat) (hs : s = 1 ∨ s = 2 ∨ s = 4) (h0 : 0 ≤ x) (hx : x < 256 ^ s) : numF big (bytesF big x s) = x := by
  cases big
  · exact numLE_bytesLE x s hs h0 hx
  · simp only [numF, bytesF, if_true, List.reverse_reverse]
    exact numLE_bytesLE x s hs h0 hx
theorem okItem_get {F : FL} {vs : List Int} (hi : okItem F vs = true) : vs.length = F.sizes.length ∧ ∀ k, k < F.sizes.length → 0 ≤ vs.getD k 0 ∧ vs.getD k 0 < 256 ^ (F.sizes.getD k 0).toNat := by
  simp only [okItem, Bool.and_eq_true, decide_eq_true_eq, List.all_eq_true] at hi
  refine ⟨hi.1, fun k hk => ?_⟩
  have := hi.2 k (List.mem_range.2 hk)
  simp only [inR, Bool.and_eq_true, decide_eq_true_eq] at this
  omega
/-- Unpacking takes back packing. -/
theorem unpack_pack {F : FL} (h : isFormatL F = true) (vs : List Int) (hi : okItem F vs = true) : unpackL F (packL F vs) = vs := by
  obtain ⟨hl, hv⟩ := okItem_get hi
  apply List.ext_getElem
  · simp [unpackL, unpackTo, hl]
  · intro k h1 h2
    have hk : k < F.sizes.length := by omega
    simp only [unpackL, unpackTo, List.getElem_map, List.getElem_range]
    rw [field_pack h vs k hk, numF_bytesF _ _ _ (by have := sz_cases h k hk; omega) (hv k hk).1 (hv k hk).2, getD_get _ _ h2]
theorem bytesF_byte (big : Bool) (x : Int) (s : Nat) : ∀ b ∈ bytesF big x s, 0 ≤ b ∧ b ≤ 255 := by
  have h1 : ∀ b ∈ bytesLE x s, 0 ≤ b ∧ b ≤ 255 := fun b hb => by
    obtain ⟨i, _, rfl⟩ := List.mem_map.1 hb
    unfold byteL
    have := Int.emod_nonneg (x / 256 ^ i) (show (256 : Int) ≠ 0 by omega)
    have := Int.emod_lt_of_pos (x / 256 ^ i) (show (0 : Int) < 256 by omega)
    omega
  cases big
  · exact h1
  · exact fun b hb => h1 b (List.mem_reverse.1 hb)
theorem pack_bytes {F : FL} (vs : List Int) (k : Nat) (hk : k ≤ F.sizes.length) : ∀ b ∈ packTo (psF F) F.sizes vs F.big (sizeF F).toNat k, 0 ≤ b ∧ b ≤ 255 := by
  induction k with
  | zero =>
    intro b hb
    have := (List.mem_replicate.1 hb).2
    omega
  | succ k ih =>
    intro b hb
    unfold packTo putAt at hb
    rcases List.mem_append.1 hb with hb | hb
    · rcases List.mem_append.1 hb with hb | hb
      · exact ih (by omega) b (List.mem_of_mem_take hb)
      · exact bytesF_byte _ _ _ b hb
    · exact ih (by omega) b (List.mem_of_mem_drop hb)
theorem packL_mem {F : FL} (h : isFormatL F = true) (vs : List Int) : isMemL (packL F vs) = true := by
  have hl := packL_len' h vs
  have hs := size_bd h
  simp only [isMemL, Bool.and_eq_true, decide_eq_true_eq, List.all_eq_true]
  exact ⟨by omega, fun b hb => inR_yes (pack_bytes vs _ (Nat.le_refl _) b hb).1 (pack_bytes vs _ (Nat.le_refl _) b hb).2⟩
theorem okBytes_pack {F : FL} (h : isFormatL F = true) (vs : List Int) : okBytes F (packL F vs) = true := by
  have hl := packL_len' h vs
  have hs := size_bd h
  simp only [okBytes, h, Bool.true_and, Bool.and_eq_true, decide_eq_true_eq, List.all_eq_true]
  exact ⟨by omega, fun b hb => inR_yes (pack_bytes vs _ (Nat.le_refl _) b hb).1 (pack_bytes vs _ (Nat.le_refl _) b hb).2⟩
theorem unpackedL_packedL {F : FL} {vs : List Int} (h : isFormatL F = true) (hi : okItem F vs = true) : unpackedL F (packedL F vs) = vs ∧ okBytes F (packedL F vs) = true := by
  have e : packedL F vs = packL F vs := by simp [packedL, h, hi]
  rw [e]
  refine ⟨?_, okBytes_pack h vs⟩
  unfold unpackedL
  rw [if_pos (okBytes_pack h vs), unpack_pack h vs hi]
theorem packedL_some {F : FL} {vs : List Int} (h : (packedL F vs).length ≠ 0) : isFormatL F = true ∧ okItem F vs = true ∧ packedL F vs = packL F vs := by
  unfold packedL at h ⊢
  split at h
  · rename_i hh
    rw [if_pos hh]
    simp only [Bool.and_eq_true] at hh
    exact ⟨hh.1, hh.2, rfl⟩
  · exact absurd rfl h
theorem bytesLE_numLE (bs : List Int) (hs : bs.length = 1 ∨ bs.length = 2 ∨ bs.length = 4) (hb : ∀ b ∈ bs, 0 ≤ b ∧ b ≤ 255) : bytesLE (numLE bs) bs.length = bs := by
  match bs, hs, hb with
  | [a], _, hb =>
    have := hb a (by simp)
    simp [bytesLE, byteL, numLE, List.range_succ]; omega
  | [a, b], _, hb =>
    have := hb a (by simp); have := hb b (by simp)
    simp [bytesLE, byteL, numLE, List.range_succ]; omega
  | [a, b, c, d], _, hb =>
    have := hb a (by simp); have := hb b (by simp); have := hb c (by simp); have := hb d (by simp)
    simp [bytesLE, byteL, numLE, List.range_succ]; omega
theorem bytesF_numF (big : Bool) (bs : List Int) (s : Nat) (hl : bs.length = s) (hs : s = 1 ∨ s = 2 ∨ s = 4) (hb : ∀ b ∈ bs, 0 ≤ b ∧ b ≤ 255) : bytesF big (numF big bs) s = bs := by
  subst hl
  cases big
  · exact bytesLE_numLE bs hs hb
  · simp only [numF, bytesF, if_true]
    have := bytesLE_numLE bs.reverse (by simpa using hs) (fun b h => hb b (List.mem_reverse.1 h))
    rw [List.length_reverse] at this
    rw [this, List.reverse_reverse]
theorem fieldL_mem {bs : List Int} {p s : Nat} {b : Int} (h : b ∈ fieldL bs p s) : b ∈ bs := List.mem_of_mem_drop (List.mem_of_mem_take h)
theorem okBytes_and {F : FL} {bs : List Int} (h : okBytes F bs = true) : isFormatL F = true ∧ (bs.length : Int) = sizeF F ∧ ∀ b ∈ bs, 0 ≤ b ∧ b ≤ 255 := by
  simp only [okBytes, Bool.and_eq_true, decide_eq_true_eq, List.all_eq_true] at h
  exact ⟨h.1.1, h.1.2, fun b hb => by simpa [isByte, inR] using h.2 b hb⟩
theorem unpackL_at (F : FL) (bs : List Int) (k : Nat) (hk : k < F.sizes.length) : (unpackL F bs).getD k 0 = numF F.big (fieldL bs ((psF F).getD k 0).toNat (F.sizes.getD k 0).toNat) := by
  simp only [unpackL, unpackTo, List.getD_eq_getElem?_getD, List.getElem?_map, List.getElem?_range hk, Option.map_some, Option.getD_some]
theorem okItem_unpack {F : FL} {bs : List Int} (h : okBytes F bs = true) : okItem F (unpackL F bs) = true := by
  obtain ⟨h1, h2, h3⟩ := okBytes_and h
  simp only [okItem, Bool.and_eq_true, decide_eq_true_eq, List.all_eq_true]
  refine ⟨by simp [unpackL, unpackTo], fun k hk => ?_⟩
  rw [List.mem_range] at hk
  have hp := psF_inD h1 k hk
  have hs := sz_cases h1 k hk
  rw [unpackL_at F bs k hk]
  have hl : (fieldL bs ((psF F).getD k 0).toNat (F.sizes.getD k 0).toNat).length = (F.sizes.getD k 0).toNat := fieldL_length (by omega)
  have hb := fun b hb => h3 b (fieldL_mem (bs := bs) (p := ((psF F).getD k 0).toNat) (s := (F.sizes.getD k 0).toNat) (b := b) hb)
  generalize (F.sizes.getD k 0).toNat = s at *
  generalize fieldL bs ((psF F).getD k 0).toNat s = fs at *
  subst hl
  cases F.big
  · have := numLE_bd fs hb
    exact inR_yes this.1 (by simp only [numF]; simp only [Bool.false_eq_true, if_false]; omega)
  · have := numLE_bd fs.reverse (fun b h => hb b (List.mem_reverse.1 h))
    rw [List.length_reverse] at this
    exact inR_yes this.1 (by simp only [numF, if_true]; omega)
/-- Packing takes back unpacking, but for the padding. -/
theorem pack_unpack {F : FL} {bs : List Int} (h : okBytes F bs = true) (i : Nat) (hi : i < bs.length) (hp : (i : Int) ∉ padL F) : (packL F (unpackL F bs))[i]? = bs[i]? := by
  obtain ⟨h1, h2, h3⟩ := okBytes_and h
  have hf : inFieldB (psF F) F.sizes i F.sizes.length = true := by
    cases hc : inFieldB (psF F) F.sizes i F.sizes.length
    · exact absurd ((mem_padL h1 i).2 ⟨i, rfl, by omega, hc⟩) hp
    · rfl
  obtain ⟨j, hj, ha, hb⟩ := inFieldB_yes hf
  have hpj := psF_inD h1 j hj
  have hs := sz_cases h1 j hj
  obtain ⟨t, rfl⟩ : ∃ t, i = ((psF F).getD j 0).toNat + t := ⟨i - ((psF F).getD j 0).toNat, by omega⟩
  have := packTo_field h1 (unpackL F bs) F.sizes.length (Nat.le_refl _) j hj t (by omega)
  unfold packL
  rw [this, unpackL_at F bs j hj, bytesF_numF _ _ _ (fieldL_length (by omega)) (by omega) (fun b hb => h3 b (fieldL_mem hb))]
  unfold fieldL
  rw [List.getElem?_take, if_pos (by omega), List.getElem?_drop]

end Go.Proofs.Ytmiamnaholnnoaa
