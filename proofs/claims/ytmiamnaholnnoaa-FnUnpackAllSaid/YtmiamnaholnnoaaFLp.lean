/- The bytes that a field's view loads, plain. Conditions: none. -/
import Derived.Test.YtmiamnaholnnoaaFPj
import Derived.Test.YtmiamnaholnnoaaU1
import Derived.Test.YtmiamnaholnnoaaG1
namespace Go.Proofs.Ytmiamnaholnnoaa
open Go.RowKit

/-- The lowest byte first. -/
def lowF (big : Bool) (bs : List Int) : List Int := if big then bs.reverse else bs
theorem numF_low (big : Bool) (bs : List Int) : numF big bs = numLE (lowF big bs) := by cases big <;> rfl
theorem lowF_length (big : Bool) (bs : List Int) : (lowF big bs).length = bs.length := by cases big <;> simp [lowF]
theorem numLE_drop (bs : List Int) (j : Nat) (hj : j < bs.length) : numLE (bs.drop j) = bs[j] + 256 * numLE (bs.drop (j + 1)) := by
  rw [List.drop_eq_getElem_cons hj]
  rfl
theorem lowF_at {big : Bool} {bs : List Int} {s : Nat} (hl : bs.length = s) (j : Nat) (hj : j < s) : (lowF big bs)[j]? = bs[if big then s - 1 - j else j]? := by
  cases big
  · rfl
  · simp only [lowF, if_true]
    rw [List.getElem?_reverse (by omega), hl]
theorem okUA_and {F : FL} {bs : List Int} (h : okUA F bs = true) : isFormatL F = true ∧ bs.length ≤ 60 ∧ (∀ b ∈ bs, 0 ≤ b ∧ b ≤ 255) ∧ bs.length = bs.length / (sizeF F).toNat * (sizeF F).toNat := by
  simp only [okUA, Bool.and_eq_true, decide_eq_true_eq, isMemL, List.all_eq_true] at h
  refine ⟨h.1.1, h.1.2.1, fun b hb => by simpa [inR] using h.1.2.2 b hb, ?_⟩
  have := Nat.div_add_mod bs.length (sizeF F).toNat
  rw [h.2, Nat.add_zero, Nat.mul_comm] at this
  exact this.symm
section
variable {F : FL} {bs : List Int} {k m : Nat}
theorem prod2 (a b : Int) : prodI [a, b] = a * b := by simp [prodI]
theorem fv_valid (h : isFormatL F = true) (hk : k < F.sizes.length) (h1 : 1 ≤ m) (hm : m * (sizeF F).toNat ≤ 60) : isViewL (rawFV F k m) = true := by
  have hp := psF_inD h k hk
  have hs := sz_cases h k hk
  have hz := size_bd h
  have hmm : (m : Int) * sizeF F ≤ 60 := by
    have e : ((m * (sizeF F).toNat : Nat) : Int) = (m : Int) * sizeF F := by rw [Int.natCast_mul, Int.toNat_of_nonneg (by omega)]
    omega
  have hm1 : (m : Int) ≤ (m : Int) * sizeF F := by
    have := Int.mul_le_mul_of_nonneg_left (show (1 : Int) ≤ sizeF F by omega) (show (0 : Int) ≤ (m : Int) by omega)
    omega
  have hms : (m : Int) * F.sizes.getD k 0 ≤ 60 := by
    have := Int.mul_le_mul_of_nonneg_left (show F.sizes.getD k 0 ≤ sizeF F by omega) (show (0 : Int) ≤ (m : Int) by omega)
    omega
  have hm1s : ((m : Int) - 1) * sizeF F = (m : Int) * sizeF F - sizeF F := by rw [Int.sub_mul, Int.one_mul]
  have hnn : 0 ≤ ((m : Int) - 1) * sizeF F := Int.mul_nonneg (by omega) (by omega)
  rw [valid_iff]
  unfold rawFV
  simp only [Int.toNat_natCast]
  generalize (psF F).getD k 0 = P at *
  generalize F.sizes.getD k 0 = s at *
  generalize sizeF F = z at *
  generalize hM : (m : Int) * z = M at *
  generalize hM' : ((m : Int) - 1) * z = M' at *
  refine ⟨?_, rfl, ?_, ?_, .inr ?_⟩
  · have hms2 : 0 ≤ (m : Int) * s := Int.mul_nonneg (by omega) (by omega)
    have hx : ∀ x ∈ [(m : Int), s], 0 ≤ x ∧ x ≤ 60 := fun x hx => by simp at hx; rcases hx with rfl | rfl <;> omega
    have b := prodW_eq (xs := [(m : Int), s]) (by simp) hx
    simp only [isShapeL, Bool.and_eq_true, decide_eq_true_eq, List.all_eq_true, okExt, inR_iff]
    exact ⟨⟨by simp, hx⟩, by rw [b.1, prod2]; exact hms⟩
  · cases F.big <;> simp <;> omega
  · intro x hx
    cases F.big <;> simp at hx <;> rcases hx with rfl | rfl <;> omega
  · cases F.big <;> simp only [loS, hiS, hM', Bool.false_eq_true, if_false, if_true] <;> omega
theorem fv_offs (h : isFormatL F = true) (hk : k < F.sizes.length) (h1 : 1 ≤ m) (hm : m * (sizeF F).toNat ≤ 60) (i j : Nat) (hi : i < m) (hj : (j : Int) < F.sizes.getD k 0) :
    (offs (rawFV F k m))[i * (F.sizes.getD k 0).toNat + j]? = some (((i * (sizeF F).toNat + (((psF F).getD k 0).toNat + if F.big then (F.sizes.getD k 0).toNat - 1 - j else j) : Nat)) : Int) := by
  have hv := fv_valid h hk h1 hm
  have hV := (valid_iff _).1 hv
  have hp := psF_inD h k hk
  have hs := sz_cases h k hk
  have hz := size_bd h
  obtain ⟨s, hss⟩ : ∃ s : Nat, F.sizes.getD k 0 = (s : Int) := ⟨(F.sizes.getD k 0).toNat, by omega⟩
  obtain ⟨P, hPP⟩ : ∃ P : Nat, (psF F).getD k 0 = (P : Int) := ⟨((psF F).getD k 0).toNat, by omega⟩
  obtain ⟨z, hzz⟩ : ∃ z : Nat, sizeF F = (z : Int) := ⟨(sizeF F).toNat, by omega⟩
  have hsh : (rawFV F k m).shape = [(m : Int), (s : Int)] := by simp only [rawFV, Int.toNat_natCast, hss]
  have hpr := shape_prod hV.1
  have hq : i * s + j < m * s := by
    have := Nat.mul_le_mul_right s (show i + 1 ≤ m by omega)
    rw [Nat.succ_mul] at this; omega
  have hst : (rawFV F k m).strides = [(z : Int), if F.big then -1 else 1] := by simp only [rawFV, hzz]
  have hba : (rawFV F k m).base = if F.big then (P : Int) + s - 1 else (P : Int) := by simp only [rawFV, Int.toNat_natCast, hss, hPP]
  have hiz : i * z ≤ 60 := by
    have := Nat.mul_le_mul_right z (show i ≤ m by omega)
    rw [hzz, Int.toNat_natCast] at hm; omega
  have him : m ≤ 60 := by
    have := Nat.mul_le_mul_left m (show 1 ≤ z by omega)
    rw [hzz, Int.toNat_natCast] at hm; omega
  have hu : unr [(m : Int), (s : Int)] ((i * s + j : Nat) : Int) = [(i : Int), (j : Int)] := by
    have e1 : (((i * s + j : Nat) : Int) / (s : Int)) % (m : Int) = (i : Int) := by
      rw [← Int.natCast_ediv, ← Int.natCast_emod, Nat.add_comm, Nat.add_mul_div_right _ _ (by omega), Nat.div_eq_of_lt (by omega), Nat.zero_add, Nat.mod_eq_of_lt hi]
    have e2 : (((i * s + j : Nat) : Int) / 1) % (s : Int) = (j : Int) := by
      rw [Int.ediv_one, ← Int.natCast_emod, Nat.add_comm, Nat.add_mul_mod_self_right, Nat.mod_eq_of_lt (by omega)]
    rw [unr_cons, unr_cons]
    simp only [prodI, Int.mul_one, unr, List.length_nil, List.range_zero, List.map_nil, e1, e2]
  have hbx := unr_box (shape := [(m : Int), (s : Int)]) (fun x hx => by simp at hx; rcases hx with rfl | rfl <;> omega) ((i * s + j : Nat) : Int)
  have hod := offW_dot (base := (rawFV F k m).base) (idx := unr [(m : Int), (s : Int)] ((i * s + j : Nat) : Int)) (strides := (rawFV F k m).strides) hV.2.2.1 (box_le hbx fun x hx => by simp at hx; rcases hx with rfl | rfl <;> omega) hV.2.2.2.1 (by rw [box_length hbx]; simp)
  rw [hss, Int.toNat_natCast, hPP, Int.toNat_natCast, hzz, Int.toNat_natCast]
  unfold offs
  rw [List.getElem?_map, List.getElem?_range (by rw [hpr.1, hsh, prod2, ← Int.natCast_mul, Int.toNat_natCast]; exact hq), Option.map_some, hsh, hod, hu, hst, hba]
  congr 1
  simp only [dotI]
  rw [show (i : Int) * (z : Int) = ((i * z : Nat) : Int) from (Int.natCast_mul i z).symm]
  cases F.big
  · simp only [Bool.false_eq_true, if_false]; push_cast; omega
  · simp only [if_true]; push_cast; omega
theorem lin (I z L P s X : Nat) (h1 : I + z ≤ L) (h2 : P + s ≤ z) (h3 : X < s) : 0 ≤ ((I + (P + X) : Nat) : Int) ∧ ((I + (P + X) : Nat) : Int) ≤ (L : Int) - 1 := by omega
theorem low_lt {b : Bool} {j s : Nat} (h : j < s) : (if b = true then s - 1 - j else j) < s := by split <;> omega
theorem fv_hold (h : okUA F bs = true) (hk : k < F.sizes.length) (hm : m = bs.length / (sizeF F).toNat) (h1 : 1 ≤ m) : holdL bs (rawFV F k m) = true ∧ okFV F k m = true := by
  obtain ⟨hF, hl, hb, he⟩ := okUA_and h
  rw [← hm] at he
  have hv := fv_valid hF hk h1 (by omega)
  have hp := psF_inD hF k hk
  have hs := sz_cases hF k hk
  have hz := size_bd hF
  refine ⟨?_, ?_⟩
  · simp only [okUA, Bool.and_eq_true] at h
    simp only [holdL, h.1.2, hv, Bool.true_and, fitsL, List.all_eq_true, inR_iff]
    intro x hx
    obtain ⟨q, hq, rfl⟩ := List.mem_iff_getElem.1 hx
    have hpr := shape_prod ((valid_iff _).1 hv).1
    have hlen : (offs (rawFV F k m)).length = m * (F.sizes.getD k 0).toNat := by
      unfold offs
      rw [List.length_map, List.length_range, hpr.1]
      have e : (rawFV F k m).shape = [(m : Int), F.sizes.getD k 0] := by simp only [rawFV, Int.toNat_natCast]
      rw [e, prod2]
      have e2 : F.sizes.getD k 0 = ((F.sizes.getD k 0).toNat : Int) := by omega
      rw [e2, ← Int.natCast_mul, Int.toNat_natCast, Int.toNat_natCast]
    rw [hlen] at hq
    have hs0 : 0 < (F.sizes.getD k 0).toNat := by omega
    have hi : q / (F.sizes.getD k 0).toNat < m := Nat.div_lt_of_lt_mul (by rw [Nat.mul_comm]; exact hq)
    have hj := Nat.mod_lt q hs0
    have hdm : q / (F.sizes.getD k 0).toNat * (F.sizes.getD k 0).toNat + q % (F.sizes.getD k 0).toNat = q := by rw [Nat.mul_comm]; exact Nat.div_add_mod q _
    have ho := fv_offs hF hk h1 (by omega) _ _ hi (show ((q % (F.sizes.getD k 0).toNat : Nat) : Int) < F.sizes.getD k 0 by omega)
    rw [hdm, List.getElem?_eq_getElem (by rw [hlen]; exact hq)] at ho
    injection ho with ho
    rw [ho]
    have hiz := Nat.mul_le_mul_right (sizeF F).toNat (Nat.succ_le_of_lt hi)
    rw [Nat.succ_mul, ← he] at hiz
    have hPs : ((psF F).getD k 0).toNat + (F.sizes.getD k 0).toNat ≤ (sizeF F).toNat := by clear hiz ho hdm hj hi hq hlen hpr h he; omega
    exact lin _ _ _ _ _ _ hiz hPs (low_lt hj)
  · have hm60 : m ≤ 60 := by
      have := Nat.mul_le_mul_left m (show 1 ≤ (sizeF F).toNat by omega)
      omega
    simp only [okFV, hF, hv, Bool.and_true, Bool.true_and, Bool.and_eq_true, inR_iff]
    omega
/-- What the field's view loads: the bytes of each item's field, the lowest first. -/
theorem fv_load (h : okUA F bs = true) (hk : k < F.sizes.length) (hm : m = bs.length / (sizeF F).toNat) (h1 : 1 ≤ m) (i j : Nat) (hi : i < m) (hj : (j : Int) < F.sizes.getD k 0) :
    (loadL bs (rawFV F k m))[i * (F.sizes.getD k 0).toNat + j]? = (lowF F.big (fieldL (fieldL bs (i * (sizeF F).toNat) (sizeF F).toNat) ((psF F).getD k 0).toNat (F.sizes.getD k 0).toNat))[j]? := by
  obtain ⟨hF, hl, hb, he⟩ := okUA_and h
  have hh := (fv_hold h hk hm h1).1
  rw [← hm] at he
  have hp := psF_inD hF k hk
  have hs := sz_cases hF k hk
  have hz := size_bd hF
  have ho := fv_offs hF hk h1 (by omega) i j hi hj
  have hiz := Nat.mul_le_mul_right (sizeF F).toNat (show i + 1 ≤ m by omega)
  rw [Nat.succ_mul] at hiz
  unfold loadL takenL
  rw [if_pos hh, List.getElem?_map, ho, Option.map_some, Int.toNat_natCast]
  have hfl : (fieldL bs (i * (sizeF F).toNat) (sizeF F).toNat).length = (sizeF F).toNat := fieldL_length (by omega)
  rw [lowF_at (s := (F.sizes.getD k 0).toNat) (fieldL_length (by omega)) j (by omega)]
  have hjs : j < (F.sizes.getD k 0).toNat := by omega
  have hsub := low_lt (b := F.big) hjs
  generalize (if F.big = true then (F.sizes.getD k 0).toNat - 1 - j else j) = J at *
  conv => rhs; unfold fieldL
  rw [List.getElem?_take, if_pos hsub, List.getElem?_drop, List.getElem?_take, if_pos (by omega), List.getElem?_drop]
  have hx : i * (sizeF F).toNat + (((psF F).getD k 0).toNat + J) < bs.length := by omega
  rw [List.getD_eq_getElem?_getD, List.getElem?_eq_getElem hx, Option.getD_some]
theorem item_at (h : okUA F bs = true) (hk : k < F.sizes.length) (hm : m = bs.length / (sizeF F).toNat) (i : Nat) (hi : i < m) :
    ∃ us : List Int, (unpackAllL F bs)[i]? = some us ∧ us[k]? = some (numLE (lowF F.big (fieldL (fieldL bs (i * (sizeF F).toNat) (sizeF F).toNat) ((psF F).getD k 0).toNat (F.sizes.getD k 0).toNat))) := by
  refine ⟨unpackL F (fieldL bs (i * (sizeF F).toNat) (sizeF F).toNat), ?_, ?_⟩
  · unfold unpackAllL
    rw [if_pos h, ← hm]
    simp [itemsTo, hi]
  · rw [← numF_low]
    simp [unpackL, unpackTo, hk]
theorem low_bytes {big : Bool} {bs : List Int} (h : ∀ b ∈ bs, 0 ≤ b ∧ b ≤ 255) : ∀ b ∈ lowF big bs, 0 ≤ b ∧ b ≤ 255 := by
  cases big
  · exact h
  · exact fun b hb => h b (List.mem_reverse.1 hb)
/-- All that the law on unpacked lists asks of one field. -/
theorem fv_all (h : okUA F bs = true) (hk : k < F.sizes.length) (hm : m = bs.length / (sizeF F).toNat) (h1 : 1 ≤ m) : ∃ (sk : Nat) (B : Nat → List Int), F.sizes[k] = (sk : Int) ∧ 1 ≤ sk ∧ sk ≤ 4 ∧
    ∀ i, i < m → (B i).length = sk ∧ (∀ b ∈ B i, 0 ≤ b ∧ b ≤ 255) ∧ (∀ j, j < sk → (loadL bs (rawFV F k m))[i * sk + j]? = (B i)[j]?) ∧ ∃ us : List Int, (unpackAllL F bs)[i]? = some us ∧ us[k]? = some (numLE (B i)) := by
  obtain ⟨hF, hl, hb, he⟩ := okUA_and h
  have hs := sz_cases hF k hk
  have e := getD_get F.sizes k hk
  have hp := psF_inD hF k hk
  have hz := size_bd hF
  refine ⟨(F.sizes.getD k 0).toNat, fun i => lowF F.big (fieldL (fieldL bs (i * (sizeF F).toNat) (sizeF F).toNat) ((psF F).getD k 0).toNat (F.sizes.getD k 0).toNat), by omega, by omega, by omega, fun i hi => ⟨?_, ?_, fun j hj => fv_load h hk hm h1 i j hi (by omega), item_at h hk hm i hi⟩⟩
  · have hiz := Nat.mul_le_mul_right (sizeF F).toNat (Nat.succ_le_of_lt hi)
    rw [← hm] at he
    rw [Nat.succ_mul, ← he] at hiz
    rw [lowF_length, fieldL_length (by rw [fieldL_length (by omega)]; omega)]
  · exact low_bytes fun b hb' => hb b (fieldL_mem (fieldL_mem hb'))
end

end Go.Proofs.Ytmiamnaholnnoaa
