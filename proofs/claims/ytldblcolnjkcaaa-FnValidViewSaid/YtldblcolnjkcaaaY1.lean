/- Ranges and slices: plain. No conditions. -/
import Derived.Test.YtldblcolnjkcaaaT0
import Derived.Test.YtldblcolnjkcaaaC3
namespace Go.Proofs.Ytldblcolnjkcaaa
open Go.RowKit

/-- How many numbers from a on by s come before b. -/
def cnt (a b s : Int) : Nat := if 0 < s then ((b - a + s - 1) / s).toNat else ((a - b - s - 1) / (-s)).toNat
def numsL (a b s : Int) : List Int := (List.range (cnt a b s)).map fun (i : Nat) => a + i * s
theorem numsL_length (a b s : Int) : (numsL a b s).length = cnt a b s := by simp [numsL]
theorem numsL_get {a b s : Int} {k : Nat} (h : k < (numsL a b s).length) : (numsL a b s)[k] = a + k * s := by simp [numsL]
theorem numsL_snoc (a b s : Int) (k : Nat) (h : k < cnt a b s) : (numsL a b s).take (k + 1) = (numsL a b s).take k ++ [a + k * s] := by
  rw [take_snocI _ k (by rw [numsL_length]; exact h), numsL_get]
theorem cnt_up {a b s : Int} (hs : 0 < s) (k : Nat) : a + k * s < b ↔ k < cnt a b s := by
  have h1 : (k : Int) < (b - a + s - 1) / s ↔ a + k * s < b := by
    rw [Int.lt_iff_add_one_le, Int.le_ediv_iff_mul_le hs, Int.add_mul, Int.one_mul]; omega
  rw [← h1, cnt, if_pos hs]
  omega
theorem cnt_dn {a b s : Int} (hs : s < 0) (k : Nat) : b < a + k * s ↔ k < cnt a b s := by
  have h1 : (k : Int) < (a - b - s - 1) / (-s) ↔ b < a + k * s := by
    rw [Int.lt_iff_add_one_le, Int.le_ediv_iff_mul_le (by omega), Int.add_mul, Int.one_mul, Int.mul_neg]; omega
  rw [← h1, cnt, if_neg (by omega)]
  omega
theorem cnt_le {a b s : Int} (hs : s ≠ 0) (ha : -1000 ≤ a ∧ a ≤ 1000) (hb : -1000 ≤ b ∧ b ≤ 1000) : cnt a b s ≤ 2000 := by
  rcases Nat.lt_or_ge 2000 (cnt a b s) with h | h
  · exfalso
    rcases Int.lt_or_gt_of_ne hs with hs | hs
    · have := (cnt_dn (b := b) (a := a) hs 2000).2 h; simp only [Int.cast_ofNat_Int] at this; omega
    · have := (cnt_up (b := b) (a := a) hs 2000).2 h; simp only [Int.cast_ofNat_Int] at this; omega
  · exact h
/-- A count is known by what comes before the end. -/
theorem cnt_eq {a b s : Int} {n : Nat} (hs : s ≠ 0) (h : ∀ k : Nat, k < n ↔ if 0 < s then a + k * s < b else b < a + k * s) : cnt a b s = n := by
  have h2 : ∀ k : Nat, k < cnt a b s ↔ k < n := fun k => by
    rw [h k]
    split
    · rename_i hp; exact (cnt_up hp k).symm
    · exact (cnt_dn (by omega) k).symm
  have a1 := h2 (cnt a b s)
  have a2 := h2 n
  omega
/-- The bounds of a number within a row. -/
theorem at_bd {a b s : Int} (hs : -200 ≤ s ∧ s ≤ 200) (h0 : s ≠ 0) (ha : -1000 ≤ a ∧ a ≤ 1000) (hb : -1000 ≤ b ∧ b ≤ 1000) {k : Nat} (hk : k ≤ cnt a b s) : -1500 ≤ a + k * s ∧ a + k * s ≤ 1500 := by
  cases k with
  | zero => simp; omega
  | succ k =>
    have e : a + ((k + 1 : Nat) : Int) * s = a + k * s + s := by
      rw [show ((k + 1 : Nat) : Int) = (k : Int) + 1 from by omega, Int.add_mul, Int.one_mul]; omega
    have hkm : 0 ≤ (k : Int) := by omega
    rcases Int.lt_or_gt_of_ne h0 with h | h
    · have h1 := (cnt_dn (a := a) (b := b) h k).2 (by omega)
      have h2 : (k : Int) * s ≤ 0 := Int.mul_nonpos_of_nonneg_of_nonpos hkm (by omega)
      rw [e]; omega
    · have h1 := (cnt_up (a := a) (b := b) h k).2 (by omega)
      have h2 : 0 ≤ (k : Int) * s := Int.mul_nonneg hkm (by omega)
      rw [e]; omega

/-- A range, as data. -/
structure RL where
  a : Int
  b : Int
  s : Int
def RL.val (r : RL) : Value := .agg #[.int .i64 r.a, .int .i64 r.b, .int .i64 r.s]
def RL.zero : RL := ⟨0, 0, 0⟩
def numsR (r : RL) : List Int := numsL r.a r.b r.s
def lastD (xs : List Int) : Int := xs.getD (xs.length - 1) 0
def normL (xs : List Int) : RL :=
  if xs.length = 0 then ⟨0, 0, 1⟩ else if xs.length = 1 then ⟨xs.getD 0 0, xs.getD 0 0 + 1, 1⟩
  else if xs.getD 1 0 - xs.getD 0 0 < 0 then ⟨xs.getD 0 0, lastD xs - 1, xs.getD 1 0 - xs.getD 0 0⟩ else ⟨xs.getD 0 0, lastD xs + 1, xs.getD 1 0 - xs.getD 0 0⟩
theorem nums_getD {a b s : Int} {k : Nat} (h : k < cnt a b s) : (numsL a b s).getD k 0 = a + k * s := by
  have h' : k < (numsL a b s).length := by rw [numsL_length]; exact h
  simp [h', numsL_get]
theorem nums_ext {a b c s t : Int} (hc : cnt a b s = cnt c t s) (h : 0 < cnt a b s → a = c) : numsL a b s = numsL c t s := by
  rcases Nat.eq_zero_or_pos (cnt a b s) with h0 | h0
  · rw [numsL, numsL, ← hc, h0]; rfl
  · rw [numsL, numsL, ← hc, h h0]
/-- The normal form has the same numbers. -/
theorem nums_norm {a b s : Int} (hs : s ≠ 0) : numsR (normL (numsL a b s)) = numsL a b s := by
  have hl := numsL_length a b s
  unfold normL numsR
  rw [hl]
  split
  · rename_i h
    have : numsL a b s = [] := by rw [numsL, h]; rfl
    rw [this]
    rfl
  · split
    · rename_i h0 h1
      rw [nums_getD (by omega)]
      have e : cnt (a + ((0 : Nat) : Int) * s) (a + ((0 : Nat) : Int) * s + 1) 1 = 1 := cnt_eq (by omega) fun k => by simp; omega
      simp only [numsL, e, h1]
      simp
    · rename_i h0 h1
      have e1 : (numsL a b s).getD 1 0 - (numsL a b s).getD 0 0 = s := by
        rw [nums_getD (by omega), nums_getD (by omega)]; simp; omega
      have e0 : (numsL a b s).getD 0 0 = a := by rw [nums_getD (by omega)]; simp
      have el : lastD (numsL a b s) = a + ((cnt a b s - 1 : Nat) : Int) * s := by
        unfold lastD; rw [hl, nums_getD (by omega)]
      rw [e1, e0, el]
      split
      · rename_i hn
        show numsL a (a + ((cnt a b s - 1 : Nat) : Int) * s - 1) s = numsL a b s
        refine nums_ext (cnt_eq (by omega) fun k => ?_) fun _ => rfl
        rw [if_neg (by omega)]
        constructor
        · intro hk
          have := Int.mul_le_mul_of_nonpos_right (show (k : Int) ≤ ((cnt a b s - 1 : Nat) : Int) by omega) (show s ≤ 0 by omega)
          omega
        · intro hk
          rcases Nat.lt_or_ge k (cnt a b s) with h | h
          · exact h
          · have := Int.mul_le_mul_of_nonpos_right (show ((cnt a b s - 1 : Nat) : Int) + 1 ≤ (k : Int) by omega) (show s ≤ 0 by omega)
            rw [Int.add_mul, Int.one_mul] at this
            omega
      · rename_i hn
        show numsL a (a + ((cnt a b s - 1 : Nat) : Int) * s + 1) s = numsL a b s
        refine nums_ext (cnt_eq (by omega) fun k => ?_) fun _ => rfl
        rw [if_pos (by omega)]
        constructor
        · intro hk
          have := Int.mul_le_mul_of_nonneg_right (show (k : Int) ≤ ((cnt a b s - 1 : Nat) : Int) by omega) (show 0 ≤ s by omega)
          omega
        · intro hk
          rcases Nat.lt_or_ge k (cnt a b s) with h | h
          · exact h
          · have := Int.mul_le_mul_of_nonneg_right (show ((cnt a b s - 1 : Nat) : Int) + 1 ≤ (k : Int) by omega) (show 0 ≤ s by omega)
            rw [Int.add_mul, Int.one_mul] at this
            omega

/-- A slice is valid. -/
def okSl (s : SL) : Bool := inR s.from_ (-100) 100 && inR s.to_ (-100) 100 && inR s.by_ (-200) 200 && !(s.by_ == 0) && (s.hasFrom || s.from_ == 0) && (s.hasTo || s.to_ == 0)
/-- An end that is given. -/
def endL (n e by_ : Int) : Int := if by_ < 0 then min (max (if e < 0 then e + n else e) (-1)) (n - 1) else min (max (if e < 0 then e + n else e) 0) n
def fromL (n : Int) (s : SL) : Int := if s.hasFrom then endL n s.from_ s.by_ else if s.by_ < 0 then n - 1 else 0
def toL (n : Int) (s : SL) : Int := if s.hasTo then endL n s.to_ s.by_ else if s.by_ < 0 then -1 else n
def idxL (n : Int) (s : SL) : List Int := numsL (fromL n s) (toL n s) s.by_
theorem okSl_and {s : SL} (h : okSl s = true) : (-100 ≤ s.from_ ∧ s.from_ ≤ 100) ∧ (-100 ≤ s.to_ ∧ s.to_ ≤ 100) ∧ (-200 ≤ s.by_ ∧ s.by_ ≤ 200) ∧ s.by_ ≠ 0 := by
  simp only [okSl, Bool.and_eq_true, inR_iff, Bool.not_eq_true', beq_eq_false_iff_ne] at h
  exact ⟨h.1.1.1.1.1, h.1.1.1.1.2, h.1.1.1.2, h.1.1.2⟩
theorem ends_bd {n : Int} (hn : 0 ≤ n) (s : SL) : (if s.by_ < 0 then -1 ≤ fromL n s ∧ fromL n s ≤ n - 1 else 0 ≤ fromL n s ∧ fromL n s ≤ n) ∧ (if s.by_ < 0 then -1 ≤ toL n s ∧ toL n s ≤ n - 1 else 0 ≤ toL n s ∧ toL n s ≤ n) := by
  unfold fromL toL endL
  constructor <;> split <;> split <;> (try split) <;> omega
theorem idx_in {n : Int} (hn : 0 ≤ n ∧ n ≤ 60) {s : SL} (hs : s.by_ ≠ 0) : ∀ x ∈ idxL n s, 0 ≤ x ∧ x < n := by
  intro x hx
  have hb := ends_bd hn.1 s
  simp only [idxL, numsL, List.mem_map, List.mem_range] at hx
  obtain ⟨k, hk, rfl⟩ := hx
  rcases Int.lt_or_gt_of_ne hs with h | h
  · have h1 := (cnt_dn (a := fromL n s) (b := toL n s) h k).2 hk
    have h2 : (k : Int) * s.by_ ≤ 0 := Int.mul_nonpos_of_nonneg_of_nonpos (by omega) (by omega)
    simp only [h, if_true] at hb
    omega
  · have h1 := (cnt_up (a := fromL n s) (b := toL n s) h k).2 hk
    have h2 : 0 ≤ (k : Int) * s.by_ := Int.mul_nonneg (by omega) (by omega)
    simp only [show ¬ s.by_ < 0 by omega, if_false] at hb
    omega
theorem idx_len {n : Int} (hn : 0 ≤ n ∧ n ≤ 60) {s : SL} (hs : s.by_ ≠ 0) : ((idxL n s).length : Int) ≤ n := by
  rcases Nat.eq_zero_or_pos (idxL n s).length with h0 | h0
  · omega
  · have hm := idx_in hn hs _ (List.getElem_mem (show (idxL n s).length - 1 < (idxL n s).length by omega))
    have h1 := idx_in hn hs _ (List.getElem_mem h0)
    unfold idxL at hm h1 h0 ⊢
    rw [numsL_get] at hm h1
    have hl := numsL_length (fromL n s) (toL n s) s.by_
    obtain ⟨m, hm'⟩ : ∃ m : Nat, m + 1 = (numsL (fromL n s) (toL n s) s.by_).length := ⟨_, Nat.succ_pred_eq_of_pos h0⟩
    rw [← hm'] at hm ⊢
    simp only [Nat.add_sub_cancel] at hm
    simp only [Int.natCast_zero, Int.zero_mul, Int.add_zero] at h1
    rcases Int.lt_or_gt_of_ne hs with h | h
    · have := Int.mul_le_mul_of_nonneg_left (show s.by_ ≤ -1 by omega) (show 0 ≤ (m : Int) by omega); omega
    · have := Int.mul_le_mul_of_nonneg_left (show 1 ≤ s.by_ by omega) (show 0 ≤ (m : Int) by omega); omega

end Go.Proofs.Ytldblcolnjkcaaa
