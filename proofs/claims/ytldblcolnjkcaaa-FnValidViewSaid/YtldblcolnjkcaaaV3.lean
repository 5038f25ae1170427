/- The plain law of reshaping: ranks of unit indices, strides out of cells. No conditions. -/
import Derived.Test.YtldblcolnjkcaaaT0
import Derived.Test.YtldblcolnjkcaaaC3
namespace Go.Proofs.Ytldblcolnjkcaaa
open Go.RowKit

def zerosL (n : Nat) : List Int := List.replicate n 0
theorem zerosL_length (n : Nat) : (zerosL n).length = n := by simp [zerosL]
/-- The rank of an index, with Go's wrap. -/
def rankW (shape index : List Int) : Int := (shape.zip index).foldl (fun n p => wrap64 (wrap64 (n * p.1) + p.2)) 0
theorem rankW_snoc (shape index : List Int) (k : Nat) (h1 : k < shape.length) (h2 : k < index.length) :
    rankW (shape.take (k + 1)) index = wrap64 (wrap64 (rankW (shape.take k) index * shape[k]) + index[k]) := by
  unfold rankW
  have e : (shape.take (k + 1)).zip index = (shape.take k).zip index ++ [(shape[k], index[k])] := by
    apply List.ext_getElem
    · simp; omega
    · intro i hi1 hi2
      simp only [List.length_zip, List.length_take] at hi1
      by_cases hik : i < k
      · rw [List.getElem_append_left (by simp; omega)]
        simp
      · obtain rfl : i = k := by omega
        rw [List.getElem_append_right (by simp; omega)]
        simp
  rw [e, List.foldl_append]
  rfl
def rankF (a : Int) : List Int → List Int → Int
  | e :: s, x :: i => rankF (a * e + x) s i
  | _, _ => a
theorem foldl_rank (s i : List Int) (a : Int) (hs : ∀ e ∈ s, 0 ≤ e ∧ e ≤ 60) (hi : ∀ x ∈ i, 0 ≤ x ∧ x ≤ 60) (ha : 0 ≤ a) (hb : (a + 1) * 61 ^ s.length ≤ 20000000) :
    (s.zip i).foldl (fun n p => wrap64 (wrap64 (n * p.1) + p.2)) a = rankF a s i := by
  induction s generalizing i a with
  | nil => cases i <;> simp [rankF]
  | cons e s ih =>
    cases i with
    | nil => simp [rankF]
    | cons x i =>
      have he := hs e List.mem_cons_self
      have hx := hi x List.mem_cons_self
      have hp : (0:Int) < 61 ^ s.length := Int.pow_pos (by omega)
      have h0 : 0 ≤ a * e := Int.mul_nonneg ha he.1
      have h1 : a * e ≤ a * 60 := Int.mul_le_mul_of_nonneg_left he.2 ha
      have h2 : (a + 1) * 61 * 61 ^ s.length ≤ 20000000 := by
        rw [List.length_cons, Int.pow_succ, Int.mul_comm (61 ^ s.length), ← Int.mul_assoc] at hb; exact hb
      have h3 : (a * e + x + 1) * 61 ^ s.length ≤ (a + 1) * 61 * 61 ^ s.length := Int.mul_le_mul_of_nonneg_right (by omega) (by omega)
      have h4 : (a + 1) * 61 ≤ (a + 1) * 61 * 61 ^ s.length := by
        have := Int.mul_le_mul_of_nonneg_left (show (1:Int) ≤ 61 ^ s.length by omega) (show 0 ≤ (a + 1) * 61 by omega)
        omega
      have w1 : wrap64 (a * e) = a * e := wrap_small (by omega) (by omega)
      have w2 : wrap64 (a * e + x) = a * e + x := wrap_small (by omega) (by omega)
      rw [List.zip_cons_cons, List.foldl_cons]
      simp only [w1, w2, rankF]
      exact ih i _ (fun y hy => hs y (List.mem_cons_of_mem _ hy)) (fun y hy => hi y (List.mem_cons_of_mem _ hy)) (by omega) (by omega)
theorem rankW_eq {s i : List Int} (hl : s.length ≤ 4) (hs : ∀ e ∈ s, 0 ≤ e ∧ e ≤ 60) (hi : ∀ x ∈ i, 0 ≤ x ∧ x ≤ 60) : rankW s i = rankF 0 s i := by
  refine foldl_rank s i 0 hs hi (by omega) ?_
  match hn : s.length, hl with
  | 0, _ => decide
  | 1, _ => decide
  | 2, _ => decide
  | 3, _ => decide
  | 4, _ => decide
theorem rankF_zeros (s : List Int) (a : Int) : rankF a s (zerosL s.length) = a * prodI s := by
  induction s generalizing a with
  | nil => simp [rankF, prodI]
  | cons e s ih =>
    rw [List.length_cons, zerosL, List.replicate_succ]
    show rankF (a * e + 0) s (zerosL s.length) = _
    rw [ih, prodI, Int.add_zero, Int.mul_assoc]
def unitL (n d : Nat) : List Int := (zerosL n).set d 1
theorem rankF_unit (s : List Int) (d : Nat) (h : d < s.length) : rankF 0 s (unitL s.length d) = prodI (s.drop (d + 1)) := by
  induction s generalizing d with
  | nil => simp at h
  | cons e s ih =>
    cases d with
    | zero =>
      show rankF (0 * e + 1) s (zerosL s.length) = _
      rw [rankF_zeros]; simp
    | succ d =>
      have : unitL (e :: s).length (d + 1) = 0 :: unitL s.length d := by simp [unitL, zerosL, List.replicate_succ]
      rw [this]
      show rankF (0 * e + 0) s (unitL s.length d) = _
      rw [show (0 * e + 0 : Int) = 0 by omega, ih d (by simpa using h)]
      simp
theorem unitL_length (n d : Nat) : (unitL n d).length = n := by simp [unitL, zerosL]
theorem unitL_in (n d : Nat) : ∀ x ∈ unitL n d, 0 ≤ x ∧ x ≤ 60 := by
  intro x hx
  have := List.mem_or_eq_of_mem_set hx
  rcases this with h | h
  · simp [zerosL] at h; omega
  · omega
theorem rank_unit {s : List Int} (hs : isShapeL s = true) (d : Nat) (h : d < s.length) : rankW s (unitL s.length d) = prodI (s.drop (d + 1)) := by
  obtain ⟨h1, h2, h3⟩ := shape_ext hs
  rw [rankW_eq h1 h2 (unitL_in _ _), rankF_unit s d h]

theorem prodI_append (xs ys : List Int) : prodI (xs ++ ys) = prodI xs * prodI ys := by
  induction xs with
  | nil => simp [prodI]
  | cons x xs ih => simp only [List.cons_append, prodI, ih, Int.mul_assoc]
theorem prodI_nonneg {xs : List Int} (h : ∀ x ∈ xs, 0 ≤ x) : 0 ≤ prodI xs := by
  induction xs with
  | nil => simp [prodI]
  | cons x xs ih => exact Int.mul_nonneg (h x List.mem_cons_self) (ih fun y hy => h y (List.mem_cons_of_mem _ hy))
theorem prodI_split {s : List Int} {d : Nat} (h : d < s.length) : prodI s = prodI (s.take d) * (s[d] * prodI (s.drop (d + 1))) := by
  have e : s = s.take d ++ s[d] :: s.drop (d + 1) := by
    rw [← List.drop_eq_getElem_cons h, List.take_append_drop]
  calc prodI s = prodI (s.take d ++ s[d] :: s.drop (d + 1)) := by rw [← e]
    _ = _ := by rw [prodI_append, prodI]
/-- What stands behind a dimension of more than one number is less than the whole. -/
theorem behind_lt {s : List Int} (hs : isShapeL s = true) (hp : 0 < prodI s) {d : Nat} (h : d < s.length) (h1 : 1 < s[d]) : 0 < prodI (s.drop (d + 1)) ∧ prodI (s.drop (d + 1)) < prodI s := by
  obtain ⟨h2, h3, h4⟩ := shape_ext hs
  have hall := prodI_pos (fun x hx => (h3 x hx).1) hp
  have a0 : 0 ≤ prodI (s.take d) := prodI_nonneg (fun x hx => (h3 x (List.mem_of_mem_take hx)).1)
  have b0 : 0 ≤ prodI (s.drop (d + 1)) := prodI_nonneg (fun x hx => (h3 x (List.mem_of_mem_drop hx)).1)
  have e := prodI_split h
  have a1 : 0 < prodI (s.take d) := by
    rcases Int.lt_or_eq_of_le a0 with h5 | h5
    · exact h5
    · rw [← h5] at e; simp at e; omega
  have b1 : 0 < prodI (s.drop (d + 1)) := by
    rcases Int.lt_or_eq_of_le b0 with h5 | h5
    · exact h5
    · rw [← h5] at e; simp at e; omega
  refine ⟨b1, ?_⟩
  have m1 : 2 * prodI (s.drop (d + 1)) ≤ s[d] * prodI (s.drop (d + 1)) := Int.mul_le_mul_of_nonneg_right (by omega) b0
  have m2 : 1 * (s[d] * prodI (s.drop (d + 1))) ≤ prodI (s.take d) * (s[d] * prodI (s.drop (d + 1))) := Int.mul_le_mul_of_nonneg_right (by omega) (by omega)
  omega

/-- The strides of a shape over a list of cells. -/
def reAt (shape cells : List Int) (d : Nat) : Int := if 1 < shape.getD d 0 then cells.getD (prodI (shape.drop (d + 1))).toNat 0 - hd0 cells else 0
def reS (shape cells : List Int) : List Int := (List.range shape.length).map (reAt shape cells)
theorem reS_length (s c : List Int) : (reS s c).length = s.length := by simp [reS]
theorem reS_get (s c : List Int) (k : Nat) (h : k < s.length) : (reS s c)[k]'(by rw [reS_length]; exact h) = reAt s c k := by simp [reS]
/-- What the loops keep: the strides that are laid, and zeros. -/
def ReRel (s c : List Int) (k : Nat) (ys : List Int) : Prop := ys = (reS s c).take k ++ zerosL (s.length - k)
theorem ReRel.start (s c : List Int) : ReRel s c 0 (zerosL s.length) := by simp [ReRel]
theorem ReRel.len {s c ys : List Int} {k : Nat} (h : ReRel s c k ys) (hk : k ≤ s.length) : ys.length = s.length := by
  rw [h]; simp [reS_length, zerosL_length]; omega
theorem ReRel.end_ {s c ys : List Int} (h : ReRel s c s.length ys) : ys = reS s c := by
  rw [h, List.take_of_length_le (by rw [reS_length]; exact Nat.le_refl _)]; simp [zerosL]
theorem ReRel.step {s c ys : List Int} {k : Nat} (h : ReRel s c k ys) (hk : k < s.length) : ReRel s c (k + 1) (ys.set k (reAt s c k)) := by
  unfold ReRel at *
  have hl : ((reS s c).take k).length = k := by rw [List.length_take, reS_length]; omega
  rw [h, take_snocI (reS s c) k (by rw [reS_length]; exact hk), reS_get s c k hk]
  rw [show s.length - k = (s.length - (k + 1)) + 1 by omega, zerosL, List.replicate_succ, List.set_append, hl]
  simp [zerosL]
theorem ReRel.skip {s c ys : List Int} {k : Nat} (h : ReRel s c k ys) (hk : k < s.length) (h1 : ¬ 1 < s[k]) : ReRel s c (k + 1) ys := by
  have h2 := h.step hk
  have e : reAt s c k = 0 := by simp [reAt, hk, h1]
  have e2 : ys.set k 0 = ys := by
    have hl : ((reS s c).take k).length = k := by rw [List.length_take, reS_length]; omega
    unfold ReRel at h
    rw [h, show s.length - k = (s.length - (k + 1)) + 1 by omega, zerosL, List.replicate_succ, List.set_append, hl]
    simp
  rwa [e, e2] at h2

def reV (V : VL) (shape : List Int) : VL := if prodW shape = 0 then ⟨0, shape, zerosL shape.length⟩ else ⟨V.base, shape, reS shape (offs V)⟩
/-- Is a reshaping that is tried good? (Both of V and the shape are valid.) -/
def okTryL (V : VL) (shape : List Int) : Bool := (prodW shape == prodW V.shape) && (prodW shape == 0 || eqL (offs (reV V shape)) (offs V))
theorem okTry_eq {V : VL} {shape : List Int} (hc : prodW shape = prodW V.shape) (h0 : ¬ prodW shape = 0) : okTryL V shape = eqL (offs ⟨V.base, shape, reS shape (offs V)⟩) (offs V) := by
  unfold okTryL
  rw [show (prodW shape == prodW V.shape) = true by simpa using hc, show (prodW shape == 0) = false by simpa using h0]
  simp [reV, h0]
theorem reV_eq {V : VL} {shape : List Int} (h0 : ¬ prodW shape = 0) : reV V shape = ⟨V.base, shape, reS shape (offs V)⟩ := by simp [reV, h0]
def okReL (V : VL) (shape : List Int) : Bool := okTryL V shape && isViewL (reV V shape)
def okResh (V : VL) (shape : List Int) : Bool := isViewL V && isShapeL shape && okReL V shape
def reshL (V : VL) (shape : List Int) : VL := if okResh V shape then reV V shape else VL.zero
theorem reV_empty_ok {V : VL} {shape : List Int} (hs : isShapeL shape = true) (h : prodW shape = 0) : isViewL (reV V shape) = true := by
  have e : reV V shape = ⟨0, shape, zerosL shape.length⟩ := by simp [reV, h]
  rw [e]
  simp only [isViewL, offs, h, Bool.and_eq_true, decide_eq_true_eq, List.all_eq_true]
  refine ⟨⟨⟨⟨hs, by simp [zerosL]⟩, rfl⟩, ?_⟩, by simp⟩
  intro x hx
  simp [zerosL] at hx
  simp [hx.2, inR]

theorem offs_length {V : VL} : (offs V).length = (prodW V.shape).toNat := by simp [offs]
theorem re_facts {V : VL} {shape : List Int} (hV : isViewL V = true) (hS : isShapeL shape = true) (hc : prodW shape = prodW V.shape) (h0 : ¬ prodW shape = 0) (k : Nat) (hk : k < shape.length) (h1 : 1 < shape[k]) :
    ∃ m : Nat, rankW shape (unitL shape.length k) = m ∧ prodW (shape.drop (k + 1)) = m ∧ ∃ (hm : m < (offs V).length) (hz : 0 < (offs V).length), reAt shape (offs V) k = (offs V)[m] - (offs V)[0] ∧
      0 ≤ (offs V)[m] ∧ (offs V)[m] ≤ 59 ∧ 0 ≤ (offs V)[0] ∧ (offs V)[0] ≤ 59 := by
  have p := shape_prod hS
  have hp : 0 < prodI shape := by omega
  obtain ⟨b0, b1⟩ := behind_lt hS hp hk h1
  have hlen : (offs V).length = (prodI shape).toNat := by rw [offs_length, ← hc, p.1]
  have hall := (isViewL_and hV).2.2.2.2
  simp only [List.all_eq_true, inR, Bool.and_eq_true, decide_eq_true_eq] at hall
  have hm : (prodI (shape.drop (k + 1))).toNat < (offs V).length := by omega
  have hz : 0 < (offs V).length := by omega
  have hsd : prodW (shape.drop (k + 1)) = prodI (shape.drop (k + 1)) := (prodW_eq (by have := (shape_ext hS).1; simp; omega) (fun x hx => (shape_ext hS).2.1 x (List.mem_of_mem_drop hx))).1
  refine ⟨(prodI (shape.drop (k + 1))).toNat, by rw [rank_unit hS k hk]; omega, by rw [hsd]; omega, hm, hz, ?_, (hall _ (List.getElem_mem hm)).1, (hall _ (List.getElem_mem hm)).2, (hall _ (List.getElem_mem hz)).1, (hall _ (List.getElem_mem hz)).2⟩
  simp only [reAt, List.getD_eq_getElem?_getD, List.getElem?_eq_getElem hk, Option.getD_some, h1, if_true, List.getElem?_eq_getElem hm]
  rw [hd0_get _ hz]

end Go.Proofs.Ytldblcolnjkcaaa
