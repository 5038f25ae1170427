/- New views, plain: they are dense. Conditions: none. -/
import Derived.Test.YtldblcolnjkcaaaRKp
import Derived.Test.YtldblcolnjkcaaaG3
namespace Go.Proofs.Ytldblcolnjkcaaa
open Go.RowKit

def newL (s : List Int) : VL := if isShapeL s then tidyL ⟨0, s, rowS s⟩ else VL.zero
theorem dot_unr : ∀ {s : List Int}, (∀ x ∈ s, 1 ≤ x) → ∀ k, 0 ≤ k → k < prodI s → dotI (unr s k) (rowS s) = k
  | [], _, k, h0, h1 => by simp [prodI] at h1; simp [unr, dotI]; omega
  | e :: s, h, k, h0, h1 => by
    have hs : ∀ x ∈ s, 1 ≤ x := fun x hx => h x (List.mem_cons_of_mem _ hx)
    have hp := prodI_gt hs
    have hm0 := Int.emod_nonneg k (show prodI s ≠ 0 by omega)
    have hm1 := Int.emod_lt_of_pos k hp
    have hdm := Int.mul_ediv_add_emod k (prodI s)
    have hd0 : 0 ≤ k / prodI s := Int.ediv_nonneg h0 (by omega)
    have hd1 : k / prodI s < e := Int.ediv_lt_of_lt_mul hp h1
    have ih := dot_unr hs (k % prodI s) hm0 hm1
    have hu : unr s k = unr s (k % prodI s) := by
      have := unr_add hs (k / prodI s) (k % prodI s)
      rw [Int.mul_comm, hdm] at this
      exact this
    rw [unr_cons, rowS_cons]
    simp only [dotI]
    rw [hu, ih, Int.emod_eq_of_lt hd0 hd1, Int.mul_comm]
    exact hdm
theorem lo_pos : ∀ (es ss : List Int), (∀ x ∈ es, 1 ≤ x) → (∀ x ∈ ss, 0 ≤ x) → loS es ss = 0
  | [], _, _, _ => rfl
  | _ :: _, [], _, _ => rfl
  | e :: es, x :: ss, h1, h2 => by
    have he := h1 e List.mem_cons_self
    have hx := h2 x List.mem_cons_self
    have := lo_pos es ss (fun y hy => h1 y (List.mem_cons_of_mem _ hy)) (fun y hy => h2 y (List.mem_cons_of_mem _ hy))
    have hm := Int.mul_nonneg (show 0 ≤ e - 1 by omega) hx
    simp only [loS, this]; omega
theorem hi_row : ∀ {s : List Int}, (∀ x ∈ s, 1 ≤ x) → hiS s (rowS s) = prodI s - 1
  | [], _ => by simp [hiS, prodI]
  | e :: s, h => by
    have hs : ∀ x ∈ s, 1 ≤ x := fun x hx => h x (List.mem_cons_of_mem _ hx)
    have he := h e List.mem_cons_self
    have hp := prodI_gt hs
    have ih := hi_row hs
    have hm := Int.mul_nonneg (show 0 ≤ e - 1 by omega) (show 0 ≤ prodI s by omega)
    rw [rowS_cons]
    simp only [hiS, prodI, ih]
    rw [Int.sub_mul, Int.one_mul] at hm ⊢
    omega
theorem rowS_bd : ∀ {s : List Int}, (∀ x ∈ s, 1 ≤ x) → ∀ x ∈ rowS s, 1 ≤ x ∧ x ≤ prodI s
  | [], _, x, hx => by simp [rowS] at hx
  | e :: s, h, x, hx => by
    have hs : ∀ x ∈ s, 1 ≤ x := fun x hx => h x (List.mem_cons_of_mem _ hx)
    have he := h e List.mem_cons_self
    have hp := prodI_gt hs
    have hle : prodI s ≤ e * prodI s := by
      have := Int.mul_le_mul_of_nonneg_right he (show 0 ≤ prodI s by omega)
      omega
    rw [rowS_cons] at hx
    simp only [prodI]
    rcases List.mem_cons.1 hx with rfl | hx
    · omega
    · have := rowS_bd hs x hx
      omega
theorem newL_valid {s : List Int} (h : isShapeL s = true) : isViewL (newL s) = true := by
  obtain ⟨h1, h2, -⟩ := shape_ext h
  have hp := shape_prod h
  unfold newL
  rw [if_pos h]
  refine tidy_valid h (rowS_length s) fun hz => ?_
  simp only at hz ⊢
  have hpos := prodI_pos (fun x hx => (h2 x hx).1) (show 0 < prodI s by omega)
  refine ⟨by simp, fun x hx => ?_, ?_, ?_⟩
  · have := rowS_bd hpos x hx; omega
  · rw [lo_pos _ _ hpos (fun x hx => by have := rowS_bd hpos x hx; omega)]; omega
  · rw [hi_row hpos]; omega
theorem newL_shape {s : List Int} (h : isShapeL s = true) : (newL s).shape = s := by
  unfold newL tidyL
  rw [if_pos h]
  split <;> rfl
theorem newL_pos {s : List Int} (h : isShapeL s = true) (hz : prodI s ≠ 0) : newL s = ⟨0, s, rowS s⟩ := by
  unfold newL tidyL
  rw [if_pos h, if_neg (by rw [(shape_prod h).1]; exact hz)]
/-- The numbers from 0 on. -/
def upI (n : Nat) : List Int := (List.range n).map fun (i : Nat) => (i : Int)
theorem upI_length (n : Nat) : (upI n).length = n := by simp [upI]
theorem upI_succ (n : Nat) : upI (n + 1) = upI n ++ [(n : Int)] := by simp [upI, List.range_succ]
theorem newL_offs {s : List Int} (h : isShapeL s = true) : offs (newL s) = upI (prodI s).toNat := by
  obtain ⟨h1, h2, -⟩ := shape_ext h
  have hp := shape_prod h
  unfold offs upI
  rw [newL_shape h, hp.1]
  refine List.map_congr_left fun k hk => ?_
  rw [List.mem_range] at hk
  have hz : prodI s ≠ 0 := by omega
  have hpos := prodI_pos (fun x hx => (h2 x hx).1) (show 0 < prodI s by omega)
  rw [newL_pos h hz]
  have hbx := unr_box hpos (k : Int)
  rw [offW_dot (by simp) (box_le hbx fun x hx => (h2 x hx).2) (fun x hx => by have := rowS_bd hpos x hx; omega) (by rw [box_length hbx]; omega), dot_unr hpos k (by omega) (by omega)]
  simp
theorem newL_row {s : List Int} (h : isShapeL s = true) : isRowL (newL s) = true := by
  have hv := newL_valid h
  have hp := shape_prod h
  unfold isRowL
  rw [hv, Bool.true_and]
  refine eqL_yes ?_
  by_cases hz : prodI s = 0
  · have h0 : prodW (newL s).shape = 0 := by rw [newL_shape h, hp.1, hz]
    simp [offs, h0]
  · rw [newL_pos h hz]

end Go.Proofs.Ytldblcolnjkcaaa
