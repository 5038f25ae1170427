/- Views by bounds: plain. No conditions. -/
import Derived.Test.YtldblcolnjkcaaaC3
namespace Go.Proofs.Ytldblcolnjkcaaa
open Go.RowKit

/-- Numbers times numbers, added up. -/
def dotI : List Int → List Int → Int
  | x :: xs, y :: ys => x * y + dotI xs ys
  | _, _ => 0
/-- The least and the greatest of such a sum over all indices of a shape. -/
def loS : List Int → List Int → Int
  | e :: es, s :: ss => min 0 ((e - 1) * s) + loS es ss
  | _, _ => 0
def hiS : List Int → List Int → Int
  | e :: es, s :: ss => max 0 ((e - 1) * s) + hiS es ss
  | _, _ => 0
def loX : List Int → List Int → List Int
  | e :: es, s :: ss => (if s < 0 then e - 1 else 0) :: loX es ss
  | e, _ => e.map fun _ => 0
def hiX : List Int → List Int → List Int
  | e :: es, s :: ss => (if s < 0 then 0 else e - 1) :: hiX es ss
  | e, _ => e.map fun _ => 0
def InBox : List Int → List Int → Prop
  | [], [] => True
  | i :: is, e :: es => 0 ≤ i ∧ i < e ∧ InBox is es
  | _, _ => False

theorem one_bound {i e s : Int} (h0 : 0 ≤ i) (h1 : i < e) : min 0 ((e - 1) * s) ≤ i * s ∧ i * s ≤ max 0 ((e - 1) * s) := by
  rcases Int.lt_or_le s 0 with hs | hs
  · have a := Int.mul_le_mul_of_nonpos_right (show i ≤ e - 1 by omega) (show s ≤ 0 by omega)
    have b := Int.mul_nonpos_of_nonneg_of_nonpos h0 (show s ≤ 0 by omega)
    omega
  · have a := Int.mul_le_mul_of_nonneg_right (show i ≤ e - 1 by omega) hs
    have b := Int.mul_nonneg h0 hs
    omega
theorem dot_bound : ∀ {idx shape strides : List Int}, InBox idx shape → loS shape strides ≤ dotI idx strides ∧ dotI idx strides ≤ hiS shape strides
  | [], [], strides, _ => by simp [dotI, loS, hiS]
  | [], _ :: _, _, h => h.elim
  | _ :: _, [], _, h => h.elim
  | i :: is, e :: es, [], _ => by simp [dotI, loS, hiS]
  | i :: is, e :: es, s :: ss, h => by
    have := one_bound (s := s) h.1 h.2.1
    have := dot_bound (strides := ss) h.2.2
    simp only [dotI, loS, hiS]
    omega
theorem zero_box : ∀ {shape : List Int}, (∀ x ∈ shape, 1 ≤ x) → InBox (shape.map fun _ => 0) shape
  | [], _ => trivial
  | e :: _, h => ⟨Int.le_refl _, h e List.mem_cons_self, zero_box fun x hx => h x (List.mem_cons_of_mem _ hx)⟩
theorem loX_box : ∀ {shape strides : List Int}, (∀ x ∈ shape, 1 ≤ x) → InBox (loX shape strides) shape
  | [], _, _ => trivial
  | _ :: _, [], h => zero_box h
  | e :: es, s :: ss, h => by
    have := h e List.mem_cons_self
    refine ⟨?_, ?_, loX_box fun x hx => h x (List.mem_cons_of_mem _ hx)⟩ <;> split <;> omega
theorem hiX_box : ∀ {shape strides : List Int}, (∀ x ∈ shape, 1 ≤ x) → InBox (hiX shape strides) shape
  | [], _, _ => trivial
  | _ :: _, [], h => zero_box h
  | e :: es, s :: ss, h => by
    have := h e List.mem_cons_self
    refine ⟨?_, ?_, hiX_box fun x hx => h x (List.mem_cons_of_mem _ hx)⟩ <;> split <;> omega
theorem dot_loX : ∀ {shape strides : List Int}, (∀ x ∈ shape, 1 ≤ x) → dotI (loX shape strides) strides = loS shape strides
  | [], s, _ => by cases s <;> rfl
  | e :: es, [], _ => by simp [dotI, loX, loS]
  | e :: es, s :: ss, h => by
    have he := h e List.mem_cons_self
    have ih := dot_loX (strides := ss) fun x hx => h x (List.mem_cons_of_mem _ hx)
    simp only [dotI, loX, loS, ih]
    split
    · have := Int.mul_nonpos_of_nonneg_of_nonpos (show 0 ≤ e - 1 by omega) (show s ≤ 0 by omega); omega
    · have := Int.mul_nonneg (show 0 ≤ e - 1 by omega) (show 0 ≤ s by omega); omega
theorem dot_hiX : ∀ {shape strides : List Int}, (∀ x ∈ shape, 1 ≤ x) → dotI (hiX shape strides) strides = hiS shape strides
  | [], s, _ => by cases s <;> rfl
  | e :: es, [], _ => by simp [dotI, hiX, hiS]
  | e :: es, s :: ss, h => by
    have he := h e List.mem_cons_self
    have ih := dot_hiX (strides := ss) fun x hx => h x (List.mem_cons_of_mem _ hx)
    simp only [dotI, hiX, hiS, ih]
    split
    · have := Int.mul_nonpos_of_nonneg_of_nonpos (show 0 ≤ e - 1 by omega) (show s ≤ 0 by omega); omega
    · have := Int.mul_nonneg (show 0 ≤ e - 1 by omega) (show 0 ≤ s by omega); omega

theorem unr_cons (x : Int) (xs : List Int) (k : Int) : unr (x :: xs) k = (k / prodI xs) % x :: unr xs k := by
  simp only [unr, List.length_cons, List.range_succ_eq_map, List.map_cons, List.map_map, Function.comp_def]
  simp
theorem prodI_gt : ∀ {xs : List Int}, (∀ x ∈ xs, 1 ≤ x) → 0 < prodI xs
  | [], _ => by simp [prodI]
  | x :: xs, h => by
    rw [prodI]
    exact Int.mul_pos (by have := h x List.mem_cons_self; omega) (prodI_gt fun y hy => h y (List.mem_cons_of_mem _ hy))
theorem unr_add : ∀ {xs : List Int}, (∀ x ∈ xs, 1 ≤ x) → ∀ (m k : Int), unr xs (m * prodI xs + k) = unr xs k
  | [], _, _, _ => rfl
  | x :: xs, h, m, k => by
    have hp := prodI_gt (xs := xs) fun y hy => h y (List.mem_cons_of_mem _ hy)
    rw [unr_cons, unr_cons, prodI, ← Int.mul_assoc]
    rw [unr_add (fun y hy => h y (List.mem_cons_of_mem _ hy)) (m * x) k]
    congr 1
    rw [Int.add_comm (m * x * prodI xs) k, Int.add_mul_ediv_right _ _ (by omega), Int.add_mul_emod_self_right]
theorem box_pos : ∀ {idx shape : List Int}, InBox idx shape → ∀ x ∈ shape, 1 ≤ x
  | [], [], _, x, hx => by cases hx
  | [], _ :: _, h, _, _ => h.elim
  | _ :: _, [], h, _, _ => h.elim
  | i :: is, e :: es, h, x, hx => by
    rcases List.mem_cons.1 hx with rfl | hx
    · have := h.1; have := h.2.1; omega
    · exact box_pos h.2.2 x hx
theorem unr_surj : ∀ {idx shape : List Int}, InBox idx shape → ∃ k, 0 ≤ k ∧ k < prodI shape ∧ unr shape k = idx
  | [], [], _ => ⟨0, by simp, by simp [prodI], rfl⟩
  | [], _ :: _, h => h.elim
  | _ :: _, [], h => h.elim
  | i :: is, e :: es, h => by
    obtain ⟨k, h0, h1, hk⟩ := unr_surj h.2.2
    have hpos := box_pos h.2.2
    have hp := prodI_gt hpos
    refine ⟨i * prodI es + k, ?_, ?_, ?_⟩
    · have := Int.mul_nonneg h.1 (show 0 ≤ prodI es by omega); omega
    · have := Int.mul_le_mul_of_nonneg_right (show i + 1 ≤ e by have := h.2.1; omega) (show 0 ≤ prodI es by omega)
      rw [Int.add_mul, Int.one_mul] at this
      rw [prodI]; omega
    · rw [unr_cons, unr_add hpos, hk, Int.add_comm, Int.add_mul_ediv_right _ _ (by omega), Int.ediv_eq_zero_of_lt h0 h1, Int.zero_add, Int.emod_eq_of_lt h.1 h.2.1]
theorem unr_box : ∀ {shape : List Int}, (∀ x ∈ shape, 1 ≤ x) → ∀ k, InBox (unr shape k) shape
  | [], _, _ => by simp [unr, InBox]
  | e :: es, h, k => by
    have he := h e List.mem_cons_self
    rw [unr_cons]
    exact ⟨Int.emod_nonneg _ (by omega), Int.emod_lt_of_pos _ (by omega), unr_box (fun x hx => h x (List.mem_cons_of_mem _ hx)) k⟩
theorem box_le : ∀ {idx shape : List Int}, InBox idx shape → (∀ x ∈ shape, x ≤ 60) → ∀ x ∈ idx, 0 ≤ x ∧ x ≤ 60
  | [], [], _, _, x, hx => by cases hx
  | [], _ :: _, h, _, _, _ => h.elim
  | _ :: _, [], h, _, _, _ => h.elim
  | i :: is, e :: es, h, hl, x, hx => by
    rcases List.mem_cons.1 hx with rfl | hx
    · have := h.1; have := h.2.1; have := hl e List.mem_cons_self; omega
    · exact box_le h.2.2 (fun y hy => hl y (List.mem_cons_of_mem _ hy)) x hx
theorem box_length : ∀ {idx shape : List Int}, InBox idx shape → idx.length = shape.length
  | [], [], _ => rfl
  | [], _ :: _, h => h.elim
  | _ :: _, [], h => h.elim
  | _ :: _, _ :: _, h => by simp [box_length h.2.2]
theorem mul_bd {i s : Int} (h0 : 0 ≤ i) (h1 : i ≤ 60) (h2 : -60 ≤ s) (h3 : s ≤ 60) : -3600 ≤ i * s ∧ i * s ≤ 3600 := by
  have a := Int.mul_le_mul_of_nonneg_left h3 h0
  have b := Int.mul_le_mul_of_nonneg_left h2 h0
  omega
theorem foldl_off (idx strides : List Int) (a : Int) (h1 : ∀ x ∈ idx, 0 ≤ x ∧ x ≤ 60) (h2 : ∀ x ∈ strides, -60 ≤ x ∧ x ≤ 60) (h3 : -1000000 + 3600 * (idx.length : Int) ≤ a) (h4 : a ≤ 1000000 - 3600 * (idx.length : Int)) :
    (idx.zip strides).foldl (fun n p => wrap64 (n + wrap64 (p.1 * p.2))) a = a + dotI idx strides := by
  induction idx generalizing strides a with
  | nil => simp [dotI]
  | cons i is ih =>
    cases strides with
    | nil => simp [dotI]
    | cons s ss =>
      have hi := h1 i List.mem_cons_self
      have hs := h2 s List.mem_cons_self
      have hm := mul_bd hi.1 hi.2 hs.1 hs.2
      simp only [List.length_cons] at h3 h4
      simp only [List.zip_cons_cons, List.foldl_cons, dotI]
      rw [wrap_small (n := i * s) (by omega) (by omega), wrap_small (by omega) (by omega)]
      rw [ih ss _ (fun x hx => h1 x (List.mem_cons_of_mem _ hx)) (fun x hx => h2 x (List.mem_cons_of_mem _ hx)) (by omega) (by omega)]
      omega
theorem offW_dot {base : Int} {idx strides : List Int} (hb : 0 ≤ base ∧ base ≤ 60) (h1 : ∀ x ∈ idx, 0 ≤ x ∧ x ≤ 60) (h2 : ∀ x ∈ strides, -60 ≤ x ∧ x ≤ 60) (hl : idx.length ≤ 100) : offW base idx strides = base + dotI idx strides :=
  foldl_off idx strides base h1 h2 (by omega) (by omega)
/-- Valid: by the bounds of the offsets alone. -/
theorem valid_iff (V : VL) : isViewL V = true ↔ isShapeL V.shape = true ∧ V.strides.length = V.shape.length ∧ (0 ≤ V.base ∧ V.base ≤ 60) ∧ (∀ x ∈ V.strides, -60 ≤ x ∧ x ≤ 60) ∧
    (prodI V.shape = 0 ∨ 0 ≤ V.base + loS V.shape V.strides ∧ V.base + hiS V.shape V.strides ≤ 59) := by
  have hall : V.strides.all (inR · (-60) 60) = true ↔ ∀ x ∈ V.strides, -60 ≤ x ∧ x ≤ 60 := by simp [List.all_eq_true, inR]
  simp only [isViewL, Bool.and_eq_true, decide_eq_true_eq, hall, inR_iff, and_assoc]
  refine and_congr_right fun hs => and_congr_right fun hl => and_congr_right fun hb0 => and_congr_right fun hb1 => and_congr_right fun hst => ?_
  obtain ⟨e1, e2, e3⟩ := shape_prod hs
  obtain ⟨h1, h2, -⟩ := shape_ext hs
  by_cases hz : prodI V.shape = 0
  · simp [offs, e1, hz]
  · have hp : 0 < prodI V.shape := by omega
    have hpos := prodI_pos (fun x hx => (h2 x hx).1) hp
    have hoff : ∀ idx, InBox idx V.shape → offW V.base idx V.strides = V.base + dotI idx V.strides := fun idx hi =>
      offW_dot ⟨hb0, hb1⟩ (box_le hi fun x hx => (h2 x hx).2) hst (by rw [box_length hi]; omega)
    simp only [hz, false_or, List.all_eq_true, inR_iff]
    constructor
    · intro h
      have key : ∀ idx, InBox idx V.shape → 0 ≤ V.base + dotI idx V.strides ∧ V.base + dotI idx V.strides ≤ 59 := fun idx hi => by
        obtain ⟨k, k0, k1, hk⟩ := unr_surj hi
        rw [← hoff idx hi]
        apply h
        rw [offs, List.mem_map]
        exact ⟨k.toNat, by rw [List.mem_range, e1]; omega, by rw [Int.toNat_of_nonneg k0, hk]⟩
      have a := (key _ (loX_box (strides := V.strides) hpos)).1
      have b := (key _ (hiX_box (strides := V.strides) hpos)).2
      rw [dot_loX hpos] at a
      rw [dot_hiX hpos] at b
      exact ⟨a, b⟩
    · rintro ⟨ha, hb⟩ x hx
      rw [offs, List.mem_map] at hx
      obtain ⟨k, -, rfl⟩ := hx
      have hbx := unr_box hpos (k : Int)
      rw [hoff _ hbx]
      have := dot_bound (strides := V.strides) hbx
      omega

end Go.Proofs.Ytldblcolnjkcaaa
