/- Contracts: all offsets of a view. No conditions. -/
import Derived.Test.YtldblcolnjkcaaaC2
import Derived.Outline
import Derived.Deep.RegionHeld3
namespace Go.Proofs.Ytldblcolnjkcaaa
open Go.RowKit

/-- Of a valid shape: what the loops ask. -/
theorem shape_ext {xs : List Int} (h : isShapeL xs = true) : xs.length ≤ 4 ∧ (∀ x ∈ xs, 0 ≤ x ∧ x ≤ 60) ∧ prodW xs ≤ 60 := by
  unfold isShapeL at h
  simp only [Bool.and_eq_true, decide_eq_true_eq, List.all_eq_true, okExt, inR] at h
  exact ⟨h.1.1, h.1.2, h.2⟩
theorem wrap_small {n : Int} (h1 : -9223372036854775808 ≤ n) (h2 : n ≤ 9223372036854775807) : wrap64 n = n := IntWalk.wrap64_in n ⟨h1, h2⟩
theorem foldl_prod (xs : List Int) (a : Int) (c : Int) (hc : c * 60 ^ xs.length ≤ 13000000) (h : ∀ x ∈ xs, 0 ≤ x ∧ x ≤ 60) (ha : 0 ≤ a) (hac : a ≤ c) :
    xs.foldl (fun n x => wrap64 (n * x)) a = a * prodI xs ∧ 0 ≤ a * prodI xs ∧ a * prodI xs ≤ c * 60 ^ xs.length := by
  induction xs generalizing a c with
  | nil => simp [prodI]; omega
  | cons x xs ih =>
    have hx := h x List.mem_cons_self
    have hp : 0 ≤ a * x := Int.mul_nonneg ha hx.1
    have hle : a * x ≤ c * 60 := Int.mul_le_mul hac hx.2 hx.1 (by omega)
    have hpow : (0:Int) < 60 ^ xs.length := Int.pow_pos (by omega)
    have h60 : c * 60 * 60 ^ xs.length ≤ 13000000 := by
      rw [List.length_cons, Int.pow_succ, Int.mul_comm (60 ^ xs.length), ← Int.mul_assoc] at hc; exact hc
    have hcc : c * 60 ≤ c * 60 * 60 ^ xs.length := by
      have := Int.mul_le_mul_of_nonneg_left (show (1:Int) ≤ 60 ^ xs.length by omega) (show 0 ≤ c * 60 by omega)
      omega
    have hw : wrap64 (a * x) = a * x := wrap_small (by omega) (by omega)
    have := ih (a * x) (c * 60) h60 (fun y hy => h y (List.mem_cons_of_mem _ hy)) hp hle
    rw [List.foldl_cons, hw, prodI, ← Int.mul_assoc, List.length_cons, Int.pow_succ, Int.mul_comm (60 ^ xs.length), ← Int.mul_assoc]
    exact this
theorem prodW_eq {xs : List Int} (hl : xs.length ≤ 4) (h : ∀ x ∈ xs, 0 ≤ x ∧ x ≤ 60) : prodW xs = prodI xs ∧ 0 ≤ prodI xs ∧ prodI xs ≤ 12960000 := by
  have hp : (60:Int) ^ xs.length ≤ 12960000 := by
    match hn : xs.length, hl with
    | 0, _ => decide
    | 1, _ => decide
    | 2, _ => decide
    | 3, _ => decide
    | 4, _ => decide
  have := foldl_prod xs 1 1 (by omega) h (by omega) (by omega)
  simp only [Int.one_mul] at this
  exact ⟨this.1, this.2.1, by omega⟩
theorem shape_prod {xs : List Int} (h : isShapeL xs = true) : prodW xs = prodI xs ∧ 0 ≤ prodI xs ∧ prodI xs ≤ 60 := by
  obtain ⟨h1, h2, h3⟩ := shape_ext h
  obtain ⟨e1, e2, e3⟩ := prodW_eq h1 h2
  exact ⟨e1, e2, by omega⟩
theorem prodI_pos {xs : List Int} (h : ∀ x ∈ xs, 0 ≤ x) (hp : 0 < prodI xs) : ∀ x ∈ xs, 1 ≤ x := by
  induction xs with
  | nil => intro x hx; cases hx
  | cons y ys ih =>
    have hy := h y List.mem_cons_self
    rw [prodI] at hp
    have hy1 : 1 ≤ y := by
      rcases Int.lt_or_le 0 y with h1 | h1
      · omega
      · have : y = 0 := by omega
        subst this; simp at hp
    have h2 : 0 < prodI ys := by
      rcases Int.lt_or_le 0 (prodI ys) with h1 | h1
      · exact h1
      · have := Int.mul_nonpos_of_nonneg_of_nonpos hy h1; omega
    intro x hx
    rcases List.mem_cons.1 hx with rfl | hx
    · exact hy1
    · exact ih (fun z hz => h z (List.mem_cons_of_mem _ hz)) h2 x hx

theorem offs_take (V : VL) (k : Nat) (h : k < (prodW V.shape).toNat) : (offs V).take (k + 1) = (offs V).take k ++ [offW V.base (unr V.shape k) V.strides] := by
  rw [take_snocI (offs V) k (by simp [offs, h])]
  simp [offs]

set_option maxRecDepth 100000 in
set_option maxHeartbeats 400000 in
theorem offsetsOf_any (v : Value) (V : VL) (w : World) (hv : ViewV w v V) (hok : isShapeL V.shape = true) (hlen : V.shape.length = V.strides.length) :
    Calls Try.prog 114 #[v] w (RetOwn w (offs V)) := by
  have hv0 := hv
  obtain ⟨sv, tv, rfl, hsv, htv⟩ := hv
  have HL := hid hlen
  obtain ⟨hs1, hs2, hs3⟩ := shape_ext hok
  obtain ⟨hp1, hp2, hp3⟩ := shape_prod hok
  have hs60 : prodW V.shape ≤ 60 := by omega
  have hs0 : 0 ≤ prodW V.shape := by omega
  have HX := hid (show 0 < prodW V.shape → ∀ x ∈ V.shape, 1 ≤ x ∧ x ≤ 60 from fun h x hx => ⟨prodI_pos (fun x hx => (hs2 x hx).1) (by omega) x hx, (hs2 x hx).2⟩)
  obtain ⟨n, hn⟩ : ∃ n : Nat, prodW V.shape = n := ⟨(prodW V.shape).toNat, by omega⟩
  have HT := hid (fun k (h : k < n) => offs_take V k (by omega))
  have HO : Hid ((offs V).length = n) := by show _ = _; simp [offs, hn]
  clear hlen hok hs2 hp1 hp2 hp3
  have hs4 := hs1; clear hs1
  go_enter Try.func114, Try.ntmps114
  have hbb : Below w.heap.size w ((w.alloc (.cells #[.int .i64 V.base, sv, tv] 43)).alloc (.cells #[] 3)) := ((Below.refl _ _).alloc (Nat.le_refl _) _).alloc (by simp) _
  go_wp2_with (go_at_call 96; refine (countOf_any _ V.shape _ (hsv.ext hbb)).mono ?_; rintro e w' ⟨rfl, rfl⟩)
  go_loopw [3, 9] (fun out i wr => ∃ k : Nat, k ≤ n ∧ i = .int .i64 k ∧ Own wr (w.heap.size + 1) out ((offs V).take k) ∧
      Below (w.heap.size + 1) (w.alloc (.cells #[.int .i64 V.base, sv, tv] 43)) wr) (fun _ i _ => n - (intOf i).toNat)
  case atStart => exact ⟨0, Nat.zero_le _, rfl, Own.empty _ (by simp) (by omega), (Below.refl _ _).alloc (by simp) _⟩
  case round =>
    obtain ⟨k, hk, rfl, hown, hb⟩ := hrel
    have hb1 : Below w.heap.size w wr := (below_alloc w _).trans (hb.mono (by omega))
    by_cases hlt : k < n
    · have hB0 : Box wr w.heap.size (.int .i64 V.base) sv tv := (Box.new w _ _ _ _).ext hb (by omega)
      obtain ⟨c0, c1, c2⟩ := id hB0
      have HT1 := hid (HT.out k hlt)
      have HL1 : Hid (((offs V).take k).length = k) := by show _ = _; rw [List.length_take, HO.out]; omega
      have hsz : w.heap.size + 1 ≤ wr.heap.size := by have := hb.size; simp only [World.size_alloc] at this; exact this
      have hk0 : (0 : Int) ≤ k := by omega
      have hk1 : (k : Int) ≤ 100 := by omega
      have HX1 := hid (HX.out (by omega))
      have HU := hid (show (unr V.shape k).length = V.strides.length by rw [unr_length]; exact HL.out)
      have HK := hid (show ((offs V).take k).length ≤ 1000000000000 by rw [HL1.out]; omega)
      go_wp2_with fail
      go_region_held3 (fun w' => w'.cell? ⟨w.heap.size, 0, none⟩ = some (.int .i64 V.base) ∧ w'.cell? ⟨w.heap.size, 1, none⟩ = some sv ∧ w'.cell? ⟨w.heap.size, 2, none⟩ = some tv)
        (first | go_keep | exact hB1 | exact hB2 | exact hB3)
        (first
          | (go_at_call 97; refine (indexAt_any _ V.shape _ _ (hsv.ext hb1.drew) HX1.out hs4 hk0 hk1).mono ?_; rintro e w1 ⟨iv, rfl, hiv, hq1⟩; have hB1 := hB0.drew.ext hq1 hsz; have hz1 : w.heap.size + 1 ≤ w1.heap.size := Nat.le_trans hsz hq1.size; have hown1 := hown.drew.ext hq1)
          | (go_at_call 155; refine (offsetAt_any _ _ V (unr V.shape k) _ ((hv0.ext hb1.drew).ext hq1) hiv.ints HU.out).mono ?_; rintro e w2 ⟨rfl, hq2⟩; have hB2 := hB1.ext hq2 hz1; have hz2 : w.heap.size + 1 ≤ w2.heap.size := Nat.le_trans hz1 hq2.size; have hown2 := hown1.ext hq2)
          | (refine step1 _ (by rfl) _ _ (by rfl) (w.heap.size + 1) _ _ (by rfl) (hown2.alloc _) ⟨w2.heap.size, 0, none⟩ 1 (offW V.base (unr V.shape k) V.strides) (by rfl) (cell_new1 _ _ _) HK.out (le_alloc hz2 _) ?_; intro v3 w3 hown3 hg3 hat3; have hq3 := (hown2.alloc _).under hg3 (le_alloc hz2 _); have hB3 := (hB2.alloc hz2 _).ext hq3 (Nat.lt_succ_self _)))
      go_wp2
      go_roundw
      case rel => exact ⟨k + 1, by omega, by go_num, by rw [HT1.out]; exact hown3, hb.trans ((((below_drew wr).trans hq1).mono hsz).trans ((hq2.mono hz1).trans ((((below_alloc w2 _).mono hz2)).trans hq3)))⟩
      case measure => simp [intOf]; omega
    · go_wp2
      go_ret
      obtain rfl : k = n := by omega
      refine ⟨_, rfl, ?_, hb1⟩
      rw [List.take_of_length_le (by rw [HO.out]; exact Nat.le_refl _)] at hown
      exact hown.mono (by omega)

end Go.Proofs.Ytldblcolnjkcaaa
