/- Words for lists of lists of ints. No conditions. -/
import Derived.Test.YtldblcolnjkcaaaT0
namespace Go.Proofs.Ytldblcolnjkcaaa
open Go.RowKit

/-- The value v reads as the lists xss in w. -/
def IntsS (w : World) (v : Value) (xss : List (List Int)) : Prop :=
  ∃ (A : Option Addr) (c : Nat), v = .slice A xss.length c ∧ xss.length ≤ c ∧ c ≤ maxLen ∧
    (0 < xss.length → ∃ b off, A = some ⟨b, off, none⟩ ∧ b < w.heap.size ∧ ∀ j xs, xss[j]? = some xs → ∃ u, w.cell? ⟨b, off + j, none⟩ = some u ∧ Ints w u xs)
theorem IntsS.ext {w w' : World} {v : Value} {xss : List (List Int)} (h : IntsS w v xss) (hb : Below w.heap.size w w') : IntsS w' v xss := by
  obtain ⟨A, c, hv, h1, h2, h3⟩ := h
  refine ⟨A, c, hv, h1, h2, fun hn => ?_⟩
  obtain ⟨b, off, ha, hlt, hc⟩ := h3 hn
  refine ⟨b, off, ha, Nat.lt_of_lt_of_le hlt hb.size, fun j x hx => ?_⟩
  obtain ⟨u, hu, hi⟩ := hc j x hx
  exact ⟨u, (hb.cell (p := ⟨b, off + j, none⟩) hlt).trans hu, hi.ext hb⟩
theorem IntsS.form {w : World} {v : Value} {xss : List (List Int)} (h : IntsS w v xss) : ∃ A c, v = .slice A xss.length c ∧ xss.length ≤ c ∧ c ≤ 9223372036854775807 := by
  obtain ⟨A, c, hv, h1, h2, _⟩ := h
  exact ⟨A, c, hv, h1, by unfold maxLen at h2; omega⟩
theorem IntsS.elem {w : World} {A : Option Addr} {n c : Nat} {xss : List (List Int)} (h : IntsS w (.slice A n c) xss) (k : Nat) (hk : k < xss.length) :
    ∃ b off u, A = some ⟨b, off, none⟩ ∧ w.cell? ⟨b, off + k, none⟩ = some u ∧ Ints w u xss[k] := by
  obtain ⟨A', c', e, -, -, h3⟩ := h
  simp only [Value.slice.injEq] at e
  obtain ⟨rfl, rfl, rfl⟩ := e
  obtain ⟨b, off, e, hb, hc⟩ := h3 (by omega)
  obtain ⟨u, hu, hi⟩ := hc k _ (List.getElem?_eq_getElem hk)
  exact ⟨b, off, u, e, hu, hi⟩
/-- How many numbers the first k lists have. -/
def sumTo (xss : List (List Int)) (k : Nat) : Nat := ((xss.take k).map List.length).sum
theorem sumTo_succ (xss : List (List Int)) (k : Nat) (hk : k < xss.length) : sumTo xss (k + 1) = sumTo xss k + xss[k].length := by
  unfold sumTo
  rw [List.take_succ_eq_append_getElem hk, List.map_append, List.sum_append]
  simp
def llSize (xss : List (List Int)) : Nat := xss.length + sumTo xss xss.length
theorem sumTo_mono (xss : List (List Int)) (i j : Nat) (h : i ≤ j) (hj : j ≤ xss.length) : sumTo xss i ≤ sumTo xss j := by
  induction j with
  | zero => (obtain rfl : i = 0 := (by omega)); exact Nat.le_refl _
  | succ j ih =>
    rcases Nat.lt_or_ge i (j + 1) with h1 | h1
    · have := ih (by omega) (by omega)
      rw [sumTo_succ xss j (by omega)]; omega
    · (obtain rfl : i = j + 1 := (by omega)); exact Nat.le_refl _
theorem row_le {xss : List (List Int)} {k : Nat} (hk : k < xss.length) : sumTo xss k + xss[k].length ≤ sumTo xss xss.length := by
  rw [← sumTo_succ xss k hk]
  exact sumTo_mono xss _ _ (by omega) (Nat.le_refl _)

/-- A row of rows, each in a block of its own. -/
structure OwnL (w : World) (B : Nat) (v : Value) (us : List Value) (xss : List (List Int)) : Prop where
  len : us.length = xss.length
  row : w.ownsRow B 23 1 v us.length us
  rows : ∀ (j : Nat) (u : Value) (xs : List Int), us[j]? = some u → xss[j]? = some xs → Own w B u xs
  apart : ∀ (i j : Nat) (u u' : Value), i ≠ j → us[i]? = some u → us[j]? = some u' → Sep u u'
  off : ∀ (j : Nat) (u : Value), us[j]? = some u → Sep v u
def SegL (v : Value) (us : List Value) (lo hi : Nat) : Prop := Seg v lo hi ∧ ∀ u ∈ us, Seg u lo hi
section
variable {w w' : World} {B : Nat} {v : Value} {us : List Value} {xss : List (List Int)}
theorem OwnL.at_ (h : OwnL w B v us xss) {j : Nat} {u : Value} (hu : us[j]? = some u) : ∃ xs, xss[j]? = some xs ∧ Own w B u xs := by
  have hj : j < xss.length := by have := (List.getElem?_eq_some_iff.1 hu).1; rw [← h.len]; exact this
  exact ⟨_, List.getElem?_eq_getElem hj, h.rows j u _ hu (List.getElem?_eq_getElem hj)⟩
theorem OwnL.seg (h : OwnL w B v us xss) : SegL v us B w.heap.size := ⟨World.ownsRow.lt h.row, fun u hu => by
  obtain ⟨j, hj⟩ := List.getElem?_of_mem hu
  obtain ⟨xs, _, ho⟩ := h.at_ hj
  exact ho.seg⟩
theorem OwnL.ext (h : OwnL w B v us xss) (hb : Below w.heap.size w w') : OwnL w' B v us xss := by
  refine ⟨h.len, ?_, fun j u xs hu hx => (h.rows j u xs hu hx).ext hb, h.apart, h.off⟩
  refine World.ownsRow.kept (row := none) h.row ⟨hb.os, hb.tape, hb.output, hb.size, fun k hk _ => hb.block k hk⟩ ?_
  cases hv : v.ownBlock <;> simp
theorem OwnL.mono {B' : Nat} (h : OwnL w B v us xss) (hB : B' ≤ B) : OwnL w B' v us xss := by
  refine ⟨h.len, ?_, fun j u xs hu hx => (h.rows j u xs hu hx).mono hB, h.apart, h.off⟩
  obtain ⟨h1, h2⟩ := h.row
  refine ⟨h1, ?_⟩
  rcases h2 with h2 | ⟨g, cap, cur, hv, hg, r⟩
  · exact .inl h2
  · exact .inr ⟨g, cap, cur, hv, by omega, r⟩
theorem OwnL.chg {lo hi l r : Nat} (h : OwnL w B v us xss) (hc : Chg lo hi w w') (hs : SegL v us l r) (hd : r ≤ lo ∨ hi ≤ l) : OwnL w' B v us xss := by
  refine ⟨h.len, ?_, fun j u xs hu hx => (h.rows j u xs hu hx).chg hc (hs.2 u (List.mem_of_getElem? hu)) hd, h.apart, h.off⟩
  obtain ⟨h1, h2⟩ := h.row
  refine ⟨h1, ?_⟩
  rcases h2 with h2 | ⟨g, cap, cur, hv, hg, hh, r'⟩
  · exact .inl h2
  · refine .inr ⟨g, cap, cur, hv, hg, ?_, r'⟩
    have := hs.1 g (by simp [hv, Value.ownBlock])
    rw [hc.block g (Array.getElem?_eq_some_iff.1 hh).1 (by omega)]
    exact hh
theorem OwnL.form (h : OwnL w B v us xss) : ∃ A c, v = .slice A xss.length c := by
  rcases h.row.2 with ⟨e, h0⟩ | ⟨g, cap, cur, e, _⟩
  · exact ⟨none, 0, by rw [e, ← h.len, h0]⟩
  · exact ⟨_, _, by rw [e, h.len]⟩
theorem OwnL.ints (h : OwnL w B v us xss) : IntsS w v xss := by
  have hrow := h.row
  rcases h.row.2 with ⟨e, h0⟩ | ⟨g, cap, cur, e, hg, hh, hn, hc, hs, ht⟩
  · exact ⟨none, 0, by rw [e, ← h.len, h0], by rw [← h.len]; omega, by unfold maxLen; omega, fun h1 => by rw [← h.len] at h1; omega⟩
  · subst e
    refine ⟨_, _, by rw [h.len], by rw [← h.len]; exact hn, hc, fun h0 => ⟨g, 0, rfl, (Array.getElem?_eq_some_iff.1 hh).1, fun j xs hx => ?_⟩⟩
    have hj : j < us.length := by have := (List.getElem?_eq_some_iff.1 hx).1; rw [h.len]; exact this
    refine ⟨us[j], ?_, (h.rows j _ xs (List.getElem?_eq_getElem hj) hx).ints⟩
    rw [Nat.zero_add, hrow.cellAt j (by omega)]
    exact List.getElem?_eq_getElem hj
/-- One row is written; its block alone. -/
theorem OwnL.set (h : OwnL w B v us xss) {i : Nat} {u : Value} {ys : List Int} (hu : us[i]? = some u) (ho : Own w' B u ys) (hg : w.grownBy w' u.ownBlock) : OwnL w' B v us (xss.set i ys) := by
  refine ⟨by rw [List.length_set]; exact h.len, ?_, fun j u' xs hu' hx => ?_, h.apart, h.off⟩
  · exact World.ownsRow.kept h.row hg (h.off i u hu).ne
  · by_cases hij : i = j
    · subst hij
      have e : u' = u := by rw [hu] at hu'; exact (Option.some.inj hu').symm
      have hi : i < xss.length := by have := (List.getElem?_eq_some_iff.1 hx).1; simpa using this
      rw [List.getElem?_set_self (by simpa using hi)] at hx
      rw [e, ← Option.some.inj hx]
      exact ho
    · rw [List.getElem?_set_ne hij] at hx
      exact (h.rows j u' xs hu' hx).grown hg (h.apart j i u' u (Ne.symm hij) hu' hu).ne
/-- One cell of the outer row gets a new row. -/
theorem OwnL.put {g c n : Nat} (h : OwnL w B (.slice (some ⟨g, 0, none⟩) n c) us xss) (i : Nat) {u : Value} {ys : List Int} (ho : Own w B u ys) (hv : Sep (.slice (some ⟨g, 0, none⟩) n c) u)
    (hs : ∀ (j : Nat) (u' : Value), us[j]? = some u' → Sep u' u) : OwnL (w.setCell ⟨g, i, none⟩ u) B (.slice (some ⟨g, 0, none⟩) n c) (us.set i u) (xss.set i ys) := by
  have hn : n = us.length := by
    rcases h.row.2 with ⟨e, h0⟩ | ⟨g', cap, cur, e, _⟩
    · cases e
    · simp only [Value.slice.injEq] at e; exact e.2.1
  subst hn
  have hne : ∀ (u' : Value), Sep (.slice (some ⟨g, 0, none⟩) us.length c) u' → ∀ k, u'.ownBlock = some k → k ≠ g := fun u' h k hk e => h k (by rw [e]; rfl) hk
  refine ⟨by rw [List.length_set, List.length_set]; exact h.len, ?_, fun j u' xs hu' hx => ?_, fun a b x y hab hx hy => ?_, fun j u' hu' => ?_⟩
  · rw [List.length_set]
    exact (h.row.stored i u).1
  · by_cases hij : i = j
    · subst hij
      have hi : i < us.length := by have := (List.getElem?_eq_some_iff.1 hu').1; simpa using this
      have hi2 : i < xss.length := by rw [← h.len]; exact hi
      rw [List.getElem?_set_self hi] at hu'
      rw [List.getElem?_set_self hi2] at hx
      rw [← Option.some.inj hu', ← Option.some.inj hx]
      exact ho.off (hne u hv) u
    · rw [List.getElem?_set_ne hij] at hu' hx
      exact (h.rows j u' xs hu' hx).off (hne u' (h.off j u' hu')) u
  · by_cases ha : i = a
    · subst ha
      rw [List.getElem?_set_ne hab] at hy
      have hi : i < us.length := by have := (List.getElem?_eq_some_iff.1 hx).1; simpa using this
      rw [List.getElem?_set_self hi] at hx
      rw [← Option.some.inj hx]
      exact (hs b y hy).symm
    · rw [List.getElem?_set_ne ha] at hx
      by_cases hb : i = b
      · subst hb
        have hi : i < us.length := by have := (List.getElem?_eq_some_iff.1 hy).1; simpa using this
        rw [List.getElem?_set_self hi] at hy
        rw [← Option.some.inj hy]
        exact hs a x hx
      · rw [List.getElem?_set_ne hb] at hy
        exact h.apart a b x y hab hx hy
  · by_cases hij : i = j
    · subst hij
      have hi : i < us.length := by have := (List.getElem?_eq_some_iff.1 hu').1; simpa using this
      rw [List.getElem?_set_self hi] at hu'
      rw [← Option.some.inj hu']
      exact hv
    · rw [List.getElem?_set_ne hij] at hu'
      exact h.off j u' hu'
theorem OwnL.cell {g c n : Nat} (h : OwnL w B (.slice (some ⟨g, 0, none⟩) n c) us xss) (j : Nat) (hj : j < us.length) : w.cell? ⟨g, j, none⟩ = some us[j] := by
  have hn : n = us.length := by
    rcases h.row.2 with ⟨e, h0⟩ | ⟨g', cap, cur, e, _⟩
    · cases e
    · simp only [Value.slice.injEq] at e; exact e.2.1
  subst hn
  rw [h.row.cellAt j (by omega)]
  exact List.getElem?_eq_getElem hj
theorem OwnL.free {g c n : Nat} (h : OwnL w B (.slice (some ⟨g, 0, none⟩) n c) us xss) (j : Nat) : w.frozen? ⟨g, j, none⟩ = false := by
  have hn : n = us.length := by
    rcases h.row.2 with ⟨e, h0⟩ | ⟨g', cap, cur, e, _⟩
    · cases e
    · simp only [Value.slice.injEq] at e; exact e.2.1
  subst hn
  exact h.row.frozenAt j
theorem OwnL.lt (h : OwnL w B v us xss) : ∀ u ∈ us, ∀ k, u.ownBlock = some k → B ≤ k ∧ k < w.heap.size := fun u hu => h.seg.2 u hu
end
theorem Try.infoRow : (Try.prog.info? 23).map (fun i => (i.zero, i.size, i.bytes)) = some (some (.slice none 0 0), 1, 24) := by kernel_rfl
/-- make([][]int, n). -/
theorem mkL {ops : Array Oper} {rest : List Oper} {o : Oper} {a : Act} {Q : Exit → Act → World → Prop} (w : World) (hg : o.guard = none) (l c : Operand) (hop : o.op = Op.makeSlice 82 l c) (n : Nat)
    (hl : a.eval l = .int .i64 n) (hc : a.eval c = .int .i64 n) (hn : n ≤ 100000000000)
    (hK : ∀ w', OwnL w' w.heap.size (.slice (some ⟨w.heap.size, 0, none⟩) n n) (List.replicate n (.slice none 0 0)) (List.replicate n []) → Below w.heap.size w w' → w.heap.size < w'.heap.size → wpList Try.prog ops Q rest (a.put o.dst (.slice (some ⟨w.heap.size, 0, none⟩) n n)) w') :
    wpList Try.prog ops Q (o :: rest) a w := by
  obtain ⟨i0, hi, hz0, hz1, hz2⟩ := info_parts Try.infoRow
  refine wpList_make_full (P := Try.prog) w hg l c 82 hop w.heap.size 23 i0 (.slice none 0 0) 1 Try.underlying82 hi hz0 hz1 .i64 .i64 n n n hl hc rfl rfl (by rw [hz2]; omega) (by unfold maxLen; omega) (Nat.le_refl _) ?_
  intro w' h1 h2
  have e : (madeCells (Value.cells (.slice none 0 0)) (n * 1)).toList = List.replicate n (Value.slice none 0 0) := by rw [Nat.mul_one]; exact toList_madeCells_one _ _
  rw [e] at h1
  have h4 : w'.ownsRow w.heap.size 23 1 (.slice (some ⟨w.heap.size, 0, none⟩) n n) (List.replicate n (Value.slice none 0 0)).length (List.replicate n (.slice none 0 0)) := by rw [List.length_replicate]; exact h1
  have hnil : ∀ (j : Nat) (u : Value), (List.replicate n (Value.slice none 0 0))[j]? = some u → u = .slice none 0 0 := fun j u hu => (List.mem_replicate.1 (List.mem_of_getElem? hu)).2
  have h3 : OwnL w' w.heap.size (.slice (some ⟨w.heap.size, 0, none⟩) n n) (List.replicate n (.slice none 0 0)) (List.replicate n []) :=
    ⟨by simp, h4, fun j u xs hu hx => by rw [hnil j u hu, (List.mem_replicate.1 (List.mem_of_getElem? hx)).2]; exact Own.nil _ _,
     fun i j u u' _ hu hu' => by rw [hnil i u hu]; exact Sep.none_left _, fun j u hu => by rw [hnil j u hu]; exact (Sep.none_left _).symm⟩
  exact hK w' h3 ((Below.refl _ _).grown h2 (Nat.le_refl _) (fun k h => by cases h)) (World.ownsRow.lt h4 _ rfl).2

end Go.Proofs.Ytldblcolnjkcaaa
