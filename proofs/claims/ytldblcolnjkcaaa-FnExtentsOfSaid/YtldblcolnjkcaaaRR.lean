/- Words for rows of records: the cells of a record are numbers, bits and rows of numbers. No conditions. -/
import Derived.Test.YtldblcolnjkcaaaLL
namespace Go.Proofs.Ytldblcolnjkcaaa
open Go.RowKit

/-- What a cell of a record holds. -/
inductive Cl where
  | num (n : Int)
  | bit (b : Bool)
  | row (xs : List Int)
def CellV (w : World) (u : Value) : Cl → Prop
  | .num n => u = .int .i64 n
  | .bit b => u = .bool b
  | .row xs => Ints w u xs
def CellO (w : World) (B : Nat) (u : Value) : Cl → Prop
  | .num n => u = .int .i64 n
  | .bit b => u = .bool b
  | .row xs => Own w B u xs
section
variable {w w' : World} {B : Nat} {u : Value} {c : Cl}
theorem CellV.ext (h : CellV w u c) (hb : Below w.heap.size w w') : CellV w' u c := by
  cases c with
  | num n => exact h
  | bit b => exact h
  | row xs => exact Ints.ext h hb
theorem CellO.ext (h : CellO w B u c) (hb : Below w.heap.size w w') : CellO w' B u c := by
  cases c with
  | num n => exact h
  | bit b => exact h
  | row xs => exact Own.ext h hb
theorem CellO.mono {B' : Nat} (h : CellO w B u c) (hB : B' ≤ B) : CellO w B' u c := by
  cases c with
  | num n => exact h
  | bit b => exact h
  | row xs => exact Own.mono h hB
theorem CellO.seen (h : CellO w B u c) : CellV w u c := by
  cases c with
  | num n => exact h
  | bit b => exact h
  | row xs => exact Own.ints h
theorem CellO.lt (h : CellO w B u c) : ∀ k, u.ownBlock = some k → B ≤ k ∧ k < w.heap.size := by
  intro k hk
  cases c with
  | num n => have e : u = .int .i64 n := h; subst e; cases hk
  | bit b => have e : u = .bool b := h; subst e; cases hk
  | row xs => exact Own.lt h k hk
theorem CellO.grown {row : Option Nat} (h : CellO w B u c) (hg : w.grownBy w' row) (hne : u.ownBlock = none ∨ u.ownBlock ≠ row) : CellO w' B u c := by
  cases c with
  | num n => exact h
  | bit b => exact h
  | row xs => exact Own.grown h hg hne
theorem CellO.chg {lo hi l r : Nat} (h : CellO w B u c) (hc : Chg lo hi w w') (hs : Seg u l r) (hd : r ≤ lo ∨ hi ≤ l) : CellO w' B u c := by
  cases c with
  | num n => exact h
  | bit b => exact h
  | row xs => exact Own.chg h hc hs hd
theorem CellO.off {g i : Nat} (h : CellO w B u c) (hu : ∀ k, u.ownBlock = some k → k ≠ g) (x : Value) : CellO (w.setCell ⟨g, i, none⟩ x) B u c := by
  cases c with
  | num n => exact h
  | bit b => exact h
  | row xs => exact Own.off h hu x
end

/-- The value v reads as n records of s cells. -/
def RowV (s : Nat) (w : World) (v : Value) (n : Nat) (cs : List Cl) : Prop :=
  cs.length = n * s ∧ ∃ (A : Option Addr) (c : Nat), v = .slice A n c ∧ n ≤ c ∧ c ≤ maxLen ∧
    (0 < n → ∃ b off, A = some ⟨b, off, none⟩ ∧ b < w.heap.size ∧ ∀ j c, cs[j]? = some c → ∃ u, w.cell? ⟨b, off + j, none⟩ = some u ∧ CellV w u c)
theorem RowV.ext {s n : Nat} {w w' : World} {v : Value} {cs : List Cl} (h : RowV s w v n cs) (hb : Below w.heap.size w w') : RowV s w' v n cs := by
  obtain ⟨h0, A, c, hv, h1, h2, h3⟩ := h
  refine ⟨h0, A, c, hv, h1, h2, fun hn => ?_⟩
  obtain ⟨b, off, ha, hlt, hc⟩ := h3 hn
  refine ⟨b, off, ha, Nat.lt_of_lt_of_le hlt hb.size, fun j x hx => ?_⟩
  obtain ⟨u, hu, hi⟩ := hc j x hx
  exact ⟨u, (hb.cell (p := ⟨b, off + j, none⟩) hlt).trans hu, hi.ext hb⟩
theorem RowV.form {s n : Nat} {w : World} {v : Value} {cs : List Cl} (h : RowV s w v n cs) : ∃ A c, v = .slice A n c ∧ n ≤ c ∧ c ≤ 9223372036854775807 := by
  obtain ⟨_, A, c, hv, h1, h2, _⟩ := h
  exact ⟨A, c, hv, h1, by unfold maxLen at h2; omega⟩
theorem RowV.at_ {s n : Nat} {w : World} {A : Option Addr} {m c : Nat} {cs : List Cl} (h : RowV s w (.slice A m c) n cs) (k : Nat) (hk : k < n) :
    ∃ b off, A = some ⟨b, off, none⟩ ∧ b < w.heap.size ∧ ∀ j c, j < s → cs[k * s + j]? = some c → ∃ u, w.cell? ⟨b, off + k * s + j, none⟩ = some u ∧ CellV w u c := by
  obtain ⟨-, A', c', e, -, -, h3⟩ := h
  simp only [Value.slice.injEq] at e
  obtain ⟨rfl, rfl, rfl⟩ := e
  obtain ⟨b, off, e, hb, hc⟩ := h3 (by omega)
  exact ⟨b, off, e, hb, fun j c _ hj => by rw [Nat.add_assoc]; exact hc _ _ hj⟩

/-- n records of s cells in a row of a call's own, and their rows of numbers, each in a block of its own. -/
structure OwnC (t : TypeId) (s : Nat) (w : World) (B : Nat) (v : Value) (n : Nat) (us : List Value) (cs : List Cl) : Prop where
  len : us.length = cs.length
  row : w.ownsRow B t s v n us
  cells : ∀ (j : Nat) (u : Value) (c : Cl), us[j]? = some u → cs[j]? = some c → CellO w B u c
  apart : ∀ (i j : Nat) (u u' : Value), i ≠ j → us[i]? = some u → us[j]? = some u' → Sep u u'
  off : ∀ (j : Nat) (u : Value), us[j]? = some u → Sep v u
section
variable {t : TypeId} {s n : Nat} {w w' : World} {B : Nat} {v : Value} {us : List Value} {cs : List Cl}
theorem OwnC.at_ (h : OwnC t s w B v n us cs) {j : Nat} {u : Value} (hu : us[j]? = some u) : ∃ c, cs[j]? = some c ∧ CellO w B u c := by
  have hj : j < cs.length := by have := (List.getElem?_eq_some_iff.1 hu).1; rw [← h.len]; exact this
  exact ⟨_, List.getElem?_eq_getElem hj, h.cells j u _ hu (List.getElem?_eq_getElem hj)⟩
theorem OwnC.seg (h : OwnC t s w B v n us cs) : SegL v us B w.heap.size := ⟨World.ownsRow.lt h.row, fun u hu => by
  obtain ⟨j, hj⟩ := List.getElem?_of_mem hu
  obtain ⟨c, _, ho⟩ := h.at_ hj
  exact ho.lt⟩
theorem OwnC.ext (h : OwnC t s w B v n us cs) (hb : Below w.heap.size w w') : OwnC t s w' B v n us cs := by
  refine ⟨h.len, ?_, fun j u c hu hc => (h.cells j u c hu hc).ext hb, h.apart, h.off⟩
  refine World.ownsRow.kept (row := none) h.row ⟨hb.os, hb.tape, hb.output, hb.size, fun k hk _ => hb.block k hk⟩ ?_
  cases hv : v.ownBlock <;> simp
theorem OwnC.mono {B' : Nat} (h : OwnC t s w B v n us cs) (hB : B' ≤ B) : OwnC t s w B' v n us cs := by
  refine ⟨h.len, ?_, fun j u c hu hc => (h.cells j u c hu hc).mono hB, h.apart, h.off⟩
  obtain ⟨h1, h2⟩ := h.row
  refine ⟨h1, ?_⟩
  rcases h2 with h2 | ⟨g, cap, cur, hv, hg, r⟩
  · exact .inl h2
  · exact .inr ⟨g, cap, cur, hv, by omega, r⟩
theorem OwnC.chg {lo hi l r : Nat} (h : OwnC t s w B v n us cs) (hc : Chg lo hi w w') (hs : SegL v us l r) (hd : r ≤ lo ∨ hi ≤ l) : OwnC t s w' B v n us cs := by
  refine ⟨h.len, ?_, fun j u c hu hx => (h.cells j u c hu hx).chg hc (hs.2 u (List.mem_of_getElem? hu)) hd, h.apart, h.off⟩
  obtain ⟨h1, h2⟩ := h.row
  refine ⟨h1, ?_⟩
  rcases h2 with h2 | ⟨g, cap, cur, hv, hg, hh, r'⟩
  · exact .inl h2
  · refine .inr ⟨g, cap, cur, hv, hg, ?_, r'⟩
    have := hs.1 g (by simp [hv, Value.ownBlock])
    rw [hc.block g (Array.getElem?_eq_some_iff.1 hh).1 (by omega)]
    exact hh
theorem OwnC.form (h : OwnC t s w B v n us cs) : ∃ A c, v = .slice A n c := by
  rcases h.row.2 with ⟨e, h0⟩ | ⟨g, cap, cur, e, _⟩
  · exact ⟨none, 0, by rw [e, h0]⟩
  · exact ⟨_, _, e⟩
theorem OwnC.total (h : OwnC t s w B v n us cs) : us.length = n * s := h.row.1
theorem OwnC.head {A : Option Addr} {m c : Nat} (h : OwnC t s w B (.slice A m c) n us cs) (h0 : 0 < n) : ∃ g, A = some ⟨g, 0, none⟩ ∧ m = n ∧ B ≤ g ∧ g < w.heap.size := by
  rcases h.row.2 with ⟨e, h1⟩ | ⟨g, cap, cur, e, hg, hh, -⟩
  · omega
  · simp only [Value.slice.injEq] at e
    obtain ⟨rfl, rfl, rfl⟩ := e
    exact ⟨g, rfl, rfl, hg, (Array.getElem?_eq_some_iff.1 hh).1⟩
theorem OwnC.cell {g m c : Nat} (h : OwnC t s w B (.slice (some ⟨g, 0, none⟩) m c) n us cs) (j : Nat) (hj : j < us.length) : w.cell? ⟨g, j, none⟩ = some us[j] := by
  have hn : m = n := by
    rcases h.row.2 with ⟨e, h0⟩ | ⟨g', cap, cur, e, _⟩
    · cases e
    · simp only [Value.slice.injEq] at e; exact e.2.1
  subst hn
  rw [h.row.cellAt j (by rw [← h.total]; exact hj)]
  exact List.getElem?_eq_getElem hj
theorem OwnC.free {g m c : Nat} (h : OwnC t s w B (.slice (some ⟨g, 0, none⟩) m c) n us cs) (j : Nat) : w.frozen? ⟨g, j, none⟩ = false := by
  have hn : m = n := by
    rcases h.row.2 with ⟨e, h0⟩ | ⟨g', cap, cur, e, _⟩
    · cases e
    · simp only [Value.slice.injEq] at e; exact e.2.1
  subst hn
  exact h.row.frozenAt j
theorem OwnC.lt (h : OwnC t s w B v n us cs) : ∀ u ∈ us, ∀ k, u.ownBlock = some k → B ≤ k ∧ k < w.heap.size := fun u hu => h.seg.2 u hu
theorem OwnC.seen (h : OwnC t s w B v n us cs) : RowV s w v n cs := by
  have hrow := h.row
  refine ⟨by rw [← h.len]; exact h.total, ?_⟩
  rcases h.row.2 with ⟨e, h0⟩ | ⟨g, cap, cur, e, hg, hh, hn, hc, hs, ht⟩
  · exact ⟨none, 0, by rw [e, h0], by omega, by unfold maxLen; omega, fun h1 => by omega⟩
  · subst e
    refine ⟨_, _, rfl, hn, hc, fun h0 => ⟨g, 0, rfl, (Array.getElem?_eq_some_iff.1 hh).1, fun j c hx => ?_⟩⟩
    have hj : j < us.length := by have := (List.getElem?_eq_some_iff.1 hx).1; rw [h.len]; exact this
    refine ⟨us[j], ?_, (h.cells j _ c (List.getElem?_eq_getElem hj) hx).seen⟩
    rw [Nat.zero_add]
    exact h.cell j hj
/-- One row of numbers is written; its block alone. -/
theorem OwnC.set (h : OwnC t s w B v n us cs) {i : Nat} {u : Value} {ys : List Int} (hu : us[i]? = some u) (ho : Own w' B u ys) (hg : w.grownBy w' u.ownBlock) : OwnC t s w' B v n us (cs.set i (.row ys)) := by
  refine ⟨by rw [List.length_set]; exact h.len, ?_, fun j u' c hu' hx => ?_, h.apart, h.off⟩
  · exact World.ownsRow.kept h.row hg (h.off i u hu).ne
  · by_cases hij : i = j
    · subst hij
      have e : u' = u := by rw [hu] at hu'; exact (Option.some.inj hu').symm
      have hi : i < cs.length := by have := (List.getElem?_eq_some_iff.1 hx).1; simpa using this
      rw [List.getElem?_set_self (by simpa using hi)] at hx
      rw [e, ← Option.some.inj hx]
      exact ho
    · rw [List.getElem?_set_ne hij] at hx
      exact (h.cells j u' c hu' hx).grown hg (h.apart j i u' u (Ne.symm hij) hu' hu).ne
/-- One cell gets a new value. -/
theorem OwnC.put {g c m : Nat} (h : OwnC t s w B (.slice (some ⟨g, 0, none⟩) m c) n us cs) (i : Nat) {u : Value} {d : Cl} (ho : CellO w B u d) (hv : Sep (.slice (some ⟨g, 0, none⟩) m c) u)
    (hs : ∀ (j : Nat) (u' : Value), us[j]? = some u' → Sep u' u) : OwnC t s (w.setCell ⟨g, i, none⟩ u) B (.slice (some ⟨g, 0, none⟩) m c) n (us.set i u) (cs.set i d) := by
  have hn : m = n := by
    rcases h.row.2 with ⟨e, h0⟩ | ⟨g', cap, cur, e, _⟩
    · cases e
    · simp only [Value.slice.injEq] at e; exact e.2.1
  subst hn
  have hne : ∀ (u' : Value), Sep (.slice (some ⟨g, 0, none⟩) m c) u' → ∀ k, u'.ownBlock = some k → k ≠ g := fun u' h k hk e => h k (by rw [e]; rfl) hk
  refine ⟨by rw [List.length_set, List.length_set]; exact h.len, (h.row.stored i u).1, fun j u' x hu' hx => ?_, fun a b x y hab hx hy => ?_, fun j u' hu' => ?_⟩
  · by_cases hij : i = j
    · subst hij
      have hi : i < us.length := by have := (List.getElem?_eq_some_iff.1 hu').1; simpa using this
      have hi2 : i < cs.length := by rw [← h.len]; exact hi
      rw [List.getElem?_set_self hi] at hu'
      rw [List.getElem?_set_self hi2] at hx
      rw [← Option.some.inj hu', ← Option.some.inj hx]
      exact ho.off (hne u hv) u
    · rw [List.getElem?_set_ne hij] at hu' hx
      exact (h.cells j u' x hu' hx).off (hne u' (h.off j u' hu')) u
  · by_cases ha : i = a
    · subst ha
      rw [List.getElem?_set_ne hab] at hy
      have hi : i < us.length := by have := (List.getElem?_eq_some_iff.1 hx).1; simpa using this
      rw [List.getElem?_set_self hi] at hx
      rw [← Option.some.inj hx]
      exact (hs b y hy).symm
    · rw [List.getElem?_set_ne ha] at hx
      by_cases hb : i = b
      · subst hb
        have hi : i < us.length := by have := (List.getElem?_eq_some_iff.1 hy).1; simpa using this
        rw [List.getElem?_set_self hi] at hy
        rw [← Option.some.inj hy]
        exact hs a x hx
      · rw [List.getElem?_set_ne hb] at hy
        exact h.apart a b x y hab hx hy
  · by_cases hij : i = j
    · subst hij
      have hi : i < us.length := by have := (List.getElem?_eq_some_iff.1 hu').1; simpa using this
      rw [List.getElem?_set_self hi] at hu'
      rw [← Option.some.inj hu']
      exact hv
    · rw [List.getElem?_set_ne hij] at hu'
      exact h.off j u' hu'
theorem Sep.num_right (v : Value) (k : IntKind) (x : Int) : Sep v (.int k x) := fun _ _ h => by cases h
theorem Sep.bit_right (v : Value) (b : Bool) : Sep v (.bool b) := fun _ _ h => by cases h
/-- A number is written. -/
theorem OwnC.putN {g c m : Nat} (h : OwnC t s w B (.slice (some ⟨g, 0, none⟩) m c) n us cs) (i : Nat) (x : Int) : OwnC t s (w.setCell ⟨g, i, none⟩ (.int .i64 x)) B (.slice (some ⟨g, 0, none⟩) m c) n (us.set i (.int .i64 x)) (cs.set i (.num x)) :=
  h.put i (d := .num x) rfl (Sep.num_right _ _ _) fun _ _ _ => Sep.num_right _ _ _
theorem OwnC.putB {g c m : Nat} (h : OwnC t s w B (.slice (some ⟨g, 0, none⟩) m c) n us cs) (i : Nat) (x : Bool) : OwnC t s (w.setCell ⟨g, i, none⟩ (.bool x)) B (.slice (some ⟨g, 0, none⟩) m c) n (us.set i (.bool x)) (cs.set i (.bit x)) :=
  h.put i (d := .bit x) rfl (Sep.bit_right _ _) fun _ _ _ => Sep.bit_right _ _
end

/-! ### Records of one kind -/
def flatR {α : Type} (enc : α → List Cl) (xs : List α) : List Cl := xs.flatMap enc
section
variable {α : Type} {enc : α → List Cl} {s : Nat}
theorem flatR_length (he : ∀ x, (enc x).length = s) (xs : List α) : (flatR enc xs).length = xs.length * s := by
  induction xs with
  | nil => simp [flatR]
  | cons x xs ih => simp only [flatR, List.flatMap_cons, List.length_append, List.length_cons] at ih ⊢; rw [ih, he, Nat.succ_mul]; omega
theorem flatR_get (he : ∀ x, (enc x).length = s) (xs : List α) (k j : Nat) (hk : k < xs.length) (hj : j < s) : (flatR enc xs)[k * s + j]? = (enc xs[k])[j]? := by
  induction xs generalizing k with
  | nil => simp at hk
  | cons x xs ih =>
    simp only [flatR, List.flatMap_cons] at ih ⊢
    cases k with
    | zero => simp only [Nat.zero_mul, Nat.zero_add, List.getElem_cons_zero]; rw [List.getElem?_append_left (by rw [he]; exact hj)]
    | succ k =>
      rw [List.getElem?_append_right (by rw [he, Nat.succ_mul]; omega), he]
      have : (k + 1) * s + j - s = k * s + j := by rw [Nat.succ_mul]; omega
      rw [this]
      simp only [List.getElem_cons_succ]
      exact ih k (by simpa using hk)
/-- The first k records, zeros behind them. -/
def upR (enc : α → List Cl) (z : List Cl) (xs : List α) (k : Nat) : List Cl := flatR enc (xs.take k) ++ (List.replicate (xs.length - k) z).flatten
theorem upR_all (z : List Cl) (xs : List α) : upR enc z xs xs.length = flatR enc xs := by simp [upR]
theorem upR_zero (z : List Cl) (xs : List α) : upR enc z xs 0 = (List.replicate xs.length z).flatten := by simp [upR, flatR]
theorem upR_length (he : ∀ x, (enc x).length = s) {z : List Cl} (hz : z.length = s) (xs : List α) (k : Nat) (hk : k ≤ xs.length) : (upR enc z xs k).length = xs.length * s := by
  unfold upR
  have e : ((List.replicate (xs.length - k) z).flatten).length = (xs.length - k) * s := by simp [List.length_flatten, hz]
  rw [List.length_append, flatR_length he, List.length_take, Nat.min_eq_left hk, e, ← Nat.add_mul]
  congr 1
  omega
theorem upR_split (z : List Cl) (xs : List α) (k : Nat) (hk : k < xs.length) : upR enc z xs k = flatR enc (xs.take k) ++ (z ++ (List.replicate (xs.length - (k + 1)) z).flatten) := by
  unfold upR
  have : xs.length - k = (xs.length - (k + 1)) + 1 := by omega
  rw [this, List.replicate_succ, List.flatten_cons]
theorem upR_next (z : List Cl) (xs : List α) (k : Nat) (hk : k < xs.length) : upR enc z xs (k + 1) = flatR enc (xs.take k) ++ (enc xs[k] ++ (List.replicate (xs.length - (k + 1)) z).flatten) := by
  unfold upR
  rw [List.take_succ_eq_append_getElem hk]
  simp only [flatR, List.flatMap_append, List.flatMap_cons, List.flatMap_nil, List.append_nil, List.append_assoc]
/-- The numbers of the cells of the record k. -/
theorem upR_at (he : ∀ x, (enc x).length = s) (xs : List α) (k : Nat) (hk : k < xs.length) : (flatR enc (xs.take k)).length = k * s := by
  rw [flatR_length he, List.length_take, Nat.min_eq_left (by omega)]
end
theorem set_behind {α : Type} (p q : List α) (n j : Nat) (x : α) (hp : p.length = n) : (p ++ q).set (n + j) x = p ++ q.set j x := by
  subst hp
  rw [List.set_append_right _ _ (by omega)]
  congr 2
  omega

/-- How much the first k records count. -/
def wTo {α : Type} (f : α → Nat) (xs : List α) (k : Nat) : Nat := ((xs.take k).map f).sum
section
variable {α : Type} (f : α → Nat)
theorem wTo_succ (xs : List α) (k : Nat) (hk : k < xs.length) : wTo f xs (k + 1) = wTo f xs k + f xs[k] := by
  unfold wTo
  rw [List.take_succ_eq_append_getElem hk, List.map_append, List.sum_append]
  simp
theorem wTo_mono (xs : List α) (i j : Nat) (h : i ≤ j) (hj : j ≤ xs.length) : wTo f xs i ≤ wTo f xs j := by
  induction j with
  | zero => (obtain rfl : i = 0 := (by omega)); exact Nat.le_refl _
  | succ j ih =>
    rcases Nat.lt_or_ge i (j + 1) with h1 | h1
    · have := ih (by omega) (by omega)
      rw [wTo_succ f xs j (by omega)]; omega
    · (obtain rfl : i = j + 1 := (by omega)); exact Nat.le_refl _
theorem wTo_le {xs : List α} {k : Nat} (hk : k < xs.length) : wTo f xs k + f xs[k] ≤ wTo f xs xs.length := by
  rw [← wTo_succ f xs k hk]
  exact wTo_mono f xs _ _ (by omega) (Nat.le_refl _)
end
/-- The size of records: their number and the lengths of their rows. -/
def szR {α : Type} (f : α → Nat) (xs : List α) : Nat := xs.length + wTo f xs xs.length

/-- The same cells, but for the numbers in them. -/
def SameC (cs ds : List Cl) : Prop := ds.length = cs.length ∧ (∀ (j : Nat) (xs : List Int), cs[j]? = some (.row xs) → ∃ ys : List Int, ds[j]? = some (.row ys) ∧ ys.length = xs.length)
theorem SameC.refl (cs : List Cl) : SameC cs cs := ⟨rfl, fun _ xs h => ⟨xs, h, rfl⟩⟩
theorem SameC.row {cs ds : List Cl} (h : SameC cs ds) {i : Nat} {xs ys : List Int} (hx : cs[i]? = some (.row xs)) (hl : ys.length = xs.length) : SameC cs (ds.set i (.row ys)) := by
  refine ⟨by rw [List.length_set]; exact h.1, fun j zs hz => ?_⟩
  by_cases hij : i = j
  · subst hij
    have hi : i < ds.length := by rw [h.1]; exact (List.getElem?_eq_some_iff.1 hx).1
    rw [hx] at hz
    injection hz with hz
    injection hz with hz
    exact ⟨ys, by rw [List.getElem?_set_self hi], by rw [← hz]; exact hl⟩
  · rw [List.getElem?_set_ne hij]
    exact h.2 j zs hz
theorem SameC.num {cs ds : List Cl} (h : SameC cs ds) {i : Nat} {d x : Cl} (hx : cs[i]? = some x) (hn : ∀ xs, x ≠ .row xs) : SameC cs (ds.set i d) := by
  refine ⟨by rw [List.length_set]; exact h.1, fun j zs hz => ?_⟩
  by_cases hij : i = j
  · subst hij
    rw [hx] at hz
    injection hz with hz
    exact absurd hz (hn zs)
  · rw [List.getElem?_set_ne hij]
    exact h.2 j zs hz
theorem SegL.set {v : Value} {us : List Value} {lo hi : Nat} (h : SegL v us lo hi) (i : Nat) {u : Value} (hu : Seg u lo hi) : SegL v (us.set i u) lo hi :=
  ⟨h.1, fun x hx => by 
    rcases List.mem_or_eq_of_mem_set hx with h1 | h1
    · exact h.2 x h1
    · exact h1 ▸ hu⟩
theorem Seg.num (k : IntKind) (x : Int) (lo hi : Nat) : Seg (.int k x) lo hi := fun _ h => by cases h
theorem Seg.bit (b : Bool) (lo hi : Nat) : Seg (.bool b) lo hi := fun _ h => by cases h

end Go.Proofs.Ytldblcolnjkcaaa
