/- Rows of records: a record is stored whole, the first k are stored, marks. No conditions. -/
import Derived.Test.YtfiphjifnjnmbaaRR
namespace Go.Proofs.Ytfiphjifnjnmbaa
open Go.RowKit

def storeAll (w : World) (g : Nat) : Nat → List Value → World
  | _, [] => w
  | i, v :: r => storeAll (w.setCell ⟨g, i, none⟩ v) g (i + 1) r
def putAll {α : Type} (xs : List α) : Nat → List α → List α
  | _, [] => xs
  | i, y :: r => putAll (xs.set i y) (i + 1) r
theorem putAll_mid {α : Type} (r : List α) : ∀ (q p rest : List α) (n : Nat), p.length = n → q.length = r.length → putAll (p ++ (q ++ rest)) n r = p ++ (r ++ rest) := by
  induction r with
  | nil => intro q p rest n hp hq; rw [List.eq_nil_of_length_eq_zero (show q.length = 0 by simpa using hq)]; rfl
  | cons c r ih =>
    intro q p rest n hp hq
    cases q with
    | nil => simp at hq
    | cons d q =>
      have e : (p ++ (d :: q ++ rest)).set n c = (p ++ [c]) ++ (q ++ rest) := by
        subst hp
        rw [List.set_append_right _ _ (Nat.le_refl _), Nat.sub_self]
        simp
      show putAll ((p ++ (d :: q ++ rest)).set n c) (n + 1) r = _
      rw [e, ih q (p ++ [c]) rest (n + 1) (by simp [hp]) (by simpa using hq)]
      simp
theorem upR_put {α : Type} {enc : α → List Cl} {s : Nat} (he : ∀ x, (enc x).length = s) {z : List Cl} (hz : z.length = s) (xs : List α) (k : Nat) (hk : k < xs.length) :
    putAll (upR enc z xs k) (k * s) (enc xs[k]) = upR enc z xs (k + 1) := by
  rw [upR_split z xs k hk, upR_next z xs k hk]
  exact putAll_mid _ _ _ _ _ (upR_at he xs k hk) (by rw [hz, he])
theorem below_store {N : Nat} {w : World} {g : Nat} (hg : N ≤ g) : ∀ (vs : List Value) (i : Nat) (w' : World), Below N w w' → Below N w (storeAll w' g i vs)
  | [], _, _, h => h
  | v :: r, i, w', h => below_store hg r (i + 1) (w'.setCell ⟨g, i, none⟩ v) (h.setCell (p := ⟨g, i, none⟩) hg v)
theorem OwnC.store {t : TypeId} {s n m c g B : Nat} : ∀ (vs : List Value) (ds : List Cl) (i : Nat) (w : World) (us : List Value) (cs : List Cl), OwnC t s w B (.slice (some ⟨g, 0, none⟩) m c) n us cs →
    vs.length = ds.length → (∀ (j : Nat) (v : Value) (d : Cl), vs[j]? = some v → ds[j]? = some d → CellO w B v d) → (∀ v ∈ vs, Sep (.slice (some ⟨g, 0, none⟩) m c) v) → (∀ (j : Nat) u', us[j]? = some u' → ∀ v ∈ vs, Sep u' v) → vs.Pairwise Sep →
    ∃ us', OwnC t s (storeAll w g i vs) B (.slice (some ⟨g, 0, none⟩) m c) n us' (putAll cs i ds)
  | [], ds, i, w, us, cs, h, hl, _, _, _, _ => by
    rw [List.eq_nil_of_length_eq_zero (show ds.length = 0 by simpa using hl.symm)]
    exact ⟨us, h⟩
  | v :: r, [], _, _, _, _, _, hl, _, _, _, _ => by simp at hl
  | v :: r, d :: ds, i, w, us, cs, h, hl, hc, hv, hu, hp => by
    have h1 := h.put i (hc 0 v d rfl rfl) (hv v (List.mem_cons_self ..)) (fun j u' hj => hu j u' hj v (List.mem_cons_self ..))
    refine OwnC.store r ds (i + 1) _ _ _ h1 (by simpa using hl) (fun j x y hx hy => (hc (j + 1) x y (by simpa using hx) (by simpa using hy)).off (fun k hk e => ?_) v) (fun x hx => hv x (List.mem_cons_of_mem _ hx)) (fun j u' hj x hx => ?_) (List.pairwise_cons.1 hp).2
    · exact hv x (List.mem_cons_of_mem _ (List.mem_of_getElem? hx)) k (by rw [e]; rfl) hk
    · by_cases hij : i = j
      · subst hij
        have hi : i < us.length := by have := (List.getElem?_eq_some_iff.1 hj).1; simpa using this
        rw [List.getElem?_set_self hi] at hj
        rw [← Option.some.inj hj]
        exact (List.pairwise_cons.1 hp).1 x hx
      · rw [List.getElem?_set_ne hij] at hj
        exact hu j u' hj x (List.mem_cons_of_mem _ hx)
theorem Sep.num_left (v : Value) (k : IntKind) (x : Int) : Sep (.int k x) v := fun _ h => by cases h
theorem Sep.bit_left (v : Value) (b : Bool) : Sep (.bool b) v := fun _ h => by cases h
/-- Zeros of records. -/
theorem toList_madeCells_any (cs : Array Value) (n : Nat) (h0 : 0 < cs.size) : (madeCells cs (n * cs.size)).toList = (List.replicate n cs.toList).flatten := by
  have hl : ((List.replicate n cs.toList).flatten).length = n * cs.size := by simp [List.length_flatten]
  have key : ∀ (m j : Nat), j < m * cs.size → ((List.replicate m cs.toList).flatten)[j]? = cs.toList[j % cs.size]? := by
    intro m
    induction m with
    | zero => intro j hj; omega
    | succ m ih =>
      intro j hj
      rw [List.replicate_succ, List.flatten_cons]
      by_cases hlt : j < cs.size
      · rw [List.getElem?_append_left (by simpa using hlt), Nat.mod_eq_of_lt hlt]
      · have hge : cs.size ≤ j := by omega
        rw [List.getElem?_append_right (by simpa using hge), Array.length_toList, ih (j - cs.size) (by rw [Nat.succ_mul] at hj; omega), ← Nat.mod_eq_sub_mod hge]
  apply List.ext_getElem?
  intro j
  by_cases hj : j < n * cs.size
  · rw [key n j hj]
    have hm : j % cs.size < cs.size := Nat.mod_lt _ h0
    simp [madeCells, hj, hm]
  · have hl2 : ((madeCells cs (n * cs.size)).toList).length = n * cs.size := by rw [Array.length_toList, size_madeCells]
    rw [List.getElem?_eq_none (by rw [hl2]; omega), List.getElem?_eq_none (by rw [hl]; omega)]
/-- Zeros. -/
def zeroV : Cl → Value
  | .num _ => .int .i64 0
  | .bit _ => .bool false
  | .row _ => .slice none 0 0
def isZero : Cl → Prop
  | .num n => n = 0
  | .bit b => b = false
  | .row xs => xs = []
theorem zero_cell (w : World) (B : Nat) {c : Cl} (h : isZero c) : CellO w B (zeroV c) c := by
  cases c with
  | num n => have e : n = 0 := h; subst e; rfl
  | bit b => have e : b = false := h; subst e; rfl
  | row xs => have e : xs = [] := h; subst e; exact Own.nil w B
theorem zero_sep (v : Value) (c : Cl) : Sep v (zeroV c) := fun k _ h => by cases c <;> cases h
theorem replicate_map {α β : Type} (f : α → β) (n : Nat) (z : List α) : (List.replicate n (z.map f)).flatten = ((List.replicate n z).flatten).map f := by
  induction n with
  | zero => rfl
  | succ n ih => rw [List.replicate_succ, List.replicate_succ, List.flatten_cons, List.flatten_cons, List.map_append, ih]
theorem OwnC.zeros {t : TypeId} {s n : Nat} {w : World} {B : Nat} {v : Value} (z : List Cl) (hz : ∀ c ∈ z, isZero c) (h : w.ownsRow B t s v n ((List.replicate n (z.map zeroV)).flatten)) :
    OwnC t s w B v n ((List.replicate n (z.map zeroV)).flatten) ((List.replicate n z).flatten) := by
  rw [replicate_map] at h ⊢
  have hm : ∀ c ∈ (List.replicate n z).flatten, isZero c := fun c hc => by
    obtain ⟨l, hl, hc⟩ := List.mem_flatten.1 hc
    rw [(List.mem_replicate.1 hl).2] at hc
    exact hz c hc
  refine ⟨by simp, h, fun j u c hu hc => ?_, fun i j u u' _ hu hu' => ?_, fun j u hu => ?_⟩
  · rw [List.getElem?_map, hc] at hu
    rw [← Option.some.inj hu]
    exact zero_cell w B (hm c (List.mem_of_getElem? hc))
  · rw [List.getElem?_map] at hu'
    cases hc : ((List.replicate n z).flatten)[j]? with
    | none => rw [hc] at hu'; cases hu'
    | some c => rw [hc] at hu'; rw [← Option.some.inj hu']; exact zero_sep u c
  · rw [List.getElem?_map] at hu
    cases hc : ((List.replicate n z).flatten)[j]? with
    | none => rw [hc] at hu; cases hu
    | some c => rw [hc] at hu; rw [← Option.some.inj hu]; exact zero_sep v c
/-- make([]T, n) of records. -/
theorem mkR {ops : Array Oper} {rest : List Oper} {o : Oper} {a : Act} {Q : Exit → Act → World → Prop} (w : World) (hg : o.guard = none) (l c : Operand) (ty : TypeId) (hop : o.op = Op.makeSlice ty l c) (n : Nat)
    (t : TypeId) (z : List Cl) (hz : ∀ c ∈ z, isZero c) (hz0 : 0 < z.length) (zv : Value) (by_ : Nat) (hb : by_ ≤ 128) (hty : Try.prog.underlying ty = some (.slice t)) (hi : (Try.prog.info? t).map (fun i => (i.zero, i.size, i.bytes)) = some (some zv, z.length, by_)) (hzv : zv.cells.toList = z.map zeroV)
    (hl : a.eval l = .int .i64 n) (hc : a.eval c = .int .i64 n) (hn : n ≤ 1000000000)
    (hK : ∀ w', OwnC t z.length w' w.heap.size (.slice (some ⟨w.heap.size, 0, none⟩) n n) n ((List.replicate n (z.map zeroV)).flatten) ((List.replicate n z).flatten) → Below w.heap.size w w' → w.heap.size < w'.heap.size → wpList Try.prog ops Q rest (a.put o.dst (.slice (some ⟨w.heap.size, 0, none⟩) n n)) w') :
    wpList Try.prog ops Q (o :: rest) a w := by
  obtain ⟨i0, hi, hz0', hz1, hz2⟩ := info_parts hi
  refine wpList_make_full (P := Try.prog) w hg l c ty hop w.heap.size t i0 zv z.length hty hi hz0' hz1 .i64 .i64 n n n hl hc rfl rfl (by rw [hz2]; have := Nat.mul_le_mul hb hn; omega) (by unfold maxLen; omega) (Nat.le_refl _) ?_
  intro w' h1 h2
  have hs : zv.cells.size = z.length := by rw [← Array.length_toList, hzv, List.length_map]
  rw [← hs, toList_madeCells_any _ _ (by omega), hzv, hs] at h1
  exact hK w' (OwnC.zeros z hz h1) ((Below.refl _ _).grown h2 (Nat.le_refl _) (fun k h => by cases h)) (World.ownsRow.lt h1 _ rfl).2
theorem Chg.store {w : World} {g i lo hi : Nat} (u : Value) (h1 : lo ≤ g) (h2 : g < hi) : Chg lo hi w (w.setCell ⟨g, i, none⟩ u) :=
  Chg.of_grown (v := .slice (some ⟨g, 0, none⟩) 0 0) (grown_set w ⟨g, i, none⟩ u) (fun k e => by
    have e2 : g = k := by simpa [Value.ownBlock] using e
    omega)
/-- The row of numbers in a cell. -/
theorem OwnC.rowAt {t : TypeId} {s n m c g B : Nat} {w : World} {us : List Value} {cs ds : List Cl} (h : OwnC t s w B (.slice (some ⟨g, 0, none⟩) m c) n us ds) (hs : SameC cs ds) {i : Nat} {xs : List Int} (hx : cs[i]? = some (.row xs)) :
    ∃ u ys, us[i]? = some u ∧ w.cell? ⟨g, i, none⟩ = some u ∧ ys.length = xs.length ∧ Own w B u ys := by
  obtain ⟨ys, hy, hl⟩ := hs.2 i xs hx
  have hi : i < us.length := by rw [h.len]; exact (List.getElem?_eq_some_iff.1 hy).1
  exact ⟨us[i], ys, List.getElem?_eq_getElem hi, h.cell i hi, hl, h.cells i _ _ (List.getElem?_eq_getElem hi) hy⟩
/-- A number in a cell. -/
theorem OwnC.cellAt {t : TypeId} {s n m c g B : Nat} {w : World} {us : List Value} {cs ds : List Cl} (h : OwnC t s w B (.slice (some ⟨g, 0, none⟩) m c) n us ds) (hs : SameC cs ds) {i : Nat} {x : Cl} (hx : cs[i]? = some x) :
    ∃ u, us[i]? = some u ∧ w.cell? ⟨g, i, none⟩ = some u := by
  have hi : i < us.length := by rw [h.len, hs.1]; exact (List.getElem?_eq_some_iff.1 hx).1
  exact ⟨us[i], List.getElem?_eq_getElem hi, h.cell i hi⟩

end Go.Proofs.Ytfiphjifnjnmbaa
