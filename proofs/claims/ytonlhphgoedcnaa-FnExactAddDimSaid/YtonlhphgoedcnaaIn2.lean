/- Contract: slices.Insert of one number into an owned row. No conditions. -/
import Derived.Test.YtonlhphgoedcnaaIn1
import Derived.Test.YtonlhphgoedcnaaHp
namespace Go.Proofs.Ytonlhphgoedcnaa
open Go.RowKit

/-- An array with some cells overwritten, from o on. -/
def setArr (cur : Array Value) (o : Nat) : List Value → Array Value
  | [] => cur
  | v :: vs => setArr (cur.setIfInBounds o v) (o + 1) vs
theorem setArr_size (vs : List Value) : ∀ (cur : Array Value) (o : Nat), (setArr cur o vs).size = cur.size := by
  induction vs with
  | nil => intro _ _; rfl
  | cons v vs ih => intro cur o; rw [setArr, ih]; simp
theorem setArr_get (vs : List Value) : ∀ (cur : Array Value) (o : Nat), o + vs.length ≤ cur.size → ∀ k, (setArr cur o vs)[k]? = if o ≤ k ∧ k < o + vs.length then vs[k - o]? else cur[k]? := by
  induction vs with
  | nil => intro cur o _ k; simp [setArr]; intro h1 h2; omega
  | cons v vs ih =>
    intro cur o h k
    simp only [List.length_cons] at h ⊢
    rw [setArr, ih _ _ (by simp; omega)]
    by_cases hk : k = o
    · subst hk
      rw [if_neg (by omega), if_pos (by omega), Nat.sub_self, List.getElem?_cons_zero, Array.getElem?_setIfInBounds_self_of_lt (by omega)]
    · by_cases h2 : o + 1 ≤ k ∧ k < o + 1 + vs.length
      · rw [if_pos h2, if_pos (by omega)]
        rw [show k - o = (k - (o + 1)) + 1 by omega, List.getElem?_cons_succ]
      · rw [if_neg h2, if_neg (by omega), Array.getElem?_setIfInBounds_ne (Ne.symm hk)]
theorem setCells_block (g : Nat) (T : TypeId) (vs : List Value) : ∀ (w : World) (o : Nat) (cur : Array Value), w.heap[g]? = some (.cells cur T (0, 0)) → (w.setCells g o vs).heap[g]? = some (.cells (setArr cur o vs) T (0, 0)) ∧ w.grownBy (w.setCells g o vs) (some g) := by
  induction vs with
  | nil => intro w o cur h; exact ⟨by simpa [World.setCells, setArr] using h, by simpa [World.setCells] using World.grownBy.refl w _⟩
  | cons v vs ih =>
    intro w o cur h
    have h1 := heap_setCell_same w g o cur T v h
    have h2 := ih (w.setCell ⟨g, o, none⟩ v) (o + 1) _ h1
    exact ⟨by simpa [World.setCells, setArr] using h2.1, (grown_set w ⟨g, o, none⟩ v).trans (by simpa [World.setCells] using h2.2)⟩
def insAt (xs : List Int) (i : Nat) (x : Int) : List Int := xs.take i ++ x :: xs.drop i
theorem insAt_length (xs : List Int) (i : Nat) (x : Int) (h : i ≤ xs.length) : (insAt xs i x).length = xs.length + 1 := by simp [insAt]; omega
theorem insAt_end (xs : List Int) (x : Int) : insAt xs xs.length x = xs ++ [x] := by simp [insAt]
/-- The cells of the longer row. -/
theorem ins_cells {cur : Array Value} {xs : List Int} {i : Nat} {x : Int} (hi : i ≤ xs.length) (hn : xs.length + 1 ≤ cur.size) (hc : cur.toList.take i = (xs.take i).map (Value.int .i64)) :
    (setArr (setArr cur i [Value.int .i64 x]) (i + 1) ((xs.drop i).map (Value.int .i64))).toList.take (xs.length + 1) = (insAt xs i x).map (Value.int .i64) := by
  apply List.ext_getElem?
  intro k
  rw [List.getElem?_take, Array.getElem?_toList, setArr_get _ _ _ (by rw [setArr_size]; simp; omega), setArr_get _ _ _ (by simp; omega)]
  simp only [List.length_map, List.length_drop, List.length_cons, List.length_nil, List.getElem?_map, List.getElem?_drop, insAt]
  by_cases h1 : k < i
  · rw [if_pos (by omega), if_neg (by omega), if_neg (by omega), List.getElem?_append_left (by rw [List.length_take]; omega)]
    have := congrArg (fun l => l[k]?) hc
    simp only [List.getElem?_take, if_pos h1, List.getElem?_map, Array.getElem?_toList] at this
    rw [this, List.getElem?_take, if_pos h1]
  · rw [List.getElem?_append_right (by rw [List.length_take]; omega), List.length_take, Nat.min_eq_left hi]
    by_cases h2 : k = i
    · subst h2
      rw [if_pos (by omega), if_neg (by omega), if_pos (by omega)]
      simp
    · by_cases h3 : k < xs.length + 1
      · rw [if_pos h3, if_pos (by omega), show k - i = (k - (i + 1)) + 1 by omega, List.getElem?_cons_succ, List.getElem?_drop]
      · rw [if_neg h3, show k - i = (k - (i + 1)) + 1 by omega, List.getElem?_cons_succ, List.getElem?_drop, List.getElem?_eq_none (by omega)]
        rfl
/-- The same, the tail moved first. -/
theorem ins_cells2 {cur : Array Value} {xs : List Int} {i : Nat} {x : Int} (hi : i ≤ xs.length) (hn : xs.length + 1 ≤ cur.size) (hc : cur.toList.take i = (xs.take i).map (Value.int .i64)) :
    (setArr (setArr cur (i + 1) ((xs.drop i).map (Value.int .i64))) i [Value.int .i64 x]).toList.take (xs.length + 1) = (insAt xs i x).map (Value.int .i64) := by
  rw [← ins_cells hi hn hc]
  congr 1
  apply List.ext_getElem?
  intro k
  rw [Array.getElem?_toList, Array.getElem?_toList, setArr_get _ _ _ (by rw [setArr_size]; simp; omega), setArr_get _ _ _ (by simp; omega), setArr_get _ _ _ (by rw [setArr_size]; simp; omega), setArr_get _ _ _ (by simp; omega)]
  simp only [List.length_map, List.length_drop, List.length_cons, List.length_nil]
  by_cases h1 : k = i
  · subst h1
    rw [if_pos (by omega), if_neg (by omega), if_pos (by omega)]
  · rw [if_neg (by omega)]
    by_cases h2 : i + 1 ≤ k ∧ k < i + 1 + (xs.length - i)
    · rw [if_pos h2, if_pos h2]
    · rw [if_neg h2, if_neg h2, if_neg (by omega)]
theorem Own.of_block {w : World} {B g n cap : Nat} {cur : Array Value} {ys : List Int} (h : w.heap[g]? = some (.cells cur 3 (0, 0))) (hB : B ≤ g) (hn : n = ys.length) (hc : n ≤ cap) (hm : cap ≤ maxLen) (hs : cur.size = cap)
    (ht : cur.toList.take n = ys.map (Value.int .i64)) : Own w B (.slice (some ⟨g, 0, none⟩) n cap) ys := by
  subst hn
  exact ⟨by simp, .inr ⟨g, cap, cur, rfl, hB, h, hc, hm, by omega, by rw [Nat.mul_one]; exact ht⟩⟩

theorem ints_cells {cur : Array Value} {xs : List Int} (ht : cur.toList.take xs.length = xs.map (Value.int .i64)) {j : Nat} (hj : j < xs.length) : cur[j]? = some (.int .i64 xs[j]) := by
  have := congrArg (fun l => l[j]?) ht
  simp only [List.getElem?_take, if_pos hj, List.getElem?_map, Array.getElem?_toList, List.getElem?_eq_getElem hj, Option.map_some] at this
  exact this
theorem Ints.elemP {W : World} {A : Option Addr} {c n : Nat} {xs : List Int} (h : Ints W (.slice A n c) xs) (k : Nat) (hk : k < xs.length) :
    ∃ b off, A = some ⟨b, off, none⟩ ∧ W.cell? ⟨b, off + k, none⟩ = some (.int .i64 xs[k]) := by
  obtain ⟨A', c', e, -, -, h3⟩ := h
  simp only [Value.slice.injEq] at e
  obtain ⟨rfl, rfl, rfl⟩ := e
  obtain ⟨b, off, e, hb, hc⟩ := h3 (by omega)
  exact ⟨b, off, e, hc k _ (by simp [hk])⟩
theorem below_grown {w w' : World} {row : Option Nat} (h : Below w.heap.size w w') : w.grownBy w' row := ⟨h.os, h.tape, h.output, h.size, fun k hk _ => h.block k hk⟩
theorem shape_of {w : World} {g : Nat} {T : TypeId} {cs : Array Value} (h : Blk w g T cs) : w.shape? g = some (T, cs.size) := by
  unfold World.shape?
  rw [show w.heap[g]? = some (.cells cs T (0, 0)) from h]
set_option maxRecDepth 100000 in
set_option maxHeartbeats 6400000 in
theorem Insert_any (A : Option Addr) (c : Nat) (xs : List Int) (B : Nat) (w : World) (h : Own w B (.slice A xs.length c) xs) (hB : B ≤ w.heap.size) (i : Nat) (hi : i ≤ xs.length) (hl : xs.length ≤ 1000) (g : Nat) (x : Int)
    (hx : Blk w g 3 #[.int .i64 x]) (hgv : ∀ k, (Value.slice A xs.length c).ownBlock = some k → k ≠ g) :
    Calls Try.prog 92 #[.slice A xs.length c, .int .i64 i, .slice (some ⟨g, 0, none⟩) 1 1] w fun e w' =>
      ∃ v', e = .returned v' ∧ Own w' B v' (insAt xs i x) ∧ w.grownBy w' (Value.slice A xs.length c).ownBlock ∧ (v'.ownBlock = (Value.slice A xs.length c).ownBlock ∨ v'.ownBlock = some w.heap.size) := by
  have hvs : ∀ j v, [Value.int .i64 x][j]? = some v → w.cell? ⟨g, 0 + j, none⟩ = some v := fun j v hj => by
    match j, hj with
    | 0, hj => simp at hj; subst hj; exact hx.cell 0
  have h1v : ∀ v ∈ [Value.int .i64 x], v.oneCell' = true := fun v hv => by simp at hv; subst hv; rfl
  have h1c : ∀ v ∈ xs.map (Value.int .i64), v.oneCell' = true := fun v hv => by obtain ⟨y, _, rfl⟩ := List.mem_map.1 hv; rfl
  have hxc := h.ints
  obtain ⟨A', c', e', hnc, hcm, -⟩ := id hxc
  simp only [Value.slice.injEq, true_and] at e'
  obtain ⟨rfl, rfl⟩ := e'
  unfold maxLen at hcm
  have hnew : ∀ (arr : Array Value) (w' : World), w'.heap[w.heap.size]? = some (.cells arr 3 (0, 0)) → arr.size = grownCap w (xs.length + 1) c 3 → arr.toList.take (xs.length + 1) = (insAt xs i x).map (Value.int .i64) →
      Own w' B (.slice (some ⟨w.heap.size, 0, none⟩) (xs.length + 1) (grownCap w (xs.length + 1) c 3)) (insAt xs i x) := fun arr w' hh hs ht =>
    Own.of_block hh hB (insAt_length xs i x hi).symm (grownCap_ge w (xs.length + 1) c 3) (grownCap_le_maxLen w (xs.length + 1) c 3 (by unfold maxLen; omega)) hs ht
  by_cases hend : i = xs.length
  · subst hend
    by_cases hroom : xs.length + 1 ≤ c
    · -- behind the end, in place
      rcases h.2 with ⟨e, h0⟩ | ⟨b, cap, cur, e, hg, hh, hn, hc, hs, ht⟩
      · simp only [Value.slice.injEq] at e; omega
      · simp only [Value.slice.injEq, true_and] at e
        obtain ⟨rfl, rfl⟩ := e
        rw [Nat.mul_one] at ht hs
        have hb2 := setCells_block b 3 [Value.int .i64 x] w (0 + xs.length) cur hh
        refine (Any2.slices_Insert_int_end_room insL b 0 xs.length c g 0 1 1 [Value.int .i64 x] w (by omega) hroom (by omega) rfl
          (fun j hj => by rw [cell_of_row w b _ cur 3 (0, 0) hh]; simp; omega) (fun j hj => frozen_of_row w b _ cur 3 hh) hvs h1v).mono ?_
        rintro e w' ⟨rfl, rfl⟩
        refine ⟨_, rfl, ?_, hb2.2, .inl rfl⟩
        refine Own.of_block hb2.1 hg (insAt_length xs _ x (Nat.le_refl _)).symm hroom hc (by rw [setArr_size]; exact hs) ?_
        have := ins_cells (cur := cur) (x := x) (Nat.le_refl xs.length) (by omega) (by rw [List.take_length]; exact ht)
        rw [List.drop_length] at this
        simpa [setArr] using this
    · -- behind the end, a new row
      refine (Any2.slices_Insert_int_end_grow insL A xs.length c g 0 1 1 (xs.map (Value.int .i64)) [Value.int .i64 x] w (by omega) hnc (by omega) (by omega) (by simp) rfl
        (fun hA => by
          subst hA
          rcases h.2 with ⟨e, h0⟩ | ⟨b, cap, cur, e, _⟩
          · exact h0
          · simp only [Value.slice.injEq] at e; cases e.1)
        (fun a ha j v hv => by
          subst ha
          obtain ⟨y, hy, rfl⟩ : ∃ y, xs[j]? = some y ∧ Value.int .i64 y = v := by simpa using hv
          obtain ⟨hj, rfl⟩ := List.getElem?_eq_some_iff.1 hy
          obtain ⟨b, off, e, hcell⟩ := Ints.elemP hxc j hj
          rw [Option.some.inj e]
          have e2 : (⟨b, off, none⟩ : Addr).add j = ⟨b, off + j, none⟩ := by unfold Addr.add; split <;> simp_all
          rw [e2]; exact hcell) hvs h1v).mono ?_
      rintro e w' ⟨rfl, rfl⟩
      have hz : (Builtin.zeroCells (Value.int .i64 0).cells (grownCap w (xs.length + 1) c 3 - (xs.length + 1))).size = grownCap w (xs.length + 1) c 3 - (xs.length + 1) := by simp [size_zeroCells, Value.cells]
      have hge := grownCap_ge w (xs.length + 1) c 3
      refine ⟨_, rfl, hnew _ _ (heap_alloc_new w.drew _) ?_ ?_, (below_grown ((below_drew w).alloc (Nat.le_refl _) _)), .inr rfl⟩
      · rw [Array.size_append, show (insR.t 3) = 3 from rfl, hz]; simp; omega
      · rw [insAt_end, Array.toList_append, List.take_append_of_le_length (by simp), List.take_of_length_le (by simp)]; simp
  · have hlt : i < xs.length := by omega
    rcases h.2 with ⟨e, h0⟩ | ⟨b, cap, cur, e, hg, hh, hn, hc, hs, ht⟩
    · simp only [Value.slice.injEq] at e; omega
    · simp only [Value.slice.injEq, true_and] at e
      obtain ⟨rfl, rfl⟩ := e
      rw [Nat.mul_one] at ht hs
      have hcs : ∀ (j : Nat) (v : Value), (xs.map (Value.int .i64))[j]? = some v → w.cell? ⟨b, 0 + j, none⟩ = some v := fun j v hv => by
        obtain ⟨y, hy, rfl⟩ : ∃ y, xs[j]? = some y ∧ Value.int .i64 y = v := by simpa using hv
        obtain ⟨hj, rfl⟩ := List.getElem?_eq_some_iff.1 hy
        rw [Nat.zero_add, cell_of_row w b j cur 3 (0, 0) hh]
        exact ints_cells ht hj
      by_cases hroom : xs.length + 1 ≤ c
      · refine (Any2.slices_Insert_int_shift insL b 0 xs.length c i g 0 1 1 (xs.map (Value.int .i64)) [Value.int .i64 x] w hlt (by omega) hroom (by omega) (fun e => hgv b rfl e.symm) (by simp) rfl hcs
          (fun j hj => by rw [cell_of_row w b _ cur 3 (0, 0) hh]; simp; omega) (fun j hj => frozen_of_row w b _ cur 3 hh) hvs h1c h1v
          3 3 1 cur.size (shape_of hx) (shape_of hh) (by omega) (hx.free 0) (hx.free 1)).mono ?_
        rintro e w' ⟨rfl, rfl⟩
        have e0 : (xs.map (Value.int .i64)).drop i = (xs.drop i).map (Value.int .i64) := List.map_drop.symm
        rw [e0, Nat.zero_add, Nat.zero_add]
        have g0 : w.grownBy w.drew (some b) := ⟨rfl, rfl, rfl, Nat.le_refl _, fun _ _ _ => rfl⟩
        have k1 := setCells_block b 3 ((xs.drop i).map (Value.int .i64)) w.drew (i + 1) cur hh
        have k2 := setCells_block b 3 [Value.int .i64 x] _ i _ k1.1
        refine ⟨_, rfl, ?_, (g0.trans k1.2).trans k2.2, .inl rfl⟩
        refine Own.of_block k2.1 hg (insAt_length xs i x hi).symm hroom hc (by rw [setArr_size, setArr_size]; exact hs) ?_
        exact ins_cells2 hi (by omega) (by
          have := congrArg (fun l => l.take i) ht
          simp only [List.take_take, Nat.min_eq_left hi] at this
          rw [this, List.map_take])
      · refine (Any2.slices_Insert_int_grow insL b 0 xs.length c i g 0 1 1 (xs.map (Value.int .i64)) [Value.int .i64 x] w hlt (by omega) hnc (by omega) (by omega) (by simp) rfl hcs hvs h1c h1v).mono ?_
        rintro e w' ⟨rfl, rfl⟩
        have e0 : (xs.map (Value.int .i64)).drop i = (xs.drop i).map (Value.int .i64) := List.map_drop.symm
        rw [e0]
        have hge := grownCap_ge w (xs.length + 1) c 3
        have hz1 : (Builtin.zeroCells (Value.int .i64 0).cells (xs.length + 1 - i)).size = xs.length + 1 - i := by simp [size_zeroCells, Value.cells]
        have hz2 : (Builtin.zeroCells (Value.int .i64 0).cells (grownCap w (xs.length + 1) c 3 - (xs.length + 1))).size = grownCap w (xs.length + 1) c 3 - (xs.length + 1) := by simp [size_zeroCells, Value.cells]
        obtain ⟨arr, ha⟩ : ∃ arr, arr = ((xs.map (Value.int .i64)).take i).toArray ++ Builtin.zeroCells (Value.int .i64 0).cells (xs.length + 1 - i) ++ Builtin.zeroCells (Value.int .i64 0).cells (grownCap w (xs.length + 1) c 3 - (xs.length + 1)) := ⟨_, rfl⟩
        have hsz : arr.size = grownCap w (xs.length + 1) c 3 := by rw [ha, Array.size_append, Array.size_append, hz1, hz2]; simp; omega
        have htk : arr.toList.take i = (xs.take i).map (Value.int .i64) := by
          rw [ha, Array.append_assoc, Array.toList_append, List.take_append_of_le_length (by simp; omega), List.take_of_length_le (by simp; omega), List.map_take]
        have b1 : Below w.heap.size w (w.alloc (.cells arr 3)).drew := (below_alloc w _).drew
        have k1 := setCells_block w.heap.size 3 [Value.int .i64 x] (w.alloc (.cells arr 3)).drew i arr (heap_alloc_new w _)
        have k2 := setCells_block w.heap.size 3 ((xs.drop i).map (Value.int .i64)) ((w.alloc (.cells arr 3)).drew.setCells w.heap.size i [Value.int .i64 x]).drew (i + 1) _ k1.1
        rw [ha] at b1 k1 k2 hsz htk
        refine ⟨_, rfl, hnew _ _ k2.1 (by rw [setArr_size, setArr_size]; exact hsz) (ins_cells hi (by rw [hsz]; exact hge) htk), ?_, .inr rfl⟩
        have B2 : Below w.heap.size w _ := (b1.grown k1.2 b1.size (fun k hk => by injection hk with hk; omega)).drew
        exact below_grown (B2.grown k2.2 B2.size (fun k hk => by injection hk with hk; omega))

end Go.Proofs.Ytonlhphgoedcnaa
