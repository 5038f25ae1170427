/- Contract: a drawn format. No conditions. -/
import Derived.Test.YtmiamnaholnnoaaRD2
import Derived.Deep.RegionLaw
import Derived.Deep.LoopGhost
import Derived.Deep.CutRange
import Derived.Maps.AppendAt
import Derived.Maps.Range
namespace Go.Proofs.Ytmiamnaholnnoaa
open Go.RowKit

theorem Rd.grown {N : Nat} {w w' : World} {g p : Nat} {row : Option Nat} (h : Rd N w g p) (hg : w.grownBy w' row) (hr : ∀ k, row = some k → N ≤ k ∧ k ≠ g) : Rd N w' g p :=
  h.keep (Own.below hg (by have := h.lt; omega) (fun k e => (hr k e).1)) (hg.block g h.lt.2 (fun e => (hr g e.symm).2 rfl))
theorem Rd.put {N : Nat} {w : World} {g p : Nat} (h : Rd N w g p) {a : Addr} (ha : N ≤ a.block) (hne : a.block ≠ g) (u : Value) : Rd N (w.setCell a u) g p :=
  h.grown (grown_set w a u) (fun k e => by injection e with e; subst e; exact ⟨ha, hne⟩)
theorem grown_of {w w' : World} {row : Option Nat} (h : Below w.heap.size w w') : w.grownBy w' row := ⟨h.os, h.tape, h.output, h.size, fun k hk _ => h.block k hk⟩

/-- What stands while a format is drawn: the reader, the result's box, the format's box and its row. -/
def FMid (N g h : Nat) (w wx : World) (b1 b2 : Bool) (p : Nat) (sv : Value) (xs : List Int) : Prop :=
  (g < w.heap.size ∧ w.heap.size < h) ∧ Rd N wx g p ∧ w.grownBy wx (some g) ∧ Blk wx w.heap.size 25 #[.slice none 0 0, .bool false, .bool false] ∧
  Blk wx (h) 25 #[sv, .bool b1, .bool b2] ∧ Own wx (h + 1) sv xs ∧ h + 1 ≤ wx.heap.size
theorem FMid.nx {N g h : Nat} {w wx wy : World} {b1 b2 : Bool} {p : Nat} {sv : Value} {xs : List Int} (hM : FMid N g h w wx b1 b2 p sv xs) (hb : Below wx.heap.size wx wy) : FMid N g h w wy b1 b2 p sv xs := by
  obtain ⟨h0, h1, h2, h3, h4, h5, h6⟩ := hM
  exact ⟨h0, h1.nx hb, h2.andThen (grown_of (row := none) hb) (fun j e => by cases e), h3.nx hb, h4.nx hb, h5.nx hb, Nat.le_trans h6 hb.size⟩
theorem FMid.ate {N g h : Nat} {w wx wy : World} {b1 b2 : Bool} {p q : Nat} {sv : Value} {xs : List Int} (hM : FMid N g h w wx b1 b2 p sv xs) (hR : Rd N wy g q) (hG : wx.grownBy wy (some g)) : FMid N g h w wy b1 b2 q sv xs := by
  obtain ⟨h0, h1, h2, h3, h4, h5, h6⟩ := hM
  exact ⟨h0, hR, h2.trans hG, h3.grown hG (by omega), h4.grown hG (by omega), h5.grown hG (.inr fun e => by have := (h5.lt g e).1; omega), Nat.le_trans h6 hG.size⟩
theorem FMid.put {N g h : Nat} {w wx wy : World} {b1 b2 : Bool} {p : Nat} {sv sv' : Value} {xs xs' : List Int} (hM : FMid N g h w wx b1 b2 p sv xs) (ho : Own wy (h + 1) sv' xs') (hg : wx.grownBy wy sv.ownBlock) :
    FMid N g h w (wy.setCell ⟨h, 0, none⟩ sv') b1 b2 p sv' xs' := by
  obtain ⟨h0, h1, h2, h3, h4, h5, h6⟩ := hM
  have hN := h1.lt
  have hk : ∀ k, sv.ownBlock = some k → h + 1 ≤ k := fun k e => (h5.lt k e).1
  have e3 := (hg.block _ h3.lt (fun e => by have := hk _ e.symm; omega)).trans h3
  have e4 : Blk wy (h) 25 #[sv, .bool b1, .bool b2] := (hg.block _ h4.lt (fun e => by have := hk _ e.symm; omega)).trans h4
  have e4' := e4.set_ 0 sv'
  simp only [List.setIfInBounds_toArray, List.set_cons_zero] at e4'
  refine ⟨h0, (h1.grown hg (fun k e => by have := hk k e; omega)).put (by show N ≤ h; omega) (by show h ≠ g; omega) sv', ?_, Blk.far e3 (by show w.heap.size ≠ h; omega) sv', e4', ho.far (by show h < h + 1; omega) sv', by have := hg.size; simp; omega⟩
  exact (h2.andThen hg (fun j e => .inl (by have := hk j e; omega))).andThen (grown_set wy ⟨h, 0, none⟩ sv') (fun j e => .inl (by injection e with e; subst e; show w.heap.size ≤ h; omega))
theorem FMid.box {N g h : Nat} {w wx : World} {b1 b2 : Bool} {p : Nat} {sv : Value} {xs : List Int} (hM : FMid N g h w wx b1 b2 p sv xs) : Blk wx (h) 25 #[sv, .bool b1, .bool b2] := hM.2.2.2.2.1
theorem FMid.boxAt {N g h : Nat} {w wx wy : World} {b1 b2 : Bool} {p : Nat} {sv : Value} {xs : List Int} (hM : FMid N g h w wx b1 b2 p sv xs) (hg : wx.grownBy wy sv.ownBlock) : Blk wy h 25 #[sv, .bool b1, .bool b2] :=
  (hg.block _ hM.box.lt (fun e => by have := (hM.2.2.2.2.2.1.lt _ e.symm).1; omega)).trans hM.box
theorem FMid.row {N g h : Nat} {w wx wy : World} {b1 b2 : Bool} {p : Nat} {sv : Value} {xs xs' : List Int} (hM : FMid N g h w wx b1 b2 p sv xs) (ho : Own wy (h + 1) sv xs') (hg : wx.grownBy wy sv.ownBlock) : FMid N g h w wy b1 b2 p sv xs' := by
  obtain ⟨h0, h1, h2, h3, h4, h5, h6⟩ := hM
  have hN := h1.lt
  have hk : ∀ k, sv.ownBlock = some k → h + 1 ≤ k := fun k e => (h5.lt k e).1
  refine ⟨h0, h1.grown hg (fun k e => by have := hk k e; omega), h2.andThen hg (fun j e => .inl (by have := hk j e; omega)), (hg.block _ h3.lt (fun e => by have := hk _ e.symm; omega)).trans h3, (hg.block _ h4.lt (fun e => by have := hk _ e.symm; omega)).trans h4, ho, Nat.le_trans h6 hg.size⟩
theorem FMid.res {N g h : Nat} {w wx : World} {b1 b2 : Bool} {p : Nat} {sv : Value} {xs : List Int} (hM : FMid N g h w wx b1 b2 p sv xs) : Blk wx w.heap.size 25 #[.slice none 0 0, .bool false, .bool false] := hM.2.2.2.1
theorem FMid.own {N g h : Nat} {w wx : World} {b1 b2 : Bool} {p : Nat} {sv : Value} {xs : List Int} (hM : FMid N g h w wx b1 b2 p sv xs) : Own wx (h + 1) sv xs := hM.2.2.2.2.2.1
theorem FMid.rd {N g h : Nat} {w wx : World} {b1 b2 : Bool} {p : Nat} {sv : Value} {xs : List Int} (hM : FMid N g h w wx b1 b2 p sv xs) : Rd N wx g p := hM.2.1
theorem FMid.sz {N g h : Nat} {w wx : World} {b1 b2 : Bool} {p : Nat} {sv : Value} {xs : List Int} (hM : FMid N g h w wx b1 b2 p sv xs) : h + 1 ≤ wx.heap.size := hM.2.2.2.2.2.2

/-- What drawing a format leaves. -/
def RetFormatR (N g p : Nat) (w : World) (e : Ending) (w' : World) : Prop := ∃ (F : FL) (sv : Value) (q : Nat), e = .returned (.agg #[sv, .bool F.big, .bool F.aligned]) ∧ F.sizes.length ≤ 5 ∧ (∀ x ∈ F.sizes, 0 ≤ x ∧ x ≤ 8) ∧
  Own w' w.heap.size sv F.sizes ∧ q ≤ p + 10 ∧ Rd N w' g q ∧ w.grownBy w' (some g)
theorem FMid.done {N g h : Nat} {w wx wy : World} {b1 b2 : Bool} {p q : Nat} {sv : Value} {xs : List Int} (hM : FMid N g h w wx b1 b2 q sv xs) (hl : xs.length ≤ 5) (hx : ∀ x ∈ xs, 0 ≤ x ∧ x ≤ 8) (hq : q ≤ p + 10) (a b c : Value)
    (hwy : wy = ((wx.setCell ⟨w.heap.size, 0, none⟩ a).setCell ⟨w.heap.size, 1, none⟩ b).setCell ⟨w.heap.size, 2, none⟩ c) : RetFormatR N g p w (.returned (.agg #[sv, .bool b1, .bool b2])) wy := by
  subst hwy
  obtain ⟨h0, h1, h2, h3, h4, h5, h6⟩ := hM
  have hN := h1.lt
  have n1 : w.heap.size ≠ g := by omega
  refine ⟨⟨xs, b1, b2⟩, sv, q, rfl, hl, hx, (own3b h5 (by omega) a b c).mono (by omega), hq, ((h1.put (by show N ≤ w.heap.size; omega) n1 a).put (by show N ≤ w.heap.size; omega) n1 b).put (by show N ≤ w.heap.size; omega) n1 c, ?_⟩
  have k : ∀ (W : World) (i : Nat) (u : Value), w.grownBy W (some g) → w.grownBy (W.setCell ⟨w.heap.size, i, none⟩ u) (some g) := fun W i u hW => hW.andThen (grown_set W ⟨w.heap.size, i, none⟩ u) (fun j e => .inl (by injection e with e; subst e; exact Nat.le_refl _))
  exact k _ _ _ (k _ _ _ (k _ _ _ h2))

theorem own_lit (w : World) (xs : List Int) (hl : xs.length ≤ 1000) : Own (w.alloc (.cells (xs.map (Value.int .i64)).toArray 3)) w.heap.size (.slice (some ⟨w.heap.size, 0, none⟩) xs.length xs.length) xs :=
  ⟨by simp, .inr ⟨w.heap.size, xs.length, _, by simp, Nat.le_refl _, heap_alloc_new w _, by simp, by unfold maxLen; omega, by simp, by simp; exact List.take_of_length_le (by simp)⟩⟩

theorem set_le (xs : List Int) (i : Nat) (y : Int) (h : ∀ x ∈ xs, 0 ≤ x ∧ x ≤ 8) (hy : 0 ≤ y ∧ y ≤ 8) : ∀ x ∈ xs.set i y, 0 ≤ x ∧ x ≤ 8 := fun x hx =>
  (List.mem_or_eq_of_mem_set hx).elim (h x) (fun e => e ▸ hy)
theorem one5 (r : Nat) (hr : r < [1, 2, 4, 1, 2].length) : ∃ y : Int, [1, 2, 4, 1, 2][r] = y ∧ 0 ≤ y ∧ y ≤ 8 := by
  match r, hr with
  | 0, _ => exact ⟨1, rfl, by omega⟩
  | 1, _ => exact ⟨2, rfl, by omega⟩
  | 2, _ => exact ⟨4, rfl, by omega⟩
  | 3, _ => exact ⟨1, rfl, by omega⟩
  | 4, _ => exact ⟨2, rfl, by omega⟩
theorem one3 (r : Nat) (hr : r < [3, 0, 8].length) : ∃ y : Int, [3, 0, 8][r] = y ∧ 0 ≤ y ∧ y ≤ 8 := by
  match r, hr with
  | 0, _ => exact ⟨3, rfl, by omega⟩
  | 1, _ => exact ⟨0, rfl, by omega⟩
  | 2, _ => exact ⟨8, rfl, by omega⟩
set_option maxRecDepth 100000 in
set_option maxHeartbeats 6400000 in
theorem someFormat_any (N g p : Nat) (w : World) (h : Rd N w g p) (hp : p ≤ 900000) :
    Calls Try.prog 37 #[.pointer (some ⟨g, 0, none⟩)] w (RetFormatR N g p w) := by
  have hlt := h.lt
  have hZ := Blk.new w 25 #[.slice none 0 0, .bool false, .bool false]
  have h1 := h.nx (below_alloc w (.cells #[.slice none 0 0, .bool false, .bool false] 25))
  have hg1 : w.grownBy (w.alloc (.cells #[.slice none 0 0, .bool false, .bool false] 25)) (some g) := grown_of (below_alloc _ _)
  have HZ := hid hZ
  have HG1 := hid hg1
  clear hZ hg1
  go_enter Try.func37, Try.ntmps37
  go_wp2_with fail
  have hs1 : w.heap.size < (w.alloc (.cells #[.slice none 0 0, .bool false, .bool false] 25)).heap.size := HZ.out.lt
  have hs2 : (w.alloc (.cells #[.slice none 0 0, .bool false, .bool false] 25)).heap.size = w.heap.size + 1 := by simp
  generalize (w.alloc (.cells #[.slice none 0 0, .bool false, .bool false] 25)) = w0 at *
  refine (pick_any N g p 2 _ h1 (by omega) (by omega)).mono ?_; rintro e w1 ⟨r1, rfl, hr1, hR1, hG1⟩
  have HG := hid (HG1.out.trans hG1)
  have HZ1 := hid (HZ.out.grown hG1 (by omega))
  have z1 := hG1.size
  go_wp2_with fail
  refine (pick_any N g (p + 1) 2 _ hR1 (by omega) (by omega)).mono ?_; rintro e w2 ⟨r2, rfl, hr2, hR2, hG2⟩
  have HG2 := hid (HG.out.trans hG2)
  have HZ2 := hid (HZ1.out.grown hG2 (by omega))
  have z2 := hG2.size
  clear hG1 hG2 hR1 h1 HZ HG1 HG HZ1
  obtain ⟨b1, hb1⟩ : ∃ b : Bool, b = ((r1 : Int) == 0) := ⟨_, rfl⟩
  obtain ⟨b2, hb2⟩ : ∃ b : Bool, b = ((r2 : Int) == 0) := ⟨_, rfl⟩
  go_wp2_with fail
  rw [← hb1, ← hb2]
  have hM0 : FMid N g w2.heap.size w (w2.alloc (.cells #[.slice none 0 0, .bool b1, .bool b2] 25)) b1 b2 (p + 2) (.slice none 0 0) [] :=
    ⟨by omega, hR2.nx (below_alloc _ _), HG2.out.andThen (grown_of (row := none) (below_alloc _ _)) (fun j e => by cases e), HZ2.out.nx (below_alloc _ _), Blk.new w2 25 _, Own.nil _ _, by simp⟩
  obtain ⟨k, hk⟩ : ∃ k, k = w2.heap.size := ⟨_, rfl⟩
  have hk2 : (w2.alloc (.cells #[.slice none 0 0, .bool b1, .bool b2] 25)).heap.size = k + 1 := by simp [hk]
  rw [← hk] at hM0 ⊢
  generalize w2.alloc (.cells #[.slice none 0 0, .bool b1, .bool b2] 25) = w3 at *
  clear hk
  have hL5 : Own (w3.alloc (.cells #[.int .i64 2, .int .i64 3, .int .i64 1, .int .i64 4, .int .i64 5] 3)) w3.heap.size (.slice (some ⟨w3.heap.size, 0, none⟩) 5 5) [2, 3, 1, 4, 5] := own_lit w3 [2, 3, 1, 4, 5] (by simp)
  rw [hk2] at hL5
  have hM1 := hM0.nx (below_alloc w3 (.cells #[.int .i64 2, .int .i64 3, .int .i64 1, .int .i64 4, .int .i64 5] 3))
  clear hR2 HG2 HZ2 hM0
  have hgk0 := hM1.1
  have HM1 := hid hM1
  refine (one_any N g (p + 2) _ _ _ _ hM1.rd (by omega) hL5 (by simp) (fun j e => by simp [Value.ownBlock] at e; omega)).mono ?_; rintro e w4 ⟨r, hr, rfl, hR4, hG4⟩
  have hM4 := HM1.out.ate hR4 hG4
  obtain ⟨n, hn, hn5⟩ : ∃ n : Nat, [2, 3, 1, 4, 5][r] = (n : Int) ∧ n ≤ 5 ∧ 1 ≤ n := by
    match r, hr with
    | 0, _ => exact ⟨2, rfl, by omega⟩
    | 1, _ => exact ⟨3, rfl, by omega⟩
    | 2, _ => exact ⟨1, rfl, by omega⟩
    | 3, _ => exact ⟨4, rfl, by omega⟩
    | 4, _ => exact ⟨5, rfl, by omega⟩
  rw [hn]
  have HM4 := hid hM4
  clear hM1 HM1 hL5 hM4 hR4 hG4 hb1 hb2 hn
  go_wp2_with fail
  go_loopg [4] n (fun m i wr => ∃ j : Nat, m = j ∧ i = .int .i64 j ∧ ∃ (q : Nat) (sv : Value) (xs : List Int), q + j ≤ p + 8 ∧ xs.length + j ≤ 5 ∧ 1 ≤ xs.length + j ∧ Hid (∀ x ∈ xs, 0 ≤ x ∧ x ≤ 8) ∧ FMid N g k w wr b1 b2 q sv xs)
  case atStart => exact ⟨n, rfl, rfl, p + 2 + 1, _, [], by omega, by simp; omega, by simp; omega, hid (by simp), HM4.out⟩
  case round =>
    obtain ⟨j, hm, rfl, q, sv, xs, hq, hj5, hj1, HX, hM⟩ := hrel
    have HMJ := hid hm
    clear hm
    by_cases hj : 0 < j
    · obtain ⟨A, c, esv⟩ := hM.own.form
      subst esv
      have HM := hid hM
      have hb0 := hM.box
      obtain ⟨⟨q0, q1, q2⟩, -⟩ := id hb0.all3
      obtain ⟨⟨qq0, qq1, qq2⟩, -⟩ := (hb0.alloc (.cells #[.int .i64 1, .int .i64 2, .int .i64 4, .int .i64 1, .int .i64 2] 3)).all3
      have hji : (0 : Int) < (j : Int) := by omega
      have hL : Own (wr.alloc (.cells #[.int .i64 1, .int .i64 2, .int .i64 4, .int .i64 1, .int .i64 2] 3)).drew wr.heap.size (.slice (some ⟨wr.heap.size, 0, none⟩) 5 5) [1, 2, 4, 1, 2] := (own_lit wr [1, 2, 4, 1, 2] (by simp)).drew
      have hMa := hM.nx ((below_alloc wr (.cells #[.int .i64 1, .int .i64 2, .int .i64 4, .int .i64 1, .int .i64 2] 3)).drew)
      have hgw := hM.sz
      have hgk := hM.1
      have hlen : xs.length ≤ 1000000000000 := by omega
      have hne : ∀ i, (Value.slice (some ⟨wr.heap.size, 0, none⟩) 5 5).ownBlock = some i → i ≠ g := fun i e => by simp [Value.ownBlock] at e; omega
      have HL := hid hlen
      have HMA := hid hMa
      have hqb : q + 1 ≤ 1000000 := by omega
      clear hM hb0 hMa hlen
      go_upto_region 4 with fail
      go_region_law (first
        | (rw [if_pos (wanted_of (by rfl))]; go_simp; go_at_call 57; refine (one_any N g q _ _ _ _ HMA.out.rd (by omega) hL (by simp) hne).mono ?_; rintro e w5 ⟨r, hr, rfl, hR5, hG5⟩
           obtain ⟨y, hy, hy1, hy2⟩ : ∃ y : Int, [1, 2, 4, 1, 2][r] = y ∧ 0 ≤ y ∧ y ≤ 8 := one5 r hr
           rw [hy]; have hM5 := HMA.out.ate hR5 hG5; have HY := hid (And.intro hy1 hy2); clear hy hy1 hy2
           obtain ⟨⟨p0, p1, p2⟩, -⟩ := id hM5.box.all3
           obtain ⟨⟨pp0, pp1, pp2⟩, -⟩ := (hM5.box.alloc (.cells #[.int .i64 y] 3)).all3
           have hM5l := hM5.nx (below_alloc w5 (.cells #[.int .i64 y] 3))
           have hM5z := hM5l.sz
           go_simp)
        | (refine step1 _ (by rfl) _ _ (by rfl) (k + 1) _ xs (by rfl) hM5l.own ⟨w5.heap.size, 0, none⟩ 1 y (by rfl) (cell_new1 _ _ _) HL.out hM5z ?_; intro s6 w6 ho6 hg6 hat6
           have hB6 := hM5l.boxAt hg6
           obtain ⟨⟨v0, v1, v2⟩, vf0, vf1, vf2⟩ := hB6.all3
           have HM6 := hid (hM5l.put ho6 hg6)
           obtain ⟨A6, c6, e6⟩ := ho6.form
           rw [List.length_append, List.length_singleton] at e6
           subst e6))
      all_goals
        have HX6 := hid (show ∀ x ∈ xs ++ [y], 0 ≤ x ∧ x ≤ 8 from fun x hx => (List.mem_append.1 hx).elim (HX.out x) (fun h => by simp at h; subst h; exact HY.out))
        have HLA := hid (show (xs ++ [y]).length = xs.length + 1 by simp)
        clear hg6 hat6 ho6 hB6
        go_wp2
        go_roundg (j - 1)
        case measure => have := HMJ.out; omega
        case rel => exact ⟨j - 1, rfl, by congr 1; omega, q + 1, _, _, by omega, by have := HLA.out; omega, by have := HLA.out; omega, HX6, HM6.out⟩
    · have hj0 : ¬ (0 : Int) < (j : Int) := by omega
      have hxl : 1 ≤ xs.length := by omega
      obtain ⟨gr, cr, esv, hgr1, hgr2⟩ := hM.own.row hxl
      subst esv
      have HM := hid hM
      have hxl5 : xs.length ≤ 5 := by omega
      have HXL := hid hxl
      have hgk := hM.1
      have HSZ := hid hM.sz
      clear hM hj1 hj5 hxl HM4
      go_wp2_with fail
      refine (pick_any N g q 20 _ HM.out.rd (by omega) (by omega)).mono ?_; rintro e w5 ⟨r, rfl, hr, hR5, hG5⟩
      have hM5 := HM.out.ate hR5 hG5
      have hb5 := hM5.box
      have hs5 := hM5.res
      have HM5 := hid hM5
      clear HM hR5 hG5 hM5
      obtain ⟨⟨p0, p1, p2⟩, pf0, pf1, pf2⟩ := id hb5.all3
      obtain ⟨⟨s0, s1, s2⟩, sf0, sf1, sf2⟩ := id hs5.all3
      by_cases h0 : r = 0
      · have h0i : ((r : Int) == 0) = true := by simp [h0]
        clear h0
        have hx0 : 0 < xs.length := by have := HXL.out; omega
        obtain ⟨⟨qq0, qq1, qq2⟩, -⟩ := (hb5.alloc (.cells #[.int .i64 3, .int .i64 0, .int .i64 8] 3)).all3
        have hL : Own (w5.alloc (.cells #[.int .i64 3, .int .i64 0, .int .i64 8] 3)).drew w5.heap.size (.slice (some ⟨w5.heap.size, 0, none⟩) 3 3) [3, 0, 8] := (own_lit w5 [3, 0, 8] (by simp)).drew
        have HMA := hid (HM5.out.nx ((below_alloc w5 (.cells #[.int .i64 3, .int .i64 0, .int .i64 8] 3)).drew))
        have hgw := HM5.out.sz
        have hne : ∀ i, (Value.slice (some ⟨w5.heap.size, 0, none⟩) 3 3).ownBlock = some i → i ≠ g := fun i e => by simp [Value.ownBlock] at e; omega
        go_upto_region 8 with fail
        go_region_law (first
          | (rw [if_pos (wanted_of (by rfl))]; go_simp; go_at_call 57; refine (one_any N g (q + 1) _ _ _ _ HMA.out.rd (by omega) hL (by simp) hne).mono ?_; rintro e w6 ⟨r6, hr6, rfl, hR6, hG6⟩
             obtain ⟨y, hy, hy1, hy2⟩ : ∃ y : Int, [3, 0, 8][r6] = y ∧ 0 ≤ y ∧ y ≤ 8 := one3 r6 hr6
             rw [hy]; have hM6 := HMA.out.ate hR6 hG6; have HY := hid (And.intro hy1 hy2); clear hy hy1 hy2
             obtain ⟨⟨pp0, pp1, pp2⟩, -⟩ := id hM6.box.all3
             have hv0 := hM6.own.cell 0 HXL.out
             have hvf := hM6.own.free 0
             have HM6 := hid hM6
             clear hM6 hR6 hG6
             go_simp))
        all_goals
          have hM7 := HM6.out.row (HM6.out.own.put 0 y) (grown_set _ _ _)
          obtain ⟨⟨v0, v1, v2⟩, vf0, vf1, vf2⟩ := hM7.box.all3
          have hs7 := hM7.res
          obtain ⟨⟨u0, u1, u2⟩, uf0, uf1, uf2⟩ := hs7.all3
          have HM7 := hid hM7
          clear hM7
          have HXX := hid (set_le xs 0 y HX.out HY.out)
          obtain ⟨⟨r0, r1, r2⟩, -⟩ := (hs7.store3 (.slice (some ⟨gr, 0, none⟩) xs.length cr) (.bool b1) (.bool b2)).all3
          go_wp2
          refine bodyPost_ret (v := .agg #[(.slice (some ⟨gr, 0, none⟩) xs.length cr), .bool b1, .bool b2]) (by simp [results, Try.results37, go_sem, r0, r1, r2]) rfl ?_
          exact FMid.done HM7.out (by simp; omega) HXX.out (by omega) _ _ _ rfl
      · have h0i : ((r : Int) == 0) = false := by simp; omega
        by_cases h1 : r = 1
        · have h1i : ((r : Int) == 1) = true := by simp [h1]
          clear h0 h1
          have hM7 := HM5.out.put (Own.nil w5 (k + 1)) (grown_of (Below.refl _ _))
          obtain ⟨⟨v0, v1, v2⟩, vf0, vf1, vf2⟩ := hM7.box.all3
          have hs7 := hM7.res
          obtain ⟨⟨u0, u1, u2⟩, uf0, uf1, uf2⟩ := hs7.all3
          have HM7 := hid hM7
          clear hM7
          obtain ⟨⟨r0, r1, r2⟩, -⟩ := (hs7.store3 (.slice none 0 0) (.bool b1) (.bool b2)).all3
          go_wp2
          refine bodyPost_ret (v := .agg #[(.slice none 0 0), .bool b1, .bool b2]) (by simp [results, Try.results37, go_sem, r0, r1, r2]) rfl ?_
          exact FMid.done HM7.out (by simp) (by simp) (by omega) _ _ _ rfl
        · have h1i : ((r : Int) == 1) = false := by simp; omega
          clear h0 h1
          obtain ⟨⟨r0, r1, r2⟩, -⟩ := (hs5.store3 (.slice (some ⟨gr, 0, none⟩) xs.length cr) (.bool b1) (.bool b2)).all3
          go_wp2
          refine bodyPost_ret (v := .agg #[(.slice (some ⟨gr, 0, none⟩) xs.length cr), .bool b1, .bool b2]) (by simp [results, Try.results37, go_sem, r0, r1, r2]) rfl ?_
          exact FMid.done HM5.out hxl5 HX.out (by omega) _ _ _ rfl

end Go.Proofs.Ytmiamnaholnnoaa
