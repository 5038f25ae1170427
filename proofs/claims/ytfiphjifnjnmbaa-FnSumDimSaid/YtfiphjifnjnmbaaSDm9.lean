/- SDpv9, SD1v9, SD2v9, SD3v9, SD5v9, SD6v9, SDqv9, SE1v9, SD4v9 in one text. No conditions. (printed by merge.py) -/
import Derived.Test.YtfiphjifnjnmbaaEXpv9
import Derived.Test.YtfiphjifnjnmbaaNVpv9
import Derived.Test.YtfiphjifnjnmbaaRK1v9
import Derived.Test.YtfiphjifnjnmbaaRKp
import Derived.Test.YtfiphjifnjnmbaaS1
import Derived.Test.YtfiphjifnjnmbaaV4
import Derived.Test.YtfiphjifnjnmbaaV6
import Derived.Test.YtfiphjifnjnmbaaE1v9
import Derived.Test.YtfiphjifnjnmbaaSR
import Derived.Test.YtfiphjifnjnmbaaIE
import Derived.Test.YtfiphjifnjnmbaaC3
import Derived.Deep.Cut
import Derived.Deep.LoopGhost
import Derived.Test.YtfiphjifnjnmbaaRT
import Derived.Test.YtfiphjifnjnmbaaLL
import Derived.Test.YtfiphjifnjnmbaaHp
import Derived.Test.YtfiphjifnjnmbaaGr
import Derived.Test.YtfiphjifnjnmbaaGF
import Derived.Test.YtfiphjifnjnmbaaEX1v9
import Derived.Test.YtfiphjifnjnmbaaGt
import Derived.Test.YtfiphjifnjnmbaaV5
import Derived.Test.YtfiphjifnjnmbaaC2
import Derived.Test.YtfiphjifnjnmbaaC1
import Derived.Test.YtfiphjifnjnmbaaG2v9
import Derived.Test.YtfiphjifnjnmbaaST2v9
import Derived.Outline
import Derived.IntWalk
import Derived.Deep.RegionHeld3
import Derived.Test.YtfiphjifnjnmbaaTT3

/-! ## SDpv9 -/
namespace Go.Proofs.Ytfiphjifnjnmbaa
open Go.RowKit

def sdS (T : TL) (d : Nat) : List Int := T.shape.eraseIdx d
/-- The index, behind the sum, of the value with the rank k. -/
def sdI (T : TL) (d : Nat) (k : Nat) : List Int := (unr T.shape k).eraseIdx d
def sdAt (T : TL) (d : Nat) (k : Nat) : Nat := (rankW (sdS T d) (sdI T d k)).toNat
def sdV (T : TL) (d : Nat) : Nat → List Int
  | 0 => List.replicate (prodW (sdS T d)).toNat 0
  | k + 1 => (sdV T d k).set (sdAt T d k) (wrap64 ((sdV T d k).getD (sdAt T d k) 0 + T.values.getD k 0))
def sdT (T : TL) (d : Nat) : TL := ⟨sdS T d, sdV T d T.values.length⟩
def okSD (T : TL) (d : Int) : Bool := isTensorL T && inR d 0 ((T.shape.length : Int) - 1) && isShapeL (sdS T d.toNat)
def okSum (T : TL) (d : Int) : Bool := okSD T d && isTensorL (sdT T d.toNat)
def sumDL (T : TL) (d : Int) : TL := if okSum T d then sdT T d.toNat else ⟨[], []⟩

theorem sumD_no {T : TL} {d : Int} (h : okSum T d = false) : sumDL T d = ⟨[], []⟩ := by simp [sumDL, h]
theorem sumD_yes {T : TL} {d : Int} (h : okSum T d = true) : sumDL T d = sdT T d.toNat := by simp [sumDL, h]
theorem sdV_len (T : TL) (d k : Nat) : (sdV T d k).length = (prodW (sdS T d)).toNat := by
  induction k with
  | zero => simp [sdV]
  | succ k ih => rw [sdV, List.length_set]; exact ih
theorem sumDL_len (T : TL) (d : Int) : (sumDL T d).shape.length ≤ 60 ∧ (sumDL T d).values.length ≤ 60 := by
  cases h : okSum T d
  · rw [sumD_no h]; simp
  · rw [sumD_yes h]
    simp only [okSum, Bool.and_eq_true] at h
    have hT := isTensorL_and h.2
    have hp := shape_prod hT.1
    have hv : ((sdT T d.toNat).values.length : Int) = prodW (sdT T d.toNat).shape := hT.2.1
    exact ⟨Nat.le_trans (shape_ext hT.1).1 (by omega), by rw [hp.1] at hv; omega⟩
section
variable {T : TL} {d : Nat}
theorem erase_box {i s : List Int} (h : InBox i s) : InBox (i.eraseIdx d) (s.eraseIdx d) := by
  obtain ⟨h1, h2⟩ := box_iff.1 h
  refine box_iff.2 ⟨by rw [List.length_eraseIdx, List.length_eraseIdx, h1], fun k k1 k2 => ?_⟩
  rw [List.getElem_eraseIdx, List.getElem_eraseIdx]
  split
  · exact h2 k _ _
  · exact h2 (k + 1) _ _
theorem rank_box {s i : List Int} (hs : isShapeL s = true) (hb : InBox i s) : rankW s i = dotI i (rowS s) ∧ 0 ≤ rankW s i ∧ rankW s i < prodI s := by
  obtain ⟨s1, s2, s3⟩ := shape_ext hs
  have e : rankW s i = dotI i (rowS s) := by
    rw [rankW_eq s1 s2 (box_le hb fun x hx => (s2 x hx).2), rankF_dot _ _ _ (box_length hb)]
    simp
  have := dot_row hb
  exact ⟨e, by rw [e]; exact this.1, by rw [e]; exact this.2.1⟩
theorem unr_in (hT : isTensorL T = true) {k : Nat} (hk : k < T.values.length) : InBox (unr T.shape k) T.shape ∧ (∀ x ∈ T.shape, 1 ≤ x ∧ x ≤ 60) ∧ (k : Int) < prodI T.shape := by
  obtain ⟨hs, hv, -⟩ := isTensorL_and hT
  obtain ⟨s1, s2, s3⟩ := shape_ext hs
  have hp := shape_prod hs
  rw [hp.1] at hv
  have hpos := prodI_pos (fun x hx => (s2 x hx).1) (show 0 < prodI T.shape by omega)
  exact ⟨unr_box hpos k, fun x hx => ⟨hpos x hx, (s2 x hx).2⟩, by omega⟩
theorem rank_unr (hT : isTensorL T = true) {k : Nat} (hk : k < T.values.length) : rankW T.shape (unr T.shape k) = k := by
  obtain ⟨hb, hpos, hk2⟩ := unr_in hT hk
  rw [(rank_box (isTensorL_and hT).1 hb).1]
  exact dot_unr (fun x hx => (hpos x hx).1) k (by omega) hk2
theorem sdAt_in (hT : isTensorL T = true) (hs : isShapeL (sdS T d) = true) {k : Nat} (hk : k < T.values.length) : rankW (sdS T d) (sdI T d k) = sdAt T d k ∧ sdAt T d k < (prodW (sdS T d)).toNat ∧ isIndexL (sdS T d) (sdI T d k) = true := by
  obtain ⟨hb, -⟩ := unr_in hT hk
  have hb' : InBox (sdI T d k) (sdS T d) := erase_box hb
  have h := rank_box hs hb'
  have hp := shape_prod hs
  refine ⟨by unfold sdAt; omega, by unfold sdAt; rw [hp.1]; omega, ?_⟩
  obtain ⟨h1, h2⟩ := box_iff.1 hb'
  simp only [isIndexL, Bool.and_eq_true, decide_eq_true_eq, List.all_eq_true, inR_iff]
  refine ⟨h1, fun p hp => ?_⟩
  obtain ⟨k, hk, rfl⟩ := List.getElem_of_mem hp
  simp only [List.length_zip] at hk
  have := h2 k (by omega) (by omega)
  simp only [List.getElem_zip]
  omega
theorem rankOf_at (hT : isTensorL T = true) (hs : isShapeL (sdS T d) = true) {k : Nat} (hk : k < T.values.length) : rankOfL (sdS T d) (sdI T d k) = sdAt T d k := by
  obtain ⟨h1, -, h3⟩ := sdAt_in hT hs hk
  rw [rankOfL, hs, h3]
  exact h1
end

/-! The extents of one tensor whose labels are its dimensions. -/
def extS (s : List Int) : List Int := s ++ List.replicate (5 - s.length) (-1)
theorem ext_to {s : List Int} (hl : s.length ≤ 4) : ∀ d, d ≤ s.length → extD ext0 (upI s.length) s d = some (s.take d ++ List.replicate (5 - d) (-1))
  | 0, _ => by simp [extD, ext0]
  | d + 1, h => by
    rw [extD, ext_to hl d (by omega)]
    have hd : d < s.length := by omega
    have h1 : (upI s.length).getD d 0 = (d : Int) := by simp [upI, hd]
    have h2 : (s.take d ++ List.replicate (5 - d) (-1 : Int)).getD d 0 = -1 := by
      rw [List.getD_eq_getElem?_getD, List.getElem?_append_right (by simp; omega)]
      simp [show min d s.length = d by omega, show 0 < 5 - d by omega]
    have hs : s.getD d 0 = s[d] := by simp [hd]
    simp only [Option.bind_some, h1, Int.toNat_natCast, h2]
    rw [if_neg (by omega), hs]
    congr 1
    rw [List.set_append_right _ _ (by simp; omega)]
    simp only [List.length_take, show min d s.length = d by omega, Nat.sub_self]
    rw [show 5 - d = (4 - d) + 1 by omega, List.replicate_succ, List.set_cons_zero, show 5 - (d + 1) = 4 - d by omega]
    rw [take_snocI _ d hd, List.append_assoc]
    rfl
theorem ext_one {T : TL} (hT : isTensorL T = true) : extentsL [T] [upI T.shape.length] = extS T.shape ∧ okExtents [T] [upI T.shape.length] = true := by
  have hs := shape_ext (isTensorL_and hT).1
  have hok : okTs [T] [upI T.shape.length] = true := by simp [okTs, hT]
  have hf : fitT T (upI T.shape.length) = true := by
    simp only [fitT, Bool.and_eq_true, decide_eq_true_eq, List.all_eq_true]
    refine ⟨upI_length _, fun x hx => ?_⟩
    simp only [upI, List.mem_map, List.mem_range] at hx
    obtain ⟨i, hi, rfl⟩ := hx
    exact inR_yes (by omega) (by omega)
  have h : extentsR [T] [upI T.shape.length] = some (extS T.shape) := by
    rw [extentsR, if_pos hok]
    show (some ext0).bind (fun o => extT o T (upI T.shape.length)) = _
    rw [Option.bind_some, extT, if_pos hf, upI_length, ext_to hs.1 _ (Nat.le_refl _)]
    simp [extS]
  simp [extentsL, okExtents, h]
/-- All extents, those not given being one. -/
def spX (xs : List Int) : List Int := xs.map fun e => if e < 0 then 1 else e
theorem spX_ext {s : List Int} (hs : isShapeL s = true) : spX (extS s) = s ++ List.replicate (5 - s.length) 1 := by
  have h2 := (shape_ext hs).2.1
  simp only [spX, extS, List.map_append, List.map_replicate]
  congr 1
  refine (List.map_congr_left fun x hx => ?_).trans (List.map_id _)
  rw [if_neg (by have := h2 x hx; omega)]
  rfl
theorem prodI_ones (n : Nat) : prodI (List.replicate n 1) = 1 := by
  induction n with
  | zero => rfl
  | succ n ih => rw [List.replicate_succ]; simp only [prodI, ih]; rfl
theorem unr_ones (s : List Int) (n : Nat) (k : Int) : (unr (s ++ List.replicate n 1) k).take s.length = unr s k := by
  apply List.ext_getElem?
  intro j
  by_cases hj : j < s.length
  · rw [List.getElem?_take, if_pos hj, unr_get _ _ _ (by simp; omega), unr_get _ _ _ hj, List.drop_append_of_le_length (by omega), prodI_append, prodI_ones, Int.mul_one, List.getElem_append_left hj]
  · rw [List.getElem?_eq_none (by simp; omega), List.getElem?_eq_none (by rw [unr_length]; omega)]
theorem taken_up {xs : List Int} {n : Nat} (h : n ≤ xs.length) : takenL xs (upI n) = xs.take n := by
  apply List.ext_getElem?
  intro j
  simp only [takenL, upI, List.map_map, List.getElem?_map, List.getElem?_take]
  by_cases hj : j < n
  · have hx : j < xs.length := by omega
    simp [hj, hx]
  · simp [hj]
theorem taken_erase {xs : List Int} {n d : Nat} (h : n ≤ xs.length) : takenL xs ((upI n).eraseIdx d) = (xs.take n).eraseIdx d := by
  rw [← taken_up h]
  apply List.ext_getElem?
  intro j
  simp only [takenL, List.getElem?_map, List.getElem?_eraseIdx]
  split <;> rfl
theorem extS_len {s : List Int} (h : s.length ≤ 4) : (extS s).length = 5 := by simp [extS]; omega
theorem extS_take (s : List Int) : (extS s).take s.length = s := by simp [extS]

end Go.Proofs.Ytfiphjifnjnmbaa

/-! ## SD1v9 -/
namespace Go.Proofs.Ytfiphjifnjnmbaa
open Go.RowKit

set_option maxHeartbeats 800000 in
theorem sUpTo_any (n : Nat) (w : World) (hn : n ≤ 1000000) :
    Calls Try.prog 43 #[.int .i64 n] w (RetOwn w (upI n)) := by
  go_enter Try.func43, Try.ntmps43
  go_wp2
  go_loopw [3, 4] (fun out i wr => ∃ (k : Nat), k ≤ n ∧ i = .int .i64 k ∧ Own wr w.heap.size out (upI k) ∧ Below w.heap.size w wr) (fun _ i _ => n - (intOf i).toNat)
  case atStart => exact ⟨0, Nat.zero_le _, rfl, Own.empty w rfl (Nat.le_refl _), below_alloc w _⟩
  case round =>
    obtain ⟨k, hk, rfl, hown, hb⟩ := hrel
    by_cases hlt : k < n
    · have HT := hid (upI_succ k)
      have HL1 := hid (show (upI k).length ≤ 1000000000000 by rw [upI_length]; omega)
      have hsz : w.heap.size ≤ wr.heap.size := hb.size
      go_wp2_with (at_builtin; refine app1 _ rfl _ _ rfl w.heap.size _ (upI k) rfl (hown.alloc _) ⟨wr.heap.size, 0, none⟩ 1 (k : Int) rfl (cell_new1 _ _ _) HL1.out (le_alloc hsz _) ?_)
      intro v1 w1 ho1 hg1 hat1
      have hq := hb.trans (((below_alloc wr (.cells #[.int .i64 (k : Int)] 3)).mono hsz).trans ((hown.alloc _).under hg1 (le_alloc hsz _)))
      go_wp2
      go_roundw
      case rel => exact ⟨k + 1, by omega, by go_num, by rw [HT.out]; exact ho1, hq⟩
      case measure => simp [intOf]; omega
    · have HE := hid (show k = n by omega)
      go_wp2
      go_ret
      exact ⟨_, rfl, by rw [← HE.out]; exact hown, hb⟩

set_option maxHeartbeats 400000 in
theorem unrank5_any (v : Value) (shape : List Int) (r : Int) (w : World) (h : Ints w v shape) (hpos : ∀ x ∈ shape, 1 ≤ x ∧ x ≤ 60) (hl : shape.length ≤ 5) (hr0 : 0 ≤ r) (hr1 : r ≤ 100) :
    Calls Try.prog 89 #[v, .int .i64 r] w (RetOwn w (unr shape r)) := by
  have HP := hid hpos; clear hpos
  obtain ⟨A, c, rfl, h1, h2, h3⟩ := h
  unfold maxLen at h2
  go_enter Try.func89, Try.ntmps89
  go_wp2_with (at_make; refine mk0 _ rfl _ _ rfl shape.length rfl rfl (by omega) ?_)
  intro w0 hown0 hb0
  go_wp2
  go_loopw [1, 6] (fun q i wr => ∃ (j : Nat) (qi : Int) (xs : List Int), j ≤ shape.length ∧ i = .int .i64 ((j : Int) - 1) ∧ q = .int .i64 qi ∧ IdxRel shape r j qi xs ∧
      Own wr w.heap.size (.slice (some ⟨w.heap.size, 0, none⟩) shape.length shape.length) xs ∧ Below w.heap.size w wr) (fun _ i _ => (intOf i + 1).toNat)
  case atStart => exact ⟨shape.length, r, _, Nat.le_refl _, rfl, rfl, IdxRel.start shape r, hown0, hb0⟩
  case round =>
    obtain ⟨j, qi, xs, hj, rfl, rfl, hrl, hown, hb⟩ := hrel
    have hq := hrl.q_bd hr0 HP.out
    obtain ⟨hq0, hq1⟩ := hq
    have HR := hid hrl; clear hrl
    rcases Nat.eq_zero_or_pos j with h0 | h0
    · subst h0
      go_wp2
      go_ret
      refine ⟨_, rfl, ?_, hb⟩
      rw [← HR.out.end_]
      exact hown
    · obtain ⟨m, rfl⟩ : ∃ m, j = m + 1 := ⟨j - 1, by omega⟩
      have hm : m < shape.length := by omega
      have HS := hid (HR.out.step hm HP.out)
      have hs0 := (HP.out shape[m] (List.getElem_mem hm)).1
      have hs1 := (HP.out shape[m] (List.getElem_mem hm)).2
      obtain ⟨b, off, rfl, hlt, hc⟩ := h3 (by omega)
      have hx := (hb.cell (p := ⟨b, off + m, none⟩) hlt).trans (hc m shape[m] (by simp [hm]))
      have hxl : m < xs.length := by have := HR.out.1; omega
      have hy := hown.cell m hxl
      have hf := hown.free m
      have hne : b ≠ w.heap.size := by omega
      have HO := hid (hown.put m (qi % shape[m]))
      have HB := hid (hb.setCell (p := ⟨w.heap.size, m, none⟩) (Nat.le_refl _) (.int .i64 (qi % shape[m])))
      clear hc h3 hown hb
      go_wp2
      go_roundw
      case rel => exact ⟨m, _, _, by omega, rfl, rfl, HS.out, HO.out, HB.out⟩
      case measure => simp [intOf]


set_option maxRecDepth 100000 in
set_option maxHeartbeats 6400000 in
theorem picked_any (v vi : Value) (xs ix : List Int) (w : World) (h : Ints w v xs) (hi : Ints w vi ix) (hr : ∀ i ∈ ix, 0 ≤ i ∧ i < xs.length) (hl : ix.length ≤ 1000) :
    Calls Try.prog 98 #[v, vi] w (RetOwn w (takenL xs ix)) := by
  obtain ⟨A, c, rfl, -⟩ := h.form
  obtain ⟨A', c', rfl, -⟩ := hi.form
  have HR := hid hr
  clear hr
  go_enter Try.func98, Try.ntmps98
  have HE := hid (Own.empty w (B := w.heap.size) rfl (Nat.le_refl _))
  have HB0 := hid (below_alloc w (.cells #[] 3))
  go_wp2
  go_loopg [5, 6] ix.length (fun m out i wr => ∃ k : Nat, k ≤ ix.length ∧ m = ix.length - k ∧ i = .int .i64 k ∧ Own wr w.heap.size out (takenL xs (ix.take k)) ∧ Below w.heap.size w wr)
  case atStart => exact ⟨0, Nat.zero_le _, rfl, rfl, HE.out, HB0.out⟩
  case round =>
    obtain ⟨k, hk, rfl, rfl, hown, hb⟩ := hrel
    have HO := hid hown
    have HB := hid hb
    have hsz := hb.size
    clear HE HB0
    by_cases hlt : k < ix.length
    · have hki : (k : Int) < (ix.length : Int) := by omega
      have hin := HR.out _ (List.getElem_mem hlt)
      obtain ⟨b1, o1, rfl, x0⟩ := (hi.ext hb).elem k hlt
      obtain ⟨j, hj⟩ : ∃ j : Nat, ix[k] = (j : Int) := ⟨(ix[k]).toNat, by omega⟩
      have HT := hid (takenL_snoc xs ix k hlt)
      rw [hj] at x0 hin HT
      have hjn : j < xs.length := by omega
      obtain ⟨b2, o2, rfl, y0⟩ := (h.ext hb).elem j hjn
      have hjl : (j : Int) < (xs.length : Int) := by omega
      have hj0 : (0 : Int) ≤ (j : Int) := by omega
      obtain ⟨X, eX⟩ : ∃ X, xs[j] = X := ⟨_, rfl⟩
      have HTX := hid (show takenL xs (ix.take (k + 1)) = takenL xs (ix.take k) ++ [X] by rw [HT.out]; simp [hjn, eX])
      rw [eX] at y0
      have HL1 := hid (show (takenL xs (ix.take k)).length ≤ 1000000000000 by simp [takenL]; omega)
      have hw : IntKind.i64.wrap ((k : Int) + 1) = (k : Int) + 1 := IntWalk.i64_in _ (by omega)
      obtain ⟨A9, c9, e9⟩ := hown.form
      clear hj eX hin HT hb hown
      subst e9
      go_wp2_with (at_builtin; refine app1 _ rfl _ _ rfl w.heap.size _ (takenL xs (ix.take k)) rfl (HO.out.alloc _) ⟨wr.heap.size, 0, none⟩ 1 X rfl (cell_new1 _ _ _) HL1.out (le_alloc hsz _) ?_)
      intro v1 w1 ho1 hg1 hat1
      have hq := HB.out.trans (((below_alloc wr (.cells #[.int .i64 X] 3)).mono hsz).trans ((HO.out.alloc _).under hg1 (le_alloc hsz _)))
      clear hg1 hat1
      go_wp2
      go_roundg (ix.length - (k + 1))
      case measure => omega
      case rel => exact ⟨k + 1, by omega, rfl, by congr 1, by rw [HTX.out]; exact ho1, hq⟩
    · have hki : ¬ (k : Int) < (ix.length : Int) := by omega
      have HQ := hid (show takenL xs (ix.take k) = takenL xs ix by rw [List.take_of_length_le (by omega)])
      clear hown hb
      go_wp2
      go_ret
      exact ⟨_, rfl, by rw [← HQ.out]; exact HO.out, HB.out⟩

/-- What the space of extents is. -/
def RetSpace (w : World) (xs : List Int) (e : Ending) (w' : World) : Prop := ∃ r, e = .returned (.tuple #[r, .int .i64 (prodW (spX xs))]) ∧ Own w' w.heap.size r (spX xs) ∧ Below w.heap.size w w'
theorem spX_snoc (xs : List Int) (k : Nat) (h : k < xs.length) : spX (xs.take (k + 1)) = spX (xs.take k) ++ [if xs[k] < 0 then 1 else xs[k]] := by
  rw [take_snocI _ k h, spX, List.map_append]; rfl
set_option maxRecDepth 100000 in
set_option maxHeartbeats 6400000 in
theorem space_any (v : Value) (xs : List Int) (w : World) (h : Ints w v xs) (hl : xs.length ≤ 1000) : Calls Try.prog 83 #[v] w (RetSpace w xs) := by
  obtain ⟨A, c, rfl, -⟩ := h.form
  go_enter Try.func83, Try.ntmps83
  have HE := hid (Own.empty w (B := w.heap.size) rfl (Nat.le_refl _))
  have HB0 := hid (below_alloc w (.cells #[] 3))
  go_wp2
  go_loopg [4, 5, 6, 7] xs.length (fun m out p i t wr => ∃ k : Nat, k ≤ xs.length ∧ m = xs.length - k ∧ i = .int .i64 k ∧ p = .int .i64 (prodW (spX (xs.take k))) ∧ Own wr w.heap.size out (spX (xs.take k)) ∧ Below w.heap.size w wr)
  case atStart => exact ⟨0, Nat.zero_le _, rfl, rfl, rfl, HE.out, HB0.out⟩
  case round =>
    obtain ⟨k, hk, rfl, rfl, rfl, hown, hb⟩ := hrel
    have HO := hid hown
    have HB := hid hb
    have hsz := hb.size
    clear HE HB0
    by_cases hlt : k < xs.length
    · have hki : (k : Int) < (xs.length : Int) := by omega
      obtain ⟨b1, o1, rfl, x0⟩ := (h.ext hb).elem k hlt
      have HS := hid (spX_snoc xs k hlt)
      have HL1 := hid (show (spX (xs.take k)).length ≤ 1000000000000 by simp [spX]; omega)
      have hw : IntKind.i64.wrap ((k : Int) + 1) = (k : Int) + 1 := IntWalk.i64_in _ (by omega)
      obtain ⟨A9, c9, e9⟩ := hown.form
      obtain ⟨X, eX⟩ : ∃ X, xs[k] = X := ⟨_, rfl⟩
      rw [eX] at x0 HS
      clear hb hown eX
      subst e9
      by_cases hneg : X < 0
      · rw [if_pos hneg] at HS
        have HPS := hid (show prodW (spX (xs.take (k + 1))) = wrap64 (prodW (spX (xs.take k)) * 1) by rw [HS.out, prodW_snoc])
        go_wp2_with (at_builtin; refine app1 _ rfl _ _ rfl w.heap.size _ (spX (xs.take k)) rfl (HO.out.alloc _) ⟨wr.heap.size, 0, none⟩ 1 1 rfl (cell_new1 _ _ _) HL1.out (le_alloc hsz _) ?_)
        intro v1 w1 ho1 hg1 hat1
        have hq := HB.out.trans (((below_alloc wr (.cells #[.int .i64 1] 3)).mono hsz).trans ((HO.out.alloc _).under hg1 (le_alloc hsz _)))
        clear hg1 hat1
        go_wp2
        go_roundg (xs.length - (k + 1))
        case measure => omega
        case rel => exact ⟨k + 1, by omega, rfl, by congr 1, by rw [HPS.out, Int.mul_one], by rw [HS.out]; exact ho1, hq⟩
      · rw [if_neg hneg] at HS
        have HPS := hid (show prodW (spX (xs.take (k + 1))) = wrap64 (prodW (spX (xs.take k)) * X) by rw [HS.out, prodW_snoc])
        go_wp2_with (at_builtin; refine app1 _ rfl _ _ rfl w.heap.size _ (spX (xs.take k)) rfl (HO.out.alloc _) ⟨wr.heap.size, 0, none⟩ 1 X rfl (cell_new1 _ _ _) HL1.out (le_alloc hsz _) ?_)
        intro v1 w1 ho1 hg1 hat1
        have hq := HB.out.trans (((below_alloc wr (.cells #[.int .i64 X] 3)).mono hsz).trans ((HO.out.alloc _).under hg1 (le_alloc hsz _)))
        clear hg1 hat1
        go_wp2
        go_roundg (xs.length - (k + 1))
        case measure => omega
        case rel => exact ⟨k + 1, by omega, rfl, by congr 1, by rw [HPS.out], by rw [HS.out]; exact ho1, hq⟩
    · have hki : ¬ (k : Int) < (xs.length : Int) := by omega
      have HQ := hid (show spX (xs.take k) = spX xs by rw [List.take_of_length_le (by omega)])
      clear hown hb
      go_wp2
      refine bodyPost_ret (v := .tuple #[u4, .int .i64 (prodW (spX (xs.take k)))]) (by simp [results, Try.results83, go_sem]) rfl ?_
      exact ⟨_, by rw [HQ.out], by rw [← HQ.out]; exact HO.out, HB.out⟩

set_option maxRecDepth 100000 in
set_option maxHeartbeats 6400000 in
theorem goodOut_any (vo ve : Value) (out E : List Int) (w : World) (ho : Ints w vo out) (he : Ints w ve E) (h1 : out.all (inR · 0 4) = true) (h2 : diffL out = true) (h3 : (takenL E out).all (inR · 0 60) = true) (h4 : E.length = 5) (hl : out.length ≤ 1000) :
    Calls Try.prog 82 #[vo, ve] w fun e w' => e = .returned (.bool (isShapeL (takenL E out))) ∧ Below w.heap.size w w' := by
  have HR := hid (show ∀ i ∈ out, 0 ≤ i ∧ i < (E.length : Int) from fun i hi => by
    have := List.all_eq_true.1 h1 i hi
    rw [inR_iff] at this
    omega)
  have H1 := hid h1
  have H2 := hid h2
  have H3 := hid h3
  clear h1 h2 h3 h4
  go_enter Try.func82, Try.ntmps82
  go_wp2_with fail
  refine (allIn_any _ out 0 4 _ ho).mono ?_; rintro e w' ⟨rfl, rfl⟩
  rw [H1.out]
  go_wp2_with fail
  refine (different_any _ out _ ho).mono ?_; rintro e w1 ⟨rfl, hb1⟩
  rw [H2.out]
  have ho1 := ho.ext hb1
  have he1 := he.ext hb1
  go_wp2_with fail
  refine (picked_any _ _ E out _ he1 ho1 HR.out hl).mono ?_; rintro e w2 ⟨r1, rfl, hr1, hb2⟩
  obtain ⟨A1, c1, rfl⟩ := hr1.form
  have hb12 := hb1.nx hb2 hb1.size
  go_wp2_with fail
  refine (allIn_any _ _ 0 60 _ hr1.ints).mono ?_; rintro e w' ⟨rfl, rfl⟩
  rw [H3.out]
  have ho2 := ho.ext hb12
  have he2 := he.ext hb12
  clear hr1 hb2 ho1 he1
  go_wp2_with fail
  refine (picked_any _ _ E out _ he2 ho2 HR.out hl).mono ?_; rintro e w3 ⟨r2, rfl, hr2, hb3⟩
  obtain ⟨A2, c2, rfl⟩ := hr2.form
  have hb13 := hb12.nx hb3 hb12.size
  go_wp2_with fail
  refine (validShape_any _ _ _ hr2.ints).mono ?_; rintro e w' ⟨rfl, rfl⟩
  go_wp2
  go_ret
  exact ⟨rfl, hb13⟩

end Go.Proofs.Ytfiphjifnjnmbaa

/-! ## SD2v9 -/
namespace Go.Proofs.Ytfiphjifnjnmbaa
open Go.RowKit

theorem prodW_ones {s : List Int} (hs : isShapeL s = true) : ∀ m, prodW (s ++ List.replicate m 1) = prodI s
  | 0 => by simpa using (shape_prod hs).1
  | m + 1 => by
    have hp := shape_prod hs
    rw [List.replicate_succ', ← List.append_assoc, prodW_snoc, prodW_ones hs m, Int.mul_one]
    exact wrap_small (by omega) (by omega)
theorem upI_in {n d : Nat} : ∀ i ∈ (upI n).eraseIdx d, 0 ≤ i ∧ i < n := fun i hi => by
  have := List.mem_of_mem_eraseIdx hi
  simp only [upI, List.mem_map, List.mem_range] at this
  obtain ⟨j, hj, rfl⟩ := this
  omega
theorem upI_in' {n : Nat} : ∀ i ∈ upI n, 0 ≤ i ∧ i < n := fun i hi => by
  simp only [upI, List.mem_map, List.mem_range] at hi
  obtain ⟨j, hj, rfl⟩ := hi
  omega

set_option maxRecDepth 100000 in
set_option maxHeartbeats 6400000 in
theorem contracted_core (v vl vo ve : Value) (sh vals U O E AX S' : List Int) (idx I1 I2 V : Nat → List Int) (at_ : Nat → Nat) (M : Nat) (w : World)
    (hv : TensorsV w v [⟨sh, vals⟩]) (hl : IntsS w vl [U]) (ho : Ints w vo O) (he : Ints w ve E)
    (HE5 : Hid (E.length = 5)) (HUL : Hid (U.length = sh.length)) (HOL : Hid (O.length ≤ 4)) (hs4 : sh.length ≤ 4) (HAX : Hid (spX E = AX)) (HAL : Hid (AX.length = 5)) (HPN : Hid (prodW AX = (vals.length : Int))) (hN60 : vals.length ≤ 60)
    (HXB : Hid (∀ x ∈ AX, 0 < vals.length → 1 ≤ x ∧ x ≤ 60)) (HPO : Hid (takenL E O = S')) (HIX : Hid (∀ k : Nat, unr AX k = idx k)) (HIL : Hid (∀ k, (idx k).length = 5))
    (HI1 : Hid (∀ k, takenL (idx k) U = I1 k)) (HI2 : Hid (∀ k, takenL (idx k) O = I2 k)) (HL1 : Hid (∀ k, sh.length = (I1 k).length)) (HL2 : Hid (∀ k, S'.length = (I2 k).length))
    (HUB : Hid (∀ i ∈ U, 0 ≤ i ∧ i < (5 : Int))) (HOB : Hid (∀ i ∈ O, 0 ≤ i ∧ i < (5 : Int)))
    (HR1 : Hid (∀ k, k < vals.length → rankW sh (I1 k) = k)) (HR2 : Hid (∀ k, k < vals.length → rankW S' (I2 k) = at_ k ∧ at_ k < M))
    (HM : Hid (prodW S' = (M : Int))) (hM60 : M ≤ 60) (HV0 : Hid (V 0 = List.replicate M 0)) (HVL : Hid (∀ k, (V k).length = M))
    (HBD : Hid (∀ x ∈ vals, -1000000 ≤ x ∧ x ≤ 1000000)) (HVS : Hid (∀ k, V (k + 1) = (V k).set (at_ k) (wrap64 ((V k).getD (at_ k) 0 + vals.getD k 0)))) :
    Calls Try.prog 84 #[v, vl, vo, ve] w (RetTensor w ⟨S', V vals.length⟩) := by
  obtain ⟨A, c, rfl, hk1, hm1⟩ := hv.form
  obtain ⟨b, off, u1, u2, rfl, x0, x1, hTV⟩ := hv.at_ 0 (show 0 < 1 by omega)
  have x0 : w.cell? ⟨b, off, none⟩ = some u1 := by simpa using x0
  have x1 : w.cell? ⟨b, off + 1, none⟩ = some u2 := by simpa using x1
  obtain ⟨Al, cl, rfl, hkl, hml⟩ := hl.form
  obtain ⟨bl, ol, u3, rfl, y0, hu3⟩ := hl.elem 0 (show 0 < 1 by omega)
  have y0 : w.cell? ⟨bl, ol, none⟩ = some u3 := by simpa using y0
  have hu3 : Ints w u3 U := hu3
  obtain ⟨sv, tv, etv, hs1, ht1⟩ := hTV
  have etv : u1 = sv ∧ u2 = tv := by simpa using etv
  obtain ⟨rfl, rfl⟩ := etv
  have hs1 : Ints w u1 sh := hs1
  have ht1 : Ints w u2 vals := ht1
  obtain ⟨A1, c1, rfl, -⟩ := hs1.form
  obtain ⟨A2, c2, rfl, -⟩ := ht1.form
  obtain ⟨A3, c3, rfl, -⟩ := hu3.form
  rw [HUL.out] at hu3 y0
  obtain ⟨Ao, co, rfl, -⟩ := ho.form
  obtain ⟨Ae, ce, rfl, -⟩ := he.form
  have X0 := hid x0
  have X1 := hid x1
  have Y0 := hid y0
  have HU3 := hid hu3
  have HS1 := hid hs1
  have HT1 := hid ht1
  have HOO := hid ho
  have hbl : b < w.heap.size := World.block_lt_of_cell? _ _ x0
  have hbll : bl < w.heap.size := World.block_lt_of_cell? _ _ y0
  have H1 := hid ((Hp.start w).alloc 25 #[.slice none 0 0, .slice none 0 0])
  have he1 := he.ext (below_alloc w (.cells #[.slice none 0 0, .slice none 0 0] 25))
  clear x0 x1 y0 hu3 hs1 ht1 ho he hl hv
  go_enter Try.func84, Try.ntmps84
  go_upto_region 1 with fail
  generalize (w.alloc (.cells #[.slice none 0 0, .slice none 0 0] 25)) = w1 at *
  have hle5 : E.length ≤ 1000 := by have := HE5.out; omega
  go_wp2_with fail
  refine (space_any _ _ _ he1 hle5).mono ?_; rintro e w2 ⟨r1, rfl, hr1, hb⟩
  rw [HAX.out] at hr1
  rw [HAX.out, HPN.out]
  have H2 := hid (H1.out.row hr1 hb)
  obtain ⟨Aa, ca, ea⟩ := hr1.form
  rw [HAL.out] at ea
  subst ea
  have he2 := he1.ext hb
  have ho2 := HOO.out.ext H2.out.below
  clear hb hr1 he1 H1
  have hOl1 : O.length ≤ 1000 := by have := HOL.out; omega
  go_wp2_with fail
  refine (picked_any _ _ _ _ _ he2 ho2 (by rw [HE5.out]; exact HOB.out) hOl1).mono ?_; rintro e w3 ⟨r2, rfl, hr2, hb⟩
  rw [HPO.out] at hr2
  have H3 := hid (H2.out.row hr2 hb)
  obtain ⟨As, cs, es⟩ := hr2.form
  subst es
  have H4 := hid ((H3.out.alloc 25 #[.slice As S'.length cs, .slice none 0 0]))
  simp only [List.nil_append, List.cons_append] at H4
  clear hb hr2 H2 H3 he2 ho2
  go_upto_region 3 with fail
  generalize (w3.alloc (.cells #[.slice As S'.length cs, .slice none 0 0] 25)) = w4 at *
  generalize w3.heap.size = g11 at *
  obtain ⟨⟨z0, z1⟩, k0, k1⟩ := (H4.out.blk 3 rfl).all2
  go_wp2_with fail
  refine (count_any _ _ _ (H4.out.ints 2 rfl).ints).mono ?_; rintro e w' ⟨rfl, rfl⟩
  rw [HM.out]
  go_wp2_with (at_make; refine mk0 _ rfl _ _ rfl M rfl rfl (by omega) ?_)
  intro w5 hR hb
  have H5 := hid (H4.out.row hR hb)
  clear z0 z1 k0 k1 hR hb H4
  generalize w4.heap.size = gv at *
  simp only [List.nil_append, List.cons_append] at H5
  obtain ⟨⟨z0, z1⟩, k0, k1⟩ := (H5.out.blk 3 rfl).all2
  have H6 := H5.out.store 3 rfl 1 (.slice (some ⟨gv, 0, none⟩) M M)
  rw [← HV0.out] at H6
  simp only [List.set_cons_succ, List.set_cons_zero, List.setIfInBounds_toArray] at H6
  have H6 := hid H6
  clear H5
  go_wp2_with fail
  clear z0 z1 k0 k1
  go_loopg [12, 13, 14, 15, 16] vals.length (fun m i a p j e wr => ∃ k : Nat, k ≤ vals.length ∧ m = vals.length - k ∧ i = .int .i64 k ∧
    Hp w.heap.size w wr [.blk w.heap.size 25 #[.slice none 0 0, .slice none 0 0], .ints (.slice Aa 5 ca) AX, .ints (.slice As S'.length cs) S', .blk g11 25 #[.slice As S'.length cs, .slice (some ⟨gv, 0, none⟩) M M], .ints (.slice (some ⟨gv, 0, none⟩) M M) (V k)])
  case atStart => exact ⟨0, Nat.zero_le _, rfl, rfl, H6.out⟩
  case round =>
    obtain ⟨k, hk, rfl, rfl, H⟩ := hrel
    clear H6
    have HH := hid H
    clear H
    by_cases hlt : k < vals.length
    case neg =>
      have hki : ¬ (k : Int) < (vals.length : Int) := by omega
      have hkk : k = vals.length := by omega
      obtain ⟨⟨r0, r1⟩, s0, s1⟩ := (HH.out.blk 0 rfl).all2
      obtain ⟨⟨z0, z1⟩, k0, k1⟩ := (HH.out.blk 3 rfl).all2
      have HF := HH.out.store2 0 rfl (.slice As S'.length cs) (.slice (some ⟨gv, 0, none⟩) M M)
      rw [hkk] at HF
      have HF := hid HF
      clear hkk
      go_wp2
      refine bodyPost_ret (v := .agg #[.slice As S'.length cs, .slice (some ⟨gv, 0, none⟩) M M]) (by simp [results, Try.results84, go_sem, r0, r1]) rfl ?_
      exact ⟨_, _, rfl, HF.out.ints 2 rfl, HF.out.ints 4 rfl, HF.out.apart 2 4 rfl rfl (by omega), HF.out.below⟩
    have hki : (k : Int) < (vals.length : Int) := by omega
    have hXB := HXB.out
    have hk100 : (0 : Int) ≤ (k : Int) ∧ (k : Int) ≤ 100 := by omega
    have HUR := hid (fun ww (h : Ints ww (.slice Aa 5 ca) AX) => unrank5_any (.slice Aa 5 ca) AX k ww h (fun x hx => hXB x hx (by omega)) (by have := HAL.out; omega) hk100.1 hk100.2)
    clear hXB hk100
    go_wp2_with fail
    refine (HUR.out _ (HH.out.ints 1 rfl).ints).mono ?_; rintro e w7 ⟨r7, rfl, hr7, hb⟩
    rw [HIX.out] at hr7
    have H7 := hid (HH.out.row hr7 hb)
    obtain ⟨A7, c7, e7⟩ := hr7.form
    rw [HIL.out] at e7
    subst e7
    simp only [List.nil_append, List.cons_append] at H7
    clear hr7 hb HH HUR
    obtain ⟨X, hX⟩ : ∃ X, vals.getD k 0 = X := ⟨_, rfl⟩
    have hXk : vals[k] = X := by rw [← hX]; simp [hlt]
    have hXb := HBD.out _ (List.getElem_mem hlt)
    obtain ⟨bv, ov, rfl, xv⟩ := HT1.out.elem k hlt
    rw [hXk] at xv hXb
    have XV := hid xv
    have HVX := hid hX
    have hw1 : IntKind.i64.wrap X = X := IntWalk.i64_in _ (by omega)
    have hw2 : IntKind.i64.wrap (1 * X) = X := by rw [Int.one_mul]; exact hw1
    have hbv : bv < w.heap.size := World.block_lt_of_cell? _ _ xv
    have hk0 : (0 : Int) ≤ (k : Int) := by omega
    clear xv hX hXk hXb
    go_upto_region 10 with fail
    go_loopg [14, 15] 1 (fun m p j wr => ∃ q : Nat, ((q = 0 ∧ p = .int .i64 1 ∧ j = .int .i64 0) ∨ (q = 1 ∧ p = .int .i64 X ∧ j = .int .i64 1)) ∧ m = 1 - q ∧ Hp w.heap.size w wr [.blk w.heap.size 25 #[.slice none 0 0, .slice none 0 0], .ints (.slice Aa 5 ca) AX, .ints (.slice As S'.length cs) S', .blk g11 25 #[.slice As S'.length cs, .slice (some ⟨gv, 0, none⟩) M M], .ints (.slice (some ⟨gv, 0, none⟩) M M) (V k), .ints (.slice A7 5 c7) (idx k)])
    case atStart => exact ⟨0, .inl ⟨rfl, rfl, rfl⟩, rfl, H7.out⟩
    case round =>
      obtain ⟨q, hq, rfl, H⟩ := hrel
      clear H7
      have HH := hid H
      clear H
      rcases hq with ⟨rfl, rfl, rfl⟩ | ⟨rfl, rfl, rfl⟩
      · have x0 := (HH.out.below.cell (p := ⟨b, off, none⟩) hbl).trans X0.out
        have x1 := (HH.out.below.cell (p := ⟨b, off + 1, none⟩) hbl).trans X1.out
        have y0 := (HH.out.below.cell (p := ⟨bl, ol, none⟩) hbll).trans Y0.out
        have xv := (HH.out.below.cell (p := ⟨bv, ov + k, none⟩) hbv).trans XV.out
        have hu := HU3.out.ext HH.out.below
        have hs := HS1.out.ext HH.out.below
        have hix := HH.out.ints 5 rfl
        have HPK := hid (fun x : ExtW wr => picked_any (.slice A7 5 c7) (.slice A3 sh.length c3) (idx k) U x.v (hix.ext x.h).ints (hu.ext x.h) (by rw [HIL.out]; exact HUB.out) (by rw [HUL.out]; omega))
        rw [HI1.out] at HPK
        have HRR := hid (fun x : ExtW wr => hs.ext x.h)
        have hrk := hid (HR1.out k hlt)
        clear hu hs hix
        go_upto_region 12 with fail
        have qx0 := fun x : ExtW wr => (x.h.cell (p := ⟨b, off, none⟩) (World.block_lt_of_cell? _ _ x0)).trans x0
        have qx1 := fun x : ExtW wr => (x.h.cell (p := ⟨b, off + 1, none⟩) (World.block_lt_of_cell? _ _ x1)).trans x1
        have qy0 := fun x : ExtW wr => (x.h.cell (p := ⟨bl, ol, none⟩) (World.block_lt_of_cell? _ _ y0)).trans y0
        have qxv := fun x : ExtW wr => (x.h.cell (p := ⟨bv, ov + k, none⟩) (World.block_lt_of_cell? _ _ xv)).trans xv
        refine region_mk 21 (by kernel_rfl) (by kernel_rfl) ?_
        apply Exists.intro
        simp only [List.take_succ_cons, List.take_zero, List.drop_succ_cons, List.drop_zero]
        repeat (first
          | (apply grow_val (by rfl); (focus (intro x; (go_simp; try with_reducible rfl); done)); simp only [Act.put, List.setIfInBounds_toArray, List.set_cons_zero, List.set_cons_succ])
          | (apply grow_skip (by rfl); simp only [Act.put, List.setIfInBounds_toArray, List.set_cons_zero, List.set_cons_succ]))
        apply grow_ints (I1 k) (by rfl)
        · intro x hF K Q hK
          go_simp
          go_at_call 98;(with_reducible refine (HPK.out x).mono ?_);rintro e w' ⟨v1, rfl, ho, hb⟩;exact hK _ _ hb ho
        intro A16 c16 F16 O16 hF16 hO16
        simp only [Act.put, List.setIfInBounds_toArray, List.set_cons_zero, List.set_cons_succ]
        repeat (first
          | (apply grow_val (by rfl); (focus (intro x; (go_simp; try with_reducible rfl); done)); simp only [Act.put, List.setIfInBounds_toArray, List.set_cons_zero, List.set_cons_succ])
          | (apply grow_skip (by rfl); simp only [Act.put, List.setIfInBounds_toArray, List.set_cons_zero, List.set_cons_succ]))
        apply grow_callG (by rfl)
        · intro x hF K Q hK
          have h16 := hF16 _ (hF 16 (by kernel_rfl))
          go_simp
          refine (rank_any _ _ sh (I1 k) _ (HRR.out x) h16.ints (HL1.out k)).mono ?_
          rintro e w' ⟨rfl, hb⟩
          rw [hrk.out]
          exact hK _ hb
        simp only [Act.put, List.setIfInBounds_toArray, List.set_cons_zero, List.set_cons_succ]
        repeat (first
          | (apply grow_val (by rfl); (focus (intro x; (go_simp; try with_reducible rfl); done)); simp only [Act.put, List.setIfInBounds_toArray, List.set_cons_zero, List.set_cons_succ])
          | (apply grow_skip (by rfl); simp only [Act.put, List.setIfInBounds_toArray, List.set_cons_zero, List.set_cons_succ]))
        refine grow_nil ?_
        rintro ⟨w8, hb8⟩ hF hS
        have hb8 : Below wr.heap.size wr w8 := hb8
        have H8 := hid (HH.out.nx hb8)
        clear hF hS hF16 hO16 qx0 qx1 qy0 qxv x0 x1 y0 xv hb8 HH
        go_wp2
        go_roundg 0
        case measure => omega
        case rel => exact ⟨1, .inr ⟨rfl, rfl, rfl⟩, rfl, H8.out⟩
      · have ho := HOO.out.ext HH.out.below
        have hix := HH.out.ints 5 rfl
        have hsp := HH.out.ints 2 rfl
        have hbx := HH.out.blk 3 rfl
        have HPK := hid (fun x : ExtW wr => picked_any (.slice A7 5 c7) (.slice Ao O.length co) (idx k) O x.v (hix.ext x.h).ints (ho.ext x.h) (by rw [HIL.out]; exact HOB.out) (by have := HOL.out; omega))
        rw [HI2.out] at HPK
        have HRR := hid (fun x : ExtW wr => (hsp.ext x.h).ints)
        obtain ⟨a, ha⟩ : ∃ a, at_ k = a := ⟨_, rfl⟩
        have hr2 := HR2.out k hlt
        have hvs := HVS.out k
        rw [ha] at hr2 hvs
        rw [HVX.out] at hvs
        have hrk := hid hr2.1
        have ham : a < M := hr2.2
        have HVSK := hid hvs
        clear ho hix hsp ha hr2 hvs
        go_upto_region 13 with fail
        have qz := fun x : ExtW wr => (x.at_ hbx).all2.1
        refine region_mk 6 (by kernel_rfl) (by kernel_rfl) ?_
        apply Exists.intro
        simp only [List.take_succ_cons, List.take_zero, List.drop_succ_cons, List.drop_zero]
        repeat (first
          | (apply grow_val (by rfl); (focus (intro x; (go_simp; try with_reducible rfl); done)); simp only [Act.put, List.setIfInBounds_toArray, List.set_cons_zero, List.set_cons_succ])
          | (apply grow_skip (by rfl); simp only [Act.put, List.setIfInBounds_toArray, List.set_cons_zero, List.set_cons_succ]))
        apply grow_ints (I2 k) (by rfl)
        · intro x hF K Q hK
          go_simp
          go_at_call 98;(with_reducible refine (HPK.out x).mono ?_);rintro e w' ⟨v1, rfl, ho, hb⟩;exact hK _ _ hb ho
        intro A4 c4 F4 O4 hF4 hO4
        simp only [Act.put, List.setIfInBounds_toArray, List.set_cons_zero, List.set_cons_succ]
        repeat (first
          | (apply grow_val (by rfl); (focus (intro x; (go_simp; try with_reducible rfl); done)); simp only [Act.put, List.setIfInBounds_toArray, List.set_cons_zero, List.set_cons_succ])
          | (apply grow_skip (by rfl); simp only [Act.put, List.setIfInBounds_toArray, List.set_cons_zero, List.set_cons_succ]))
        apply grow_callG (by rfl)
        · intro x hF K Q hK
          have h4 := hF4 _ (hF 4 (by kernel_rfl))
          go_simp
          refine (rank_any _ _ S' (I2 k) _ (HRR.out x) h4.ints (HL2.out k)).mono ?_
          rintro e w' ⟨rfl, hb⟩
          rw [hrk.out]
          exact hK _ hb
        simp only [Act.put, List.setIfInBounds_toArray, List.set_cons_zero, List.set_cons_succ]
        refine grow_nil ?_
        rintro ⟨w8, hb8⟩ hF hS
        have hb8 : Below wr.heap.size wr w8 := hb8
        have H8 := hid (HH.out.nx hb8)
        clear hF hS hF4 hO4 qz hb8 HH HPK HRR hbx
        go_upto_region 14 with fail
        have hbx := H8.out.blk 3 rfl
        obtain ⟨y, hy⟩ : ∃ y, (V k).getD a 0 = y := ⟨_, rfl⟩
        have hak : a < (V k).length := by rw [HVL.out]; exact ham
        have hyc : w8.cell? ⟨gv, a, none⟩ = some (.int .i64 y) := by
          rw [(H8.out.ints 4 rfl).cell a hak, ← hy]; simp [hak]
        have hva := HVSK.out
        rw [hy] at hva
        have HVA := hid hva
        have hai : (a : Int) < (M : Int) := by omega
        have ha0 : (0 : Int) ≤ (a : Int) := by omega
        clear hy hak hva
        have qz := fun x : ExtW w8 => (x.at_ hbx).all2.1
        have qy := fun x : ExtW w8 => (x.h.cell (p := ⟨gv, a, none⟩) (World.block_lt_of_cell? _ _ hyc)).trans hyc
        refine region_mk 11 (by kernel_rfl) (by kernel_rfl) ?_
        apply Exists.intro
        simp only [List.take_succ_cons, List.take_zero, List.drop_succ_cons, List.drop_zero]
        repeat (first
          | (apply grow_val (by rfl); (focus (intro x; (go_simp; try with_reducible rfl); done)); simp only [Act.put, List.setIfInBounds_toArray, List.set_cons_zero, List.set_cons_succ])
          | (apply grow_skip (by rfl); simp only [Act.put, List.setIfInBounds_toArray, List.set_cons_zero, List.set_cons_succ]))
        refine grow_nil ?_
        rintro ⟨w9, hb9⟩ hF hS
        have hb9 : Below w8.heap.size w8 w9 := hb9
        have H9 := hid (H8.out.nx hb9)
        clear hF hS qz qy hb9 H8 hbx
        have hyc := (H9.out.ints 4 rfl).cell a (by rw [HVL.out]; exact ham)
        have hyf := (H9.out.ints 4 rfl).free a
        have H10 := H9.out.put 4 rfl a (wrap64 (y + X))
        rw [← HVA.out] at H10
        have H11 := hid (H10.pick [0, 1, 2, 3, 4] (by decide))
        have HFIN : Hid (Hp w.heap.size w (w9.setCell ⟨gv, a, none⟩ (.int .i64 (wrap64 (y + X)))) [.blk w.heap.size 25 #[.slice none 0 0, .slice none 0 0], .ints (.slice Aa 5 ca) AX, .ints (.slice As S'.length cs) S', .blk g11 25 #[.slice As S'.length cs, .slice (some ⟨gv, 0, none⟩) M M], .ints (.slice (some ⟨gv, 0, none⟩) M M) (V (k + 1))]) := H11
        have hwk : IntKind.i64.wrap ((k : Int) + 1) = (k : Int) + 1 := IntWalk.i64_in _ (by omega)
        clear H10 H11
        go_wp2
        go_roundg (vals.length - (k + 1))
        case measure => omega
        case rel => exact ⟨k + 1, by omega, rfl, by congr 1, HFIN.out⟩

set_option maxRecDepth 100000 in
set_option maxHeartbeats 6400000 in
theorem contracted_any (v vl vo ve : Value) (T : TL) (d : Nat) (w : World) (hv : TensorsV w v [T]) (hl : IntsS w vl [upI T.shape.length]) (ho : Ints w vo ((upI T.shape.length).eraseIdx d)) (he : Ints w ve (extS T.shape))
    (hT : isTensorL T = true) (hS : isShapeL (sdS T d) = true) :
    Calls Try.prog 84 #[v, vl, vo, ve] w (RetTensor w (sdT T d)) := by
  have hs4 := (shape_ext (isTensorL_and hT).1).1
  have hE5 := extS_len hs4
  have hOl : ((upI T.shape.length).eraseIdx d).length ≤ 4 := Nat.le_trans (List.length_eraseIdx_le _ _) (by rw [upI_length]; exact hs4)
  have hPX : spX (extS T.shape) = T.shape ++ List.replicate (5 - T.shape.length) 1 := spX_ext (isTensorL_and hT).1
  have hXl : (spX (extS T.shape)).length = 5 := by simp [spX, hE5]
  have hXB : ∀ x ∈ spX (extS T.shape), 0 < T.values.length → 1 ≤ x ∧ x ≤ 60 := fun x hx hn => by
    rw [hPX] at hx
    rcases List.mem_append.1 hx with hx | hx
    · exact (unr_in hT hn).2.1 x hx
    · rw [(List.mem_replicate.1 hx).2]; omega
  have hpN : prodW (spX (extS T.shape)) = (T.values.length : Int) := by
    rw [hPX, prodW_ones (isTensorL_and hT).1, (isTensorL_and hT).2.1, (shape_prod (isTensorL_and hT).1).1]
  have hN60 : T.values.length ≤ 60 := by
    have a := shape_prod (isTensorL_and hT).1
    have b := (isTensorL_and hT).2.1
    rw [a.1] at b
    omega
  have hPO : takenL (extS T.shape) ((upI T.shape.length).eraseIdx d) = sdS T d := by rw [taken_erase (by omega), extS_take]; rfl
  have hIU : ∀ k : Nat, takenL (unr (spX (extS T.shape)) k) (upI T.shape.length) = unr T.shape k := fun k => by rw [taken_up (by rw [unr_length]; omega), hPX, unr_ones]
  have hIO : ∀ k : Nat, takenL (unr (spX (extS T.shape)) k) ((upI T.shape.length).eraseIdx d) = sdI T d k := fun k => by rw [taken_erase (by rw [unr_length]; omega), hPX, unr_ones]; rfl
  obtain ⟨M, hM, hM60⟩ : ∃ M : Nat, prodW (sdS T d) = (M : Int) ∧ M ≤ 60 := by
    have := shape_prod hS
    exact ⟨(prodI (sdS T d)).toNat, by rw [this.1]; omega, by omega⟩
  refine contracted_core v vl vo ve T.shape T.values (upI T.shape.length) ((upI T.shape.length).eraseIdx d) (extS T.shape) (spX (extS T.shape)) (sdS T d) (fun k => unr (spX (extS T.shape)) k) (fun k => unr T.shape k) (fun k => sdI T d k) (sdV T d) (sdAt T d) M w hv hl ho he
    (hid hE5) (hid (upI_length _)) (hid hOl) hs4 (hid rfl) (hid hXl) (hid hpN) hN60 (hid hXB) (hid hPO) (hid fun _ => rfl) (hid fun k => by rw [unr_length]; exact hXl) (hid hIU) (hid hIO) (hid fun k => (unr_length _ _).symm)
    (hid fun k => by simp only [sdS, sdI, List.length_eraseIdx, unr_length]) (hid fun i hi => ?_) (hid fun i hi => ?_) (hid fun k hk => rank_unr hT hk) (hid fun k hk => ?_) (hid hM) hM60 (hid ?_) (hid fun k => ?_) (hid (isTensorL_and hT).2.2) (hid fun k => rfl)
  · have := upI_in' i hi
    omega
  · have := upI_in i hi
    omega
  · have h := sdAt_in hT hS hk
    exact ⟨h.1, by have := h.2.1; omega⟩
  · show List.replicate (prodW (sdS T d)).toNat 0 = _
    rw [hM]; rfl
  · rw [sdV_len, hM]; rfl

end Go.Proofs.Ytfiphjifnjnmbaa

/-! ## SD3v9 -/
namespace Go.Proofs.Ytfiphjifnjnmbaa
open Go.RowKit

theorem outs_diff : ∀ n, n ≤ 4 → ∀ d, d ≤ 4 → diffL ((upI n).eraseIdx d) = true ∧ ((upI n).eraseIdx d).all (inR · 0 4) = true := by decide
def orT (q : Bool) (R : TL) : TL := if q then R else ⟨[], []⟩
theorem orT_yes (R : TL) : orT true R = R := rfl
theorem orT_no (R : TL) : orT false R = ⟨[], []⟩ := rfl
def conT (T : TL) (d : Nat) : TL := orT (isShapeL (sdS T d)) (sdT T d)
def conB (T : TL) (d : Nat) : Bool := isShapeL (sdS T d) && isTensorL (sdT T d)

set_option maxRecDepth 100000 in
set_option maxHeartbeats 6400000 in
theorem contract_core (v vl vo : Value) (T R : TL) (U O E : List Int) (N : Nat) (q b : Bool) (w : World) (hv : TensorsV w v [T]) (hl : IntsS w vl [U]) (ho : Ints w vo O)
    (HEX : Hid (∀ ww, TensorsV ww v [T] → IntsS ww vl [U] → Calls Try.prog 81 #[v, vl] ww (RetExtB ww E true)))
    (HGO : Hid (∀ ww ve, Ints ww vo O → Ints ww ve E → Calls Try.prog 82 #[vo, ve] ww fun e w' => e = .returned (.bool q) ∧ Below ww.heap.size ww w'))
    (HSP : Hid (∀ ww ve, Ints ww ve E → Calls Try.prog 83 #[ve] ww fun e w' => ∃ r, e = .returned (.tuple #[r, .int .i64 N]) ∧ Below ww.heap.size ww w')) (hN : N ≤ 60)
    (HCN : Hid (q = true → ∀ ww ve, TensorsV ww v [T] → IntsS ww vl [U] → Ints ww vo O → Ints ww ve E → Calls Try.prog 84 #[v, vl, vo, ve] ww (RetTensor ww R))) (HB : Hid (q = true → isTensorL R = b)) :
    Calls Try.prog 67 #[v, vl, vo] w (RetTensorB w (orT q R) (q && b)) := by
  obtain ⟨A, c, rfl, -⟩ := hv.form
  obtain ⟨Al, cl, rfl, -⟩ := hl.form
  obtain ⟨Ao, co, rfl, -⟩ := ho.form
  have H1 := hid ((Hp.start w).alloc 25 #[.slice none 0 0, .slice none 0 0])
  have hb0 := below_alloc w (.cells #[.slice none 0 0, .slice none 0 0] 25)
  have hv1 := hv.ext hb0
  have hl1 := hl.ext hb0
  have HV := hid hv
  have HL := hid hl
  have HO := hid ho
  clear hb0 hv hl ho
  go_enter Try.func67, Try.ntmps67
  go_upto_region 1 with fail
  generalize (w.alloc (.cells #[.slice none 0 0, .slice none 0 0] 25)) = w1 at *
  go_wp2_with fail
  refine (HEX.out _ hv1 hl1).mono ?_; rintro e w2 ⟨r1, rfl, hr1, hb⟩
  have H2 := hid (H1.out.row hr1 hb)
  simp only [List.nil_append, List.cons_append] at H2
  obtain ⟨Ae, ce, rfl⟩ := hr1.form
  have ho2 := HO.out.ext H2.out.below
  have he2 := (H2.out.ints 1 rfl).ints
  clear hb hr1 hv1 hl1 H1
  go_wp2_with fail
  refine (HGO.out _ _ ho2 he2).mono ?_; rintro e w3 ⟨rfl, hb⟩
  have H3 := hid (H2.out.nx hb)
  clear hb ho2 he2 H2
  cases q
  · obtain ⟨⟨r0, r1⟩, s0, s1⟩ := (H3.out.blk 0 rfl).all2
    have HF := hid (H3.out.store2 0 rfl (.slice none 0 0) (.slice none 0 0))
    go_wp2
    refine bodyPost_ret (v := .tuple #[.agg #[.slice none 0 0, .slice none 0 0], .bool false]) (by simp [results, Try.results67, go_sem, r0, r1]) rfl ?_
    rw [orT_no]
    exact ⟨_, _, by simp, Own.nil _ _, Own.nil _ _, Sep.none_left _, HF.out.below⟩
  · have he3 := (H3.out.ints 1 rfl).ints
    have HBB := hid (HB.out rfl)
    have HCC := hid (HCN.out rfl)
    clear HB HCN
    go_wp2_with fail
    refine (HSP.out _ _ he3).mono ?_; rintro e w4 ⟨r2, rfl, hb⟩
    have H4 := hid (H3.out.nx hb)
    clear hb he3 H3
    have hNl : ¬ (4000 : Int) < (N : Int) := by omega
    have hv4 := HV.out.ext H4.out.below
    have hl4 := HL.out.ext H4.out.below
    have ho4 := HO.out.ext H4.out.below
    have he4 := (H4.out.ints 1 rfl).ints
    go_wp2_with fail
    refine (HCC.out _ _ hv4 hl4 ho4 he4).mono ?_; rintro e w5 ⟨s5, t5, rfl, hs5, ht5, hsep, hb⟩
    have H5 := hid (H4.out.rows hs5 ht5 hsep hb)
    simp only [List.nil_append, List.cons_append] at H5
    obtain ⟨A5, c5, rfl⟩ := hs5.form
    obtain ⟨B5, d5, rfl⟩ := ht5.form
    have H6 := hid (H5.out.alloc 25 #[.slice A5 R.shape.length c5, .slice B5 R.values.length d5])
    simp only [List.nil_append, List.cons_append] at H6
    clear hb hv4 hl4 ho4 he4 hs5 ht5 hsep H4 H5
    go_upto_region 8 with fail
    generalize (w5.alloc (.cells #[.slice A5 R.shape.length c5, .slice B5 R.values.length d5] 25)) = w6 at *
    generalize w5.heap.size = g12 at *
    have hbx := H6.out.blk 4 rfl
    have qz := fun x : ExtW w6 => (x.at_ hbx).all2.1
    have hten : TensorV w6 (.agg #[.slice A5 R.shape.length c5, .slice B5 R.values.length d5]) R := Own.tensor (H6.out.ints 2 rfl) (H6.out.ints 3 rfl)
    have HVT := hid (fun x : ExtW w6 => validTensor_any _ R x.v (TensorV.ext hten x.h))
    rw [HBB.out] at HVT
    refine region_mk 3 (by kernel_rfl) (by kernel_rfl) ?_
    apply Exists.intro
    simp only [List.take_succ_cons, List.take_zero, List.drop_succ_cons, List.drop_zero]
    repeat (first
      | (apply grow_val (by rfl); (focus (intro x; (go_simp; try with_reducible rfl); done)); simp only [Act.put, List.setIfInBounds_toArray, List.set_cons_zero, List.set_cons_succ])
      | (apply grow_skip (by rfl); simp only [Act.put, List.setIfInBounds_toArray, List.set_cons_zero, List.set_cons_succ])
      | (apply grow_call (by rfl); (focus (intro x K Q hK; go_simp; (first | (go_at_call 40; (with_reducible refine (HVT.out x).mono ?_); rintro e w' ⟨rfl, hb⟩; exact hK _ hb)); done)); simp only [Act.put, List.setIfInBounds_toArray, List.set_cons_zero, List.set_cons_succ]))
    refine grow_nil ?_
    rintro ⟨w7, hb7⟩ hF hS
    have hb7 : Below w6.heap.size w6 w7 := hb7
    have H7 := hid (H6.out.nx hb7)
    obtain ⟨⟨r0, r1⟩, s0, s1⟩ := (H7.out.blk 0 rfl).all2
    have HF := hid (H7.out.store2 0 rfl (.slice A5 R.shape.length c5) (.slice B5 R.values.length d5))
    clear hF hS qz hb7 H6 hbx hten
    go_wp2
    refine bodyPost_ret (v := .tuple #[.agg #[.slice A5 R.shape.length c5, .slice B5 R.values.length d5], .bool b]) (by simp [results, Try.results67, go_sem, r0, r1]) rfl ?_
    rw [orT_yes]
    exact ⟨_, _, by simp, HF.out.ints 2 rfl, HF.out.ints 3 rfl, HF.out.apart 2 3 rfl rfl (by omega), HF.out.below⟩

set_option maxRecDepth 100000 in
set_option maxHeartbeats 6400000 in
theorem Contract_core (v vl vo : Value) (T R : TL) (U O : List Int) (b : Bool) (w : World) (hv : TensorsV w v [T]) (hl : IntsS w vl [U]) (ho : Ints w vo O)
    (HVT : Hid (∀ ww, TensorsV ww v [T] → IntsS ww vl [U] → Calls Try.prog 66 #[v, vl] ww fun e w' => e = .returned (.bool true) ∧ Below ww.heap.size ww w'))
    (HC : Hid (∀ ww, TensorsV ww v [T] → IntsS ww vl [U] → Ints ww vo O → Calls Try.prog 67 #[v, vl, vo] ww (RetTensorB ww R b))) :
    Calls Try.prog 42 #[v, vl, vo] w (RetTensorB w (orT b R) b) := by
  obtain ⟨A, c, rfl, -⟩ := hv.form
  obtain ⟨Al, cl, rfl, -⟩ := hl.form
  obtain ⟨Ao, co, rfl, -⟩ := ho.form
  have H1 := hid ((Hp.start w).alloc 25 #[.slice none 0 0, .slice none 0 0])
  have hb0 := below_alloc w (.cells #[.slice none 0 0, .slice none 0 0] 25)
  have hv1 := hv.ext hb0
  have hl1 := hl.ext hb0
  have HV := hid hv
  have HL := hid hl
  have HO := hid ho
  clear hb0 hv hl ho
  go_enter Try.func42, Try.ntmps42
  go_upto_region 1 with fail
  generalize (w.alloc (.cells #[.slice none 0 0, .slice none 0 0] 25)) = w1 at *
  go_wp2_with fail
  refine (HVT.out _ hv1 hl1).mono ?_; rintro e w2 ⟨rfl, hb⟩
  have H2 := hid (H1.out.nx hb)
  simp only [List.nil_append] at H2
  have hv2 := HV.out.ext H2.out.below
  have hl2 := HL.out.ext H2.out.below
  have ho2 := HO.out.ext H2.out.below
  clear hb hv1 hl1 H1
  go_wp2_with fail
  refine (HC.out _ hv2 hl2 ho2).mono ?_; rintro e w3 ⟨s5, t5, rfl, hs5, ht5, hsep, hb⟩
  have H3 := hid (H2.out.rows hs5 ht5 hsep hb)
  simp only [List.nil_append, List.cons_append] at H3
  obtain ⟨A5, c5, rfl⟩ := hs5.form
  obtain ⟨B5, d5, rfl⟩ := ht5.form
  have H4 := hid (H3.out.alloc 25 #[.slice A5 R.shape.length c5, .slice B5 R.values.length d5])
  simp only [List.nil_append, List.cons_append] at H4
  clear hb hv2 hl2 ho2 hs5 ht5 hsep H2 H3
  go_upto_region 4 with fail
  generalize (w3.alloc (.cells #[.slice A5 R.shape.length c5, .slice B5 R.values.length d5] 25)) = w4 at *
  generalize w3.heap.size = g12 at *
  obtain ⟨⟨r0, r1⟩, s0, s1⟩ := (H4.out.blk 0 rfl).all2
  obtain ⟨⟨z0, z1⟩, k0, k1⟩ := (H4.out.blk 3 rfl).all2
  cases b
  · have HF := hid (H4.out.store2 0 rfl (.slice none 0 0) (.slice none 0 0))
    go_wp2
    refine bodyPost_ret (v := .tuple #[.agg #[.slice none 0 0, .slice none 0 0], .bool false]) (by simp [results, Try.results42, go_sem, r0, r1]) rfl ?_
    rw [orT_no]
    exact ⟨_, _, by simp, Own.nil _ _, Own.nil _ _, Sep.none_left _, HF.out.below⟩
  · have HF := hid (H4.out.store2 0 rfl (.slice A5 R.shape.length c5) (.slice B5 R.values.length d5))
    go_wp2
    refine bodyPost_ret (v := .tuple #[.agg #[.slice A5 R.shape.length c5, .slice B5 R.values.length d5], .bool true]) (by simp [results, Try.results42, go_sem, r0, r1]) rfl ?_
    rw [orT_yes]
    exact ⟨_, _, by simp, HF.out.ints 1 rfl, HF.out.ints 2 rfl, HF.out.apart 1 2 rfl rfl (by omega), HF.out.below⟩

end Go.Proofs.Ytfiphjifnjnmbaa

/-! ## SD5v9 -/
namespace Go.Proofs.Ytfiphjifnjnmbaa
open Go.RowKit

/-- A new literal that reads as P says. -/
def Ent.rd (P : World → Value → Prop) (n : Nat) : Ent := ⟨fun _ w v => P w v ∧ ∃ g, v = .slice (some ⟨g, 0, none⟩) n n ∧ g < w.heap.size, fun v => ∃ g, v = .slice (some ⟨g, 0, none⟩) n n, fun v b => v.ownBlock = some b⟩
theorem Ent.rd_good (P : World → Value → Prop) (n : Nat) (hP : ∀ w w' v, Below w.heap.size w w' → P w v → P w' v) : Good (Ent.rd P n) :=
  ⟨fun _ _ _ _ hb ⟨h1, g, h2, h3⟩ => ⟨hP _ _ _ hb h1, g, h2, Nat.lt_of_lt_of_le h3 hb.size⟩, fun _ _ _ ⟨_, g, h2, _⟩ => ⟨g, h2⟩, ⟨.slice (some ⟨0, 0, none⟩) n n, 0, rfl⟩, fun _ _ _ b ⟨_, g, h2, h3⟩ hb => by
    have hb : Value.ownBlock _ = some b := hb
    rw [h2] at hb
    simp [Value.ownBlock] at hb
    omega⟩
section
variable {ops : Array Oper} {W : World} {R : Act → World → Prop} {k : Nat} {Es : List Ent} {o : Oper} {rest : List Oper} {a : Act} {s : Seen}
theorem grow_rd (P : World → Value → Prop) (n : Nat) (hP : ∀ w w' v, Below w.heap.size w w' → P w v → P w' v) (hw : Region.wanted o (yielded ops a.tmps) = true)
    (h : ∀ x : ExtW W, (∀ j, (autoDeps ops k).contains j = true → s.fact j x.v) → ∃ (cs : Array Value) (T' : TypeId), (execOp a.eval o).run Try.prog x.v = .ok (.value (.slice (some ⟨x.v.heap.size, 0, none⟩) n n)) (x.v.alloc (.cells cs T')) ∧ P (x.v.alloc (.cells cs T')) (.slice (some ⟨x.v.heap.size, 0, none⟩) n n))
    (hr : ∀ g, ∀ (F : World → Prop) (O : Nat → Prop), (∀ w, F w → P w (.slice (some ⟨g, 0, none⟩) n n)) → wpGrow Try.prog ops W R (k + 1) Es rest (a.put o.dst (.slice (some ⟨g, 0, none⟩) n n)) (s.push (.slice (some ⟨g, 0, none⟩) n n) F O)) :
    wpGrow Try.prog ops W R k (Ent.rd P n :: Es) (o :: rest) a s := by
  refine grow_mk _ (Ent.rd_good P n hP) hw (fun x hF _ K Q hK => ?_) fun v hV F O hF hO => ?_
  · obtain ⟨cs, T', h1, h2⟩ := h x hF
    unfold Oper.wp
    rw [h1]
    refine hK _ _ (below_alloc _ _) ⟨h2, _, rfl, by simp⟩ fun b hb => ?_
    have hb : Value.ownBlock (.slice (some ⟨x.v.heap.size, 0, none⟩) n n) = some b := hb
    simp [Value.ownBlock] at hb
    omega
  · obtain ⟨g, rfl⟩ := hV
    exact hr g F O fun w hw => (hF w hw).1
end
theorem run_litT (w : World) (s t : Value) : (Instr.buildSlice 61 1 #[(0, .agg #[s, t])]).run Try.prog w = .ok (.slice (some ⟨w.heap.size, 0, none⟩) 1 1) (w.alloc (.cells #[s, t] 25)) := by kernel_rfl
theorem run_litL (w : World) (A : Option Addr) (n c : Nat) : (Instr.buildSlice 63 1 #[(0, .slice A n c)]).run Try.prog w = .ok (.slice (some ⟨w.heap.size, 0, none⟩) 1 1) (w.alloc (.cells #[.slice A n c] 23)) := by kernel_rfl
theorem tensors_lit {w : World} {s t : Value} {T : TL} (hs : Ints w s T.shape) (ht : Ints w t T.values) : TensorsV (w.alloc (.cells #[s, t] 25)) (.slice (some ⟨w.heap.size, 0, none⟩) 1 1) [T] := by
  have hb := below_alloc w (.cells #[s, t] 25)
  refine ⟨rfl, some ⟨w.heap.size, 0, none⟩, 1, rfl, Nat.le_refl _, by unfold maxLen; omega, fun _ => ⟨w.heap.size, 0, rfl, by simp, fun j c hc => ?_⟩⟩
  have e : flatR encT [T] = [.row T.shape, .row T.values] := rfl
  rw [e] at hc
  match j, hc with
  | 0, hc => (obtain rfl := (Option.some.inj hc)); exact ⟨s, by simp, hs.nx hb⟩
  | 1, hc => (obtain rfl := (Option.some.inj hc)); exact ⟨t, by simp, ht.nx hb⟩
  | j + 2, hc => cases hc
theorem lists_lit {w : World} {v : Value} {xs : List Int} (hs : Ints w v xs) : IntsS (w.alloc (.cells #[v] 23)) (.slice (some ⟨w.heap.size, 0, none⟩) 1 1) [xs] := by
  have hb := below_alloc w (.cells #[v] 23)
  refine ⟨some ⟨w.heap.size, 0, none⟩, 1, rfl, Nat.le_refl _, by unfold maxLen; omega, fun _ => ⟨w.heap.size, 0, rfl, by simp, fun j c hc => ?_⟩⟩
  match j, hc with
  | 0, hc => (obtain rfl := (Option.some.inj hc)); exact ⟨v, by simp, hs.nx hb⟩
  | j + 1, hc => cases hc

set_option maxRecDepth 100000 in
set_option maxHeartbeats 6400000 in
theorem Contract_any (v vl vo : Value) (T : TL) (d : Nat) (w : World) (hv : TensorsV w v [T]) (hl : IntsS w vl [upI T.shape.length]) (ho : Ints w vo ((upI T.shape.length).eraseIdx d)) (hT : isTensorL T = true) (hd : d < T.shape.length) :
    Calls Try.prog 42 #[v, vl, vo] w (RetTensorB w (orT (conB T d) (conT T d)) (conB T d)) := by
  have hs := shape_ext (isTensorL_and hT).1
  have hE5 := extS_len hs.1
  have hok : okTs [T] [upI T.shape.length] = true := by simp [okTs, hT]
  have hOl : ((upI T.shape.length).eraseIdx d).length ≤ 4 := Nat.le_trans (List.length_eraseIdx_le _ _) (by rw [upI_length]; exact hs.1)
  have hPO : takenL (extS T.shape) ((upI T.shape.length).eraseIdx d) = sdS T d := by rw [taken_erase (by omega), extS_take]; rfl
  have hpN : prodW (spX (extS T.shape)) = (T.values.length : Int) := by
    rw [spX_ext (isTensorL_and hT).1, prodW_ones (isTensorL_and hT).1, (isTensorL_and hT).2.1, (shape_prod (isTensorL_and hT).1).1]
  have hN60 : T.values.length ≤ 60 := by
    have a := shape_prod (isTensorL_and hT).1
    have b := (isTensorL_and hT).2.1
    rw [a.1] at b
    omega
  have hod := outs_diff T.shape.length hs.1 d (by omega)
  refine Contract_core v vl vo T (conT T d) (upI T.shape.length) ((upI T.shape.length).eraseIdx d) (conB T d) w hv hl ho (hid fun ww h1 h2 => ?_) (hid fun ww h1 h2 h3 => ?_)
  · have := validTensors_any v vl [T] [upI T.shape.length] ww h1 h2
    rw [hok] at this
    exact this
  · refine contract_core v vl vo T (sdT T d) (upI T.shape.length) ((upI T.shape.length).eraseIdx d) (extS T.shape) T.values.length (isShapeL (sdS T d)) (isTensorL (sdT T d)) ww h1 h2 h3 (hid fun ww h1 h2 => ?_) (hid fun ww ve h3 h4 => ?_) (hid fun ww ve h4 => ?_) hN60
      (hid fun hq ww ve h1 h2 h3 h4 => contracted_any v vl vo ve T d ww h1 h2 h3 h4 hT hq) (hid fun _ => rfl)
    · have := extents_any v vl [T] [upI T.shape.length] ww h1 h2 hok
      rw [(ext_one hT).1, (ext_one hT).2] at this
      exact this
    · have := goodOut_any vo ve _ _ ww h3 h4 hod.2 hod.1 (by
        rw [hPO, List.all_eq_true]
        intro x hx
        exact inR_yes (hs.2.1 x (List.mem_of_mem_eraseIdx hx)).1 (hs.2.1 x (List.mem_of_mem_eraseIdx hx)).2) hE5 (by omega)
      rw [hPO] at this
      exact this
    · refine (space_any ve _ ww h4 (by omega)).mono ?_
      rintro e w' ⟨r, h5, -, h6⟩
      rw [hpN] at h5
      exact ⟨r, h5, h6⟩

set_option maxRecDepth 100000 in
set_option maxHeartbeats 6400000 in
theorem sSumDim_any (v : Value) (T : TL) (d : Int) (w : World) (hv : TensorV w v T) (hd : -9223372036854775808 ≤ d ∧ d ≤ 9223372036854775807) :
    Calls Try.prog 10 #[v, .int .i64 d] w (RetTensorB w (sumDL T d) (okSum T d)) := by
  have hv0 := hv
  obtain ⟨sv, tv, rfl, hs, ht⟩ := hv
  obtain ⟨As, cs, es⟩ := hs.form
  obtain ⟨At, ct, et⟩ := ht.form
  subst es et
  have H1 := ((Hp.start w).alloc 25 #[.slice As T.shape.length cs, .slice At T.values.length ct]).alloc 25 #[.slice none 0 0, .slice none 0 0]
  simp only [World.size_alloc, List.nil_append, List.cons_append] at H1
  have HNO := hid (fun h => sumD_no (T := T) (d := d) h)
  cases hok : isTensorL T
  · have HQ := hid (show okSum T d = false by simp [okSum, okSD, hok])
    go_enter Try.func10, Try.ntmps10
    go_upto_region 1 with fail
    generalize ((w.alloc (.cells #[.slice As T.shape.length cs, .slice At T.values.length ct] 25)).alloc (.cells #[.slice none 0 0, .slice none 0 0] 25)) = w1 at *
    obtain ⟨⟨a0, a1⟩, -⟩ := (H1.blk 0 rfl).all2
    go_wp2_with fail
    refine (validTensor_any _ T _ (TensorV.ext hv0 H1.below)).mono ?_; rintro e w2 ⟨rfl, hb⟩
    rw [hok]
    have H2 := hid (H1.nx hb)
    clear a0 a1 hb H1
    obtain ⟨⟨a0, a1⟩, -⟩ := (H2.out.blk 0 rfl).all2
    obtain ⟨⟨r0, r1⟩, s0, s1⟩ := (H2.out.blk 1 rfl).all2
    clear hok
    have HF := hid (H2.out.store2 1 rfl (.slice none 0 0) (.slice none 0 0))
    go_wp2
    refine bodyPost_ret (v := .tuple #[.agg #[.slice none 0 0, .slice none 0 0], .bool false]) (by simp [results, Try.results10, go_sem, r0, r1]) rfl ?_
    rw [HNO.out HQ.out, HQ.out]
    exact ⟨_, _, rfl, Own.nil _ _, Own.nil _ _, Sep.none_left _, HF.out.below⟩
  cases hin : inR d 0 ((T.shape.length : Int) - 1)
  · have HQ := hid (show okSum T d = false by simp [okSum, okSD, hin])
    have HIN := hid hin
    have hle4 : T.shape.length ≤ 4 := (shape_ext (isTensorL_and hok).1).1
    have hwn : IntKind.i64.wrap ((T.shape.length : Int) - 1) = (T.shape.length : Int) - 1 := IntWalk.i64_in _ (by omega)
    go_enter Try.func10, Try.ntmps10
    go_upto_region 1 with fail
    generalize ((w.alloc (.cells #[.slice As T.shape.length cs, .slice At T.values.length ct] 25)).alloc (.cells #[.slice none 0 0, .slice none 0 0] 25)) = w1 at *
    obtain ⟨⟨a0, a1⟩, -⟩ := (H1.blk 0 rfl).all2
    go_wp2_with fail
    refine (validTensor_any _ T _ (TensorV.ext hv0 H1.below)).mono ?_; rintro e w2 ⟨rfl, hb⟩
    rw [hok]
    have H2 := hid (H1.nx hb)
    clear a0 a1 hb H1 hin hok
    obtain ⟨⟨a0, a1⟩, -⟩ := (H2.out.blk 0 rfl).all2
    obtain ⟨⟨r0, r1⟩, s0, s1⟩ := (H2.out.blk 1 rfl).all2
    have HF := hid (H2.out.store2 1 rfl (.slice none 0 0) (.slice none 0 0))
    go_wp2_with fail
    refine (inRange_any _ _ _ _).mono ?_; rintro e w' ⟨rfl, rfl⟩
    rw [HIN.out]
    go_wp2
    refine bodyPost_ret (v := .tuple #[.agg #[.slice none 0 0, .slice none 0 0], .bool false]) (by simp [results, Try.results10, go_sem, r0, r1]) rfl ?_
    rw [HNO.out HQ.out, HQ.out]
    exact ⟨_, _, rfl, Own.nil _ _, Own.nil _ _, Sep.none_left _, HF.out.below⟩
  have HIN := hid hin
  have hle4 : T.shape.length ≤ 4 := (shape_ext (isTensorL_and hok).1).1
  have hwn : IntKind.i64.wrap ((T.shape.length : Int) - 1) = (T.shape.length : Int) - 1 := IntWalk.i64_in _ (by omega)
  have hd2 := inR_iff.1 hin
  obtain ⟨D, rfl⟩ : ∃ D : Nat, d = (D : Int) := ⟨d.toNat, by omega⟩
  have hD : D < T.shape.length := by omega
  have HC := hid (fun v vl vo ww h1 h2 h3 => Contract_any v vl vo T D ww h1 h2 h3 hok hD)
  have HQ := hid (show okSum T (D : Int) = conB T D by simp only [okSum, okSD, hok, hin, conB, Int.toNat_natCast, Bool.true_and])
  have HQ2 := hid (show sumDL T (D : Int) = orT (conB T D) (conT T D) by
    cases hc : conB T D
    · rw [orT_no]; exact sumD_no (by rw [HQ.out, hc])
    · rw [orT_yes, sumD_yes (by rw [HQ.out, hc])]
      have hc2 : isShapeL (sdS T D) = true := by simp only [conB, Bool.and_eq_true] at hc; exact hc.1
      simp [conT, hc2, orT])
  go_enter Try.func10, Try.ntmps10
  go_upto_region 1 with fail
  generalize ((w.alloc (.cells #[.slice As T.shape.length cs, .slice At T.values.length ct] 25)).alloc (.cells #[.slice none 0 0, .slice none 0 0] 25)) = w1 at *
  obtain ⟨⟨a0, a1⟩, -⟩ := (H1.blk 0 rfl).all2
  go_wp2_with fail
  refine (validTensor_any _ T _ (TensorV.ext hv0 H1.below)).mono ?_; rintro e w2 ⟨rfl, hb⟩
  rw [hok]
  have H2 := hid (H1.nx hb)
  clear a0 a1 hb H1 hin hok hd2
  obtain ⟨⟨a0, a1⟩, -⟩ := (H2.out.blk 0 rfl).all2
  go_wp2_with fail
  refine (inRange_any _ _ _ _).mono ?_; rintro e w' ⟨rfl, rfl⟩
  rw [HIN.out]
  clear a0 a1
  obtain ⟨R, hR⟩ : ∃ R, orT (conB T D) (conT T D) = R := ⟨_, rfl⟩
  obtain ⟨b, hb⟩ : ∃ b, conB T D = b := ⟨_, rfl⟩
  have HRR := hid hR
  have HBB := hid hb
  rw [hR, hb] at HC
  clear hR hb
  go_upto_region 3 with fail
  have hbx := H2.out.blk 0 rfl
  have qa := fun x : ExtW w2 => (x.at_ hbx).all2.1
  have HTT := hid (fun x : ExtW w2 => (hs.ext H2.out.below).ext x.h)
  have HTV := hid (fun x : ExtW w2 => (ht.ext H2.out.below).ext x.h)
  have HUP := hid (fun x : ExtW w2 => sUpTo_any T.shape.length x.v (by omega))
  have HUL := hid (show D < (upI T.shape.length).length by rw [upI_length]; exact hD)
  have HUM := hid (show (upI T.shape.length).length ≤ 1000000 by rw [upI_length]; omega)
  refine region_mk 16 (by kernel_rfl) (by kernel_rfl) ?_
  apply Exists.intro
  simp only [List.take_succ_cons, List.take_zero, List.drop_succ_cons, List.drop_zero]
  repeat (first
    | (apply grow_val (by rfl); (focus (intro x; (go_simp; try with_reducible rfl); done)); simp only [Act.put, List.setIfInBounds_toArray, List.set_cons_zero, List.set_cons_succ])
    | (apply grow_skip (by rfl); simp only [Act.put, List.setIfInBounds_toArray, List.set_cons_zero, List.set_cons_succ]))
  apply grow_rd (fun w v => TensorsV w v [T]) 1 (fun _ _ _ hb h => h.ext hb) (by rfl)
  · intro x hF
    exact ⟨_, _, by simp only [execOp]; go_simp, tensors_lit (HTT.out x) (HTV.out x)⟩
  intro g1 F1 O1 hF1
  simp only [Act.put, List.setIfInBounds_toArray, List.set_cons_zero, List.set_cons_succ]
  repeat (first
    | (apply grow_val (by rfl); (focus (intro x; (go_simp; try with_reducible rfl); done)); simp only [Act.put, List.setIfInBounds_toArray, List.set_cons_zero, List.set_cons_succ])
    | (apply grow_skip (by rfl); simp only [Act.put, List.setIfInBounds_toArray, List.set_cons_zero, List.set_cons_succ]))
  apply grow_ints (upI T.shape.length) (by rfl)
  · intro x hF K Q hK
    go_simp
    go_at_call 43;(with_reducible refine (HUP.out x).mono ?_);rintro e w' ⟨v1, rfl, ho, hb⟩;exact hK _ _ hb ho
  intro A5 c5 F5 O5 hF5 hO5
  simp only [Act.put, List.setIfInBounds_toArray, List.set_cons_zero, List.set_cons_succ]
  repeat (first
    | (apply grow_val (by rfl); (focus (intro x; (go_simp; try with_reducible rfl); done)); simp only [Act.put, List.setIfInBounds_toArray, List.set_cons_zero, List.set_cons_succ])
    | (apply grow_skip (by rfl); simp only [Act.put, List.setIfInBounds_toArray, List.set_cons_zero, List.set_cons_succ]))
  apply grow_rd (fun w v => IntsS w v [upI T.shape.length]) 1 (fun _ _ _ hb h => h.ext hb) (by rfl)
  · intro x hF
    have h5 := hF5 _ (hF 5 (by kernel_rfl))
    exact ⟨_, _, by simp only [execOp]; go_simp, lists_lit h5.ints⟩
  intro g6 F6 O6 hF6
  simp only [Act.put, List.setIfInBounds_toArray, List.set_cons_zero, List.set_cons_succ]
  repeat (first
    | (apply grow_val (by rfl); (focus (intro x; (go_simp; try with_reducible rfl); done)); simp only [Act.put, List.setIfInBounds_toArray, List.set_cons_zero, List.set_cons_succ])
    | (apply grow_skip (by rfl); simp only [Act.put, List.setIfInBounds_toArray, List.set_cons_zero, List.set_cons_succ]))
  apply grow_ints (upI T.shape.length) (by rfl)
  · intro x hF K Q hK
    go_simp
    go_at_call 43;(with_reducible refine (HUP.out x).mono ?_);rintro e w' ⟨v1, rfl, ho, hb⟩;exact hK _ _ hb ho
  intro A10 c10 F10 O10 hF10 hO10
  simp only [Act.put, List.setIfInBounds_toArray, List.set_cons_zero, List.set_cons_succ]
  repeat (first
    | (apply grow_val (by rfl); (focus (intro x; (go_simp; try with_reducible rfl); done)); simp only [Act.put, List.setIfInBounds_toArray, List.set_cons_zero, List.set_cons_succ])
    | (apply grow_skip (by rfl); simp only [Act.put, List.setIfInBounds_toArray, List.set_cons_zero, List.set_cons_succ]))
  apply grow_ints ((upI T.shape.length).eraseIdx D) (by rfl)
  · intro x hF K Q hK
    go_simp
    have h10 := hF10 _ (hF 10 (by kernel_rfl));go_at_call 44;refine (without_any _ (upI T.shape.length) D _ h10.ints HUL.out HUM.out).mono ?_;rintro e w' ⟨v1, rfl, ho, hb⟩;exact hK _ _ hb ho
  intro A12 c12 F12 O12 hF12 hO12
  simp only [Act.put, List.setIfInBounds_toArray, List.set_cons_zero, List.set_cons_succ]
  repeat (first
    | (apply grow_val (by rfl); (focus (intro x; (go_simp; try with_reducible rfl); done)); simp only [Act.put, List.setIfInBounds_toArray, List.set_cons_zero, List.set_cons_succ])
    | (apply grow_skip (by rfl); simp only [Act.put, List.setIfInBounds_toArray, List.set_cons_zero, List.set_cons_succ]))
  apply grow_tensF (tupB b) (tupB_inj b) R (by rfl)
  · intro x hF K Q hK
    have h1 := hF1 _ (hF 1 (by kernel_rfl))
    have h6 := hF6 _ (hF 6 (by kernel_rfl))
    have h12 := hF12 _ (hF 12 (by kernel_rfl))
    go_simp
    go_at_call 42
    refine (HC.out _ _ _ _ h1 h6 h12.ints).mono ?_
    rintro e w' ⟨s', t', rfl, ho, hp, hs', hb⟩
    exact hK _ _ _ hb ho hp hs'
  intro A13 c13 B13 d13 F13 O13 hF13 hO13
  simp only [Act.put, List.setIfInBounds_toArray, List.set_cons_zero, List.set_cons_succ]
  simp only [tupB]
  apply grow_fn (fun d => tupAt 0 (d.getD 0 undef)) [.tuple #[.agg #[.slice A13 R.shape.length c13, .slice B13 R.values.length d13], .bool b]] (by kernel_rfl) (by rfl)
  · intro x hF
    refine ⟨_, by (go_simp; try rfl), rfl⟩
  intro v33 F33 hF33
  simp only [Act.put, List.setIfInBounds_toArray, List.set_cons_zero, List.set_cons_succ]
  apply grow_fn (fun d => tupAt 1 (d.getD 0 undef)) [.tuple #[.agg #[.slice A13 R.shape.length c13, .slice B13 R.values.length d13], .bool b]] (by kernel_rfl) (by rfl)
  · intro x hF
    refine ⟨_, by (go_simp; try rfl), rfl⟩
  intro v34 F34 hF34
  simp only [Act.put, List.setIfInBounds_toArray, List.set_cons_zero, List.set_cons_succ]
  refine grow_nil ?_
  rintro ⟨w3, hb3⟩ hF hS
  have hb3 : Below w2.heap.size w2 w3 := hb3
  have h13 := hF13 _ (hF 13 (by omega))
  have e33 : v33 = .agg #[.slice A13 R.shape.length c13, .slice B13 R.values.length d13] := hF33 _ (hF 14 (by omega))
  have e34 : v34 = .bool b := hF34 _ (hF 15 (by omega))
  subst e33 e34
  have H3 := hid (H2.out.nx hb3)
  have hz : w.heap.size + 1 < w2.heap.size := (H2.out.blk 1 rfl).lt
  have HO1 := hid (((h13.1.far (p := ⟨w.heap.size + 1, 0, none⟩) hz (.slice A13 R.shape.length c13)).far (p := ⟨w.heap.size + 1, 1, none⟩) hz (.slice B13 R.values.length d13)).mono H2.out.size)
  have HO2 := hid (((h13.2.1.far (p := ⟨w.heap.size + 1, 0, none⟩) hz (.slice A13 R.shape.length c13)).far (p := ⟨w.heap.size + 1, 1, none⟩) hz (.slice B13 R.values.length d13)).mono H2.out.size)
  have HSP := hid h13.2.2
  obtain ⟨⟨r0, r1⟩, s0, s1⟩ := (H3.out.blk 1 rfl).all2
  have HF := hid (H3.out.store2 1 rfl (.slice A13 R.shape.length c13) (.slice B13 R.values.length d13))
  clear hF hS hF1 hF5 hF6 hF10 hF12 hF13 hF33 hF34 hO5 hO10 hO12 hO13 h13 hb3 qa hbx
  go_wp2
  refine bodyPost_ret (v := .tuple #[.agg #[.slice A13 R.shape.length c13, .slice B13 R.values.length d13], .bool b]) (by simp [results, Try.results10, go_sem, r0, r1]) rfl ?_
  rw [HQ2.out, HQ.out, HRR.out, HBB.out]
  exact ⟨_, _, rfl, HO1.out, HO2.out, HSP.out, HF.out.below⟩

end Go.Proofs.Ytfiphjifnjnmbaa

/-! ## SD6v9 -/
namespace Go.Proofs.Ytfiphjifnjnmbaa
open Go.RowKit

set_option maxRecDepth 100000 in
set_option maxHeartbeats 6400000 in
theorem SumDim_any (v : Value) (T : TL) (d : Int) (w : World) (hv : TensorV w v T) (hd : -9223372036854775808 ≤ d ∧ d ≤ 9223372036854775807) :
    Calls Try.prog 9 #[v, .int .i64 d] w (RetTensorB w (sumDL T d) (okSum T d)) := by
  have hv0 := hv
  obtain ⟨sv, tv, rfl, hs, ht⟩ := hv
  obtain ⟨As, cs, es⟩ := hs.form
  obtain ⟨At, ct, et⟩ := ht.form
  subst es et
  have H1 := ((Hp.start w).alloc 25 #[.slice As T.shape.length cs, .slice At T.values.length ct]).alloc 25 #[.slice none 0 0, .slice none 0 0]
  simp only [World.size_alloc, List.nil_append, List.cons_append] at H1
  have HNO := hid (fun h => sumD_no (T := T) (d := d) h)
  have HYES := hid (fun h => sumD_yes (T := T) (d := d) h)
  cases hok : isTensorL T
  · have HQ := hid (show okSum T d = false by simp [okSum, okSD, hok])
    go_enter Try.func9, Try.ntmps9
    go_upto_region 1 with fail
    generalize ((w.alloc (.cells #[.slice As T.shape.length cs, .slice At T.values.length ct] 25)).alloc (.cells #[.slice none 0 0, .slice none 0 0] 25)) = w1 at *
    obtain ⟨⟨a0, a1⟩, -⟩ := (H1.blk 0 rfl).all2
    go_wp2_with fail
    refine (isTensor_any _ T _ (TensorV.ext hv0 H1.below)).mono ?_; rintro e w2 ⟨rfl, hb⟩
    rw [hok]
    have H2 := hid (H1.nx hb)
    clear a0 a1 hb H1
    obtain ⟨⟨a0, a1⟩, -⟩ := (H2.out.blk 0 rfl).all2
    obtain ⟨⟨r0, r1⟩, s0, s1⟩ := (H2.out.blk 1 rfl).all2
    clear hok
    have HF := hid (H2.out.store2 1 rfl (.slice none 0 0) (.slice none 0 0))
    go_wp2
    refine bodyPost_ret (v := .tuple #[.agg #[.slice none 0 0, .slice none 0 0], .bool false]) (by simp [results, Try.results9, go_sem, r0, r1]) rfl ?_
    rw [HNO.out HQ.out, HQ.out]
    exact ⟨_, _, rfl, Own.nil _ _, Own.nil _ _, Sep.none_left _, HF.out.below⟩
  have HTK := hid hok
  have HT := hid (isTensorL_and hok)
  have hle4 : T.shape.length ≤ 4 := (shape_ext HT.out.1).1
  by_cases hbad : d < 0 ∨ (T.shape.length : Int) ≤ d
  · have HQ := hid (show okSum T d = false by
      have : inR d 0 ((T.shape.length : Int) - 1) = false := inR_no (by omega)
      simp [okSum, okSD, this])
    go_enter Try.func9, Try.ntmps9
    go_upto_region 1 with fail
    generalize ((w.alloc (.cells #[.slice As T.shape.length cs, .slice At T.values.length ct] 25)).alloc (.cells #[.slice none 0 0, .slice none 0 0] 25)) = w1 at *
    obtain ⟨⟨a0, a1⟩, -⟩ := (H1.blk 0 rfl).all2
    go_wp2_with fail
    refine (isTensor_any _ T _ (TensorV.ext hv0 H1.below)).mono ?_; rintro e w2 ⟨rfl, hb⟩
    rw [hok]
    have H2 := hid (H1.nx hb)
    clear a0 a1 hb H1 hok
    obtain ⟨⟨a0, a1⟩, -⟩ := (H2.out.blk 0 rfl).all2
    obtain ⟨⟨r0, r1⟩, s0, s1⟩ := (H2.out.blk 1 rfl).all2
    have HF := hid (H2.out.store2 1 rfl (.slice none 0 0) (.slice none 0 0))
    by_cases h0 : d < 0
    · clear hbad
      go_wp2
      refine bodyPost_ret (v := .tuple #[.agg #[.slice none 0 0, .slice none 0 0], .bool false]) (by simp [results, Try.results9, go_sem, r0, r1]) rfl ?_
      rw [HNO.out HQ.out, HQ.out]
      exact ⟨_, _, rfl, Own.nil _ _, Own.nil _ _, Sep.none_left _, HF.out.below⟩
    · have h1 : (T.shape.length : Int) ≤ d := by omega
      clear hbad
      go_wp2
      refine bodyPost_ret (v := .tuple #[.agg #[.slice none 0 0, .slice none 0 0], .bool false]) (by simp [results, Try.results9, go_sem, r0, r1]) rfl ?_
      rw [HNO.out HQ.out, HQ.out]
      exact ⟨_, _, rfl, Own.nil _ _, Own.nil _ _, Sep.none_left _, HF.out.below⟩
  obtain ⟨D, rfl⟩ : ∃ D : Nat, d = (D : Int) := ⟨d.toNat, by omega⟩
  have hD : D < T.shape.length := by omega
  have HOKS := hid (show okSum T (D : Int) = (isShapeL (sdS T D) && isTensorL (sdT T D)) by
    have : inR (D : Int) 0 ((T.shape.length : Int) - 1) = true := inR_yes (by omega) (by omega)
    simp only [okSum, okSD, hok, this, Int.toNat_natCast, Bool.true_and])
  have hd0 : ¬ (D : Int) < 0 := by omega
  have hd1 : ¬ (T.shape.length : Int) ≤ (D : Int) := by omega
  have hd2 : (D : Int) < (T.shape.length : Int) := by omega
  have hw : IntKind.i64.wrap ((D : Int) + 1) = (D : Int) + 1 := IntWalk.i64_in _ (by omega)
  clear hbad hd
  go_enter Try.func9, Try.ntmps9
  go_upto_region 1 with fail
  generalize ((w.alloc (.cells #[.slice As T.shape.length cs, .slice At T.values.length ct] 25)).alloc (.cells #[.slice none 0 0, .slice none 0 0] 25)) = w1 at *
  obtain ⟨⟨a0, a1⟩, -⟩ := (H1.blk 0 rfl).all2
  go_wp2_with fail
  refine (isTensor_any _ T _ (TensorV.ext hv0 H1.below)).mono ?_; rintro e w2 ⟨rfl, hb⟩
  rw [hok]
  have H2 := hid (H1.nx hb)
  clear a0 a1 hb H1 hok
  obtain ⟨⟨a0, a1⟩, -⟩ := (H2.out.blk 0 rfl).all2
  go_upto_region 3 with fail
  obtain ⟨⟨a0', a1'⟩, -⟩ := ((H2.out.blk 0 rfl).alloc (.cells #[] 3)).all2
  have ho : Own (w2.alloc (.cells #[] 3)) w2.heap.size (.slice (some ⟨w2.heap.size, 0, none⟩) 0 0) [] := Own.empty w2 rfl (Nat.le_refl _)
  have HX := hid ((hs.ext H2.out.below).ext (below_alloc w2 (.cells #[] 3)))
  have hz : ([] : List Int).length + T.shape.length ≤ 1000000000000 := by simp; omega
  have HO := hid ho
  clear ho
  go_wp2_with (at_builtin; refine appI _ rfl _ _ rfl w2.heap.size _ [] rfl HO.out _ _ _ T.shape rfl HX.out hz (by simp) ?_)
  intro v3 w3 ho3 hg3 hat3
  have H3 := hid (H2.out.row ho3 ((below_alloc w2 (.cells #[] 3)).trans (HO.out.under hg3 (by simp))))
  simp only [List.nil_append, List.cons_append] at H3
  obtain ⟨gs, caps, e3, -, -⟩ := ho3.row (by omega)
  subst e3
  clear ho3 hg3 hat3 a0 a1 a0' a1' HX HO hz H2
  obtain ⟨S', hS'⟩ : ∃ S', sdS T D = S' := ⟨_, rfl⟩
  have HS' := hid hS'
  have hSe : T.shape.eraseIdx D = S' := hS'
  have HSE := hid hSe
  have HLS := hid (show S'.length = T.shape.length - 1 by rw [← hSe, List.length_eraseIdx, if_pos hD])
  clear hS' hSe
  go_wp2_with fail
  refine (Delete_at gs caps D T.shape.length _ _ T.shape w.heap.size _ (H3.out.ints 2 rfl) rfl rfl hD).mono ?_; rintro e w4 ⟨rfl, ho4, hg4⟩
  rw [HSE.out] at ho4
  have H4 := hid (H3.out.grown 2 rfl ho4 hg4 (.inl rfl))
  simp only [List.set_cons_succ, List.set_cons_zero] at H4
  rw [← HLS.out] at H4 ⊢
  clear ho4 hg4 H3
  have H5 := hid (H4.out.alloc 25 #[.slice (some ⟨gs, 0, none⟩) S'.length caps, .slice none 0 0])
  simp only [List.nil_append, List.cons_append] at H5
  clear H4
  go_upto_region 4 with fail
  generalize (w4.alloc (.cells #[.slice (some ⟨gs, 0, none⟩) S'.length caps, .slice none 0 0] 25)) = w5 at *
  generalize w4.heap.size = g6 at *
  obtain ⟨⟨z0, z1⟩, k0, k1⟩ := (H5.out.blk 3 rfl).all2
  go_wp2_with fail
  refine (isShape_any _ S' _ (H5.out.ints 2 rfl).ints).mono ?_; rintro e w' ⟨rfl, rfl⟩
  cases hsh : isShapeL S'
  · have HQ := hid (show okSum T (D : Int) = false by rw [HOKS.out, HS'.out, hsh]; rfl)
    clear hsh
    obtain ⟨⟨r0, r1⟩, s0, s1⟩ := (H5.out.blk 1 rfl).all2
    have HF := hid (H5.out.store2 1 rfl (.slice none 0 0) (.slice none 0 0))
    go_wp2
    refine bodyPost_ret (v := .tuple #[.agg #[.slice none 0 0, .slice none 0 0], .bool false]) (by simp [results, Try.results9, go_sem, r0, r1]) rfl ?_
    rw [HNO.out HQ.out, HQ.out]
    exact ⟨_, _, rfl, Own.nil _ _, Own.nil _ _, Sep.none_left _, HF.out.below⟩
  obtain ⟨M, hM, hM60⟩ : ∃ M : Nat, prodW S' = (M : Int) ∧ M ≤ 60 := by
    have := shape_prod hsh
    exact ⟨(prodI S').toNat, by rw [this.1]; omega, by omega⟩
  have HM := hid hM
  have HSH := hid (show isShapeL (sdS T D) = true by rw [HS'.out]; exact hsh)
  have HV0 := hid (show sdV T D 0 = List.replicate M 0 by show List.replicate (prodW (sdS T D)).toNat 0 = _; rw [HS'.out, hM]; rfl)
  have HVL := hid (fun k => show (sdV T D k).length = M by rw [sdV_len, HS'.out, hM]; omega)
  have hN60 : T.values.length ≤ 60 := by
    have a := shape_prod HT.out.1
    have b := HT.out.2.1
    rw [a.1] at b
    omega
  clear hM hsh
  go_wp2_with fail
  refine (countOf_any _ S' _ (H5.out.ints 2 rfl).ints).mono ?_; rintro e w' ⟨rfl, rfl⟩
  rw [HM.out]
  go_wp2_with (at_make; refine mk0 _ rfl _ _ rfl M rfl rfl (by omega) ?_)
  intro w6 hR hb
  have H6 := hid (H5.out.row hR hb)
  clear z0 z1 k0 k1 hR hb H5
  generalize w5.heap.size = gv at *
  simp only [List.nil_append, List.cons_append] at H6
  obtain ⟨⟨z0, z1⟩, k0, k1⟩ := (H6.out.blk 3 rfl).all2
  have H7 := H6.out.store 3 rfl 1 (.slice (some ⟨gv, 0, none⟩) M M)
  rw [← HV0.out] at H7
  simp only [List.set_cons_succ, List.set_cons_zero, List.setIfInBounds_toArray] at H7
  have H7 := hid H7
  obtain ⟨⟨q0, q1⟩, -⟩ := (H7.out.blk 0 rfl).all2
  clear H6
  go_upto_region 8 with fail
  clear z0 z1 k0 k1 q0 q1
  go_loopg [7, 8, 9, 47] T.values.length (fun m a b c i wr => ∃ k : Nat, k ≤ T.values.length ∧ m = T.values.length - k ∧ i = .int .i64 k ∧
    Hp w.heap.size w wr [.blk w.heap.size 25 #[.slice As T.shape.length cs, .slice At T.values.length ct], .blk (w.heap.size + 1) 25 #[.slice none 0 0, .slice none 0 0], .ints (.slice (some ⟨gs, 0, none⟩) S'.length caps) S', .blk g6 25 #[.slice (some ⟨gs, 0, none⟩) S'.length caps, .slice (some ⟨gv, 0, none⟩) M M], .ints (.slice (some ⟨gv, 0, none⟩) M M) (sdV T D k)])
  case atStart => exact ⟨0, Nat.zero_le _, rfl, rfl, H7.out⟩
  case round =>
    obtain ⟨k, hk, rfl, rfl, H⟩ := hrel
    clear H7
    have HH := hid H
    clear H
    by_cases hlt : k < T.values.length
    case neg =>
      have hki : ¬ (k : Int) < (T.values.length : Int) := by omega
      have hkk : k = T.values.length := by omega
      have hten : TensorV wr (.agg #[.slice (some ⟨gs, 0, none⟩) S'.length caps, .slice (some ⟨gv, 0, none⟩) M M]) (sdT T D) := by
        refine ⟨_, _, rfl, ?_, ?_⟩
        · show Ints wr _ (sdS T D)
          rw [HS'.out]; exact (HH.out.ints 2 rfl).ints
        · show Ints wr _ (sdV T D T.values.length)
          rw [← hkk]; exact (HH.out.ints 4 rfl).ints
      have HTEN := hid hten
      have HKK := hid hkk
      obtain ⟨⟨z0, z1⟩, k0, k1⟩ := (HH.out.blk 3 rfl).all2
      clear hten hkk
      go_wp2_with fail
      refine (isTensor_any _ (sdT T D) _ HTEN.out).mono ?_; rintro e w8 ⟨rfl, hb⟩
      have H8 := hid (HH.out.nx hb)
      clear z0 z1 k0 k1 hb HH HTEN
      obtain ⟨⟨r0, r1⟩, s0, s1⟩ := (H8.out.blk 1 rfl).all2
      obtain ⟨⟨z0, z1⟩, k0, k1⟩ := (H8.out.blk 3 rfl).all2
      cases hit : isTensorL (sdT T D)
      · have HQ := hid (show okSum T (D : Int) = false by rw [HOKS.out, HSH.out, hit]; rfl)
        have HF := hid (H8.out.store2 1 rfl (.slice none 0 0) (.slice none 0 0))
        clear hit
        go_wp2
        refine bodyPost_ret (v := .tuple #[.agg #[.slice none 0 0, .slice none 0 0], .bool false]) (by simp [results, Try.results9, go_sem, r0, r1]) rfl ?_
        rw [HNO.out HQ.out, HQ.out]
        exact ⟨_, _, rfl, Own.nil _ _, Own.nil _ _, Sep.none_left _, HF.out.below⟩
      · have HQ := hid (show okSum T (D : Int) = true by rw [HOKS.out, HSH.out, hit]; rfl)
        have HF := hid (H8.out.store2 1 rfl (.slice (some ⟨gs, 0, none⟩) S'.length caps) (.slice (some ⟨gv, 0, none⟩) M M))
        clear hit
        go_wp2
        refine bodyPost_ret (v := .tuple #[.agg #[.slice (some ⟨gs, 0, none⟩) S'.length caps, .slice (some ⟨gv, 0, none⟩) M M], .bool true]) (by simp [results, Try.results9, go_sem, r0, r1]) rfl ?_
        rw [HYES.out HQ.out, HQ.out, Int.toNat_natCast]
        have h1 := HF.out.ints 2 rfl
        have h2 := HF.out.ints 4 rfl
        rw [← HS'.out] at h1
        rw [HKK.out] at h2
        exact ⟨_, _, rfl, by rw [← HS'.out] at *; exact h1, h2, HF.out.apart 2 4 rfl rfl (by omega), HF.out.below⟩
    have hki : (k : Int) < (T.values.length : Int) := by omega
    obtain ⟨bv, ov, rfl, xv⟩ := (ht.ext HH.out.below).elem k hlt
    obtain ⟨X, hX⟩ : ∃ X, T.values[k] = X := ⟨_, rfl⟩
    rw [hX] at xv
    have HGX := hid (show T.values.getD k 0 = X by rw [← hX]; simp [hlt])
    obtain ⟨⟨q0, q1⟩, -⟩ := (HH.out.blk 0 rfl).all2
    have hui := unr_in HTK.out hlt
    have HPOS := hid hui.2.1
    have hk0 : (0 : Int) ≤ (k : Int) := by omega
    have hk100 : (k : Int) ≤ 100 := by omega
    have hsr := hid (hs.ext HH.out.below)
    have HUL := hid (unr_length T.shape (k : Int))
    clear hX hui
    go_wp2_with fail
    refine (indexAt_any _ T.shape k _ hsr.out HPOS.out hle4 hk0 hk100).mono ?_; rintro e w7 ⟨r7, rfl, hr7, hb⟩
    have H7 := hid (HH.out.row hr7 hb)
    simp only [List.nil_append, List.cons_append] at H7
    obtain ⟨gi, ci, e7, -, -⟩ := hr7.row (by rw [HUL.out]; omega)
    rw [HUL.out] at e7
    subst e7
    clear hr7 hb HH q0 q1 xv hsr
    go_wp2_with fail
    refine (Delete_at gi ci D T.shape.length _ _ (unr T.shape k) w.heap.size _ (H7.out.ints 5 rfl) rfl rfl (by rw [HUL.out]; exact hD)).mono ?_; rintro e w8 ⟨rfl, ho8, hg8⟩
    have H8 := hid (H7.out.grown 5 rfl ho8 hg8 (.inl rfl))
    simp only [List.set_cons_succ, List.set_cons_zero] at H8
    rw [← HLS.out] at H8 ⊢
    clear ho8 hg8 H7
    obtain ⟨a, ha⟩ : ∃ a, sdAt T D k = a := ⟨_, rfl⟩
    have hrk := rankOf_at HTK.out HSH.out hlt
    have hat := (sdAt_in HTK.out HSH.out hlt).2.1
    rw [HS'.out] at hrk hat
    rw [ha] at hrk hat
    have ham : a < M := by have := HM.out; omega
    obtain ⟨y, hy⟩ : ∃ y, (sdV T D k).getD a 0 = y := ⟨_, rfl⟩
    have hak : a < (sdV T D k).length := by rw [HVL.out]; exact ham
    have HVSK := hid (show sdV T D (k + 1) = (sdV T D k).set a (wrap64 (y + X)) by rw [sdV, ha, hy, HGX.out])
    have hyc : w8.cell? ⟨gv, a, none⟩ = some (.int .i64 y) := by
      rw [(H8.out.ints 4 rfl).cell a hak, ← hy]; simp [hak]
    have hai : (a : Int) < (M : Int) := by omega
    have ha0 : (0 : Int) ≤ (a : Int) := by omega
    have hsp := H8.out.ints 2 rfl
    have hix := H8.out.ints 5 rfl
    have HRK : ∀ x : ExtW w8, Calls Try.prog 39 #[.slice (some ⟨gs, 0, none⟩) S'.length caps, .slice (some ⟨gi, 0, none⟩) S'.length ci] x.v fun e w' => e = .returned (.int .i64 (a : Int)) ∧ Below x.v.heap.size x.v w' := fun x => (RankOf_any _ _ S' _ x.v (hsp.ext x.h).ints (hix.ext x.h).ints).mono fun _ _ h => ⟨by rw [h.1]; exact ret_int hrk, h.2 ▸ Below.refl _ _⟩
    have HRK := hid HRK
    have hbx := H8.out.blk 3 rfl
    clear hsp hix hrk hat ha hy hak
    go_upto_region 11 with fail
    have qz := fun x : ExtW w8 => (x.at_ hbx).all2.1
    have qy := fun x : ExtW w8 => (x.h.cell (p := ⟨gv, a, none⟩) (World.block_lt_of_cell? _ _ hyc)).trans hyc
    refine region_mk 11 (by kernel_rfl) (by kernel_rfl) ?_
    apply Exists.intro
    simp only [List.take_succ_cons, List.take_zero, List.drop_succ_cons, List.drop_zero]
    repeat (first
      | (apply grow_val (by rfl); (focus (intro x; (go_simp; try with_reducible rfl); done)); simp only [Act.put, List.setIfInBounds_toArray, List.set_cons_zero, List.set_cons_succ])
      | (apply grow_skip (by rfl); simp only [Act.put, List.setIfInBounds_toArray, List.set_cons_zero, List.set_cons_succ])
      | (apply grow_call (by rfl); (focus (intro x K Q hK; go_simp; (first | (go_at_call 39; (with_reducible refine (HRK.out x).mono ?_); rintro e w' ⟨rfl, hb⟩; exact hK _ hb)); done)); simp only [Act.put, List.setIfInBounds_toArray, List.set_cons_zero, List.set_cons_succ]))
    refine grow_nil ?_
    rintro ⟨w9, hb9⟩ hF hS
    have hb9 : Below w8.heap.size w8 w9 := hb9
    have H9 := hid (H8.out.nx hb9)
    clear hF hS qz qy hb9 H8 hbx hyc
    have hyc := (H9.out.ints 4 rfl).cell a (by rw [HVL.out]; exact ham)
    have hyf := (H9.out.ints 4 rfl).free a
    have H10 := H9.out.put 4 rfl a (wrap64 (y + X))
    rw [← HVSK.out] at H10
    have H11 := hid (H10.pick [0, 1, 2, 3, 4] (by decide))
    have HFIN : Hid (Hp w.heap.size w (w9.setCell ⟨gv, a, none⟩ (.int .i64 (wrap64 (y + X)))) [.blk w.heap.size 25 #[.slice As T.shape.length cs, .slice (some ⟨bv, ov, none⟩) T.values.length ct], .blk (w.heap.size + 1) 25 #[.slice none 0 0, .slice none 0 0], .ints (.slice (some ⟨gs, 0, none⟩) S'.length caps) S', .blk g6 25 #[.slice (some ⟨gs, 0, none⟩) S'.length caps, .slice (some ⟨gv, 0, none⟩) M M], .ints (.slice (some ⟨gv, 0, none⟩) M M) (sdV T D (k + 1))]) := H11
    have hwk : IntKind.i64.wrap ((k : Int) + 1) = (k : Int) + 1 := IntWalk.i64_in _ (by omega)
    clear H10 H11
    go_wp2
    go_roundg (T.values.length - (k + 1))
    case measure => omega
    case rel => exact ⟨k + 1, by omega, rfl, by congr 1, HFIN.out⟩

end Go.Proofs.Ytfiphjifnjnmbaa

/-! ## SDqv9 -/
namespace Go.Proofs.Ytfiphjifnjnmbaa
open Go.RowKit

theorem sumW_sm (xs : List Int) : ∀ (a : Int), (∀ x ∈ xs, -1000000 ≤ x ∧ x ≤ 1000000) → -1000000 * (1000 - (xs.length : Int)) ≤ a → a ≤ 1000000 * (1000 - (xs.length : Int)) → xs.length ≤ 1000 →
    xs.foldl (fun a x => wrap64 (a + x)) a = a + sumI xs := by
  induction xs with
  | nil => intro a _ _ _ _; simp only [List.foldl_nil, sumI, List.foldr_nil]; omega
  | cons x xs ih =>
    intro a h h1 h2 hl
    have hx := h x List.mem_cons_self
    simp only [List.length_cons] at hl h1 h2
    have hw : wrap64 (a + x) = a + x := wrap_small (by omega) (by omega)
    rw [List.foldl_cons, hw, ih _ (fun y hy => h y (List.mem_cons_of_mem _ hy)) (by omega) (by omega) (by omega)]
    simp only [sumI, List.foldr_cons]
    omega
theorem sumI_set : ∀ (xs : List Int) (a : Nat) (y : Int), a < xs.length → sumI (xs.set a y) = sumI xs - xs.getD a 0 + y
  | x :: xs, 0, y, _ => by simp [sumI]; omega
  | x :: xs, a + 1, y, h => by
    have := sumI_set xs a y (by simpa using h)
    simp only [List.set_cons_succ, sumI, List.foldr_cons, List.getD_cons_succ] at this ⊢
    omega
theorem sumI_snoc (xs : List Int) (y : Int) : sumI (xs ++ [y]) = sumI xs + y := by
  induction xs with
  | nil => simp [sumI]
  | cons x xs ih => simp only [sumI, List.cons_append, List.foldr_cons] at ih ⊢; omega
theorem sumI_zero (n : Nat) : sumI (List.replicate n 0) = 0 := by
  induction n with
  | zero => rfl
  | succ n ih => rw [List.replicate_succ]; simp only [sumI, List.foldr_cons] at ih ⊢; omega
theorem sdV_sum {T : TL} {d : Nat} (hT : isTensorL T = true) (hs : isShapeL (sdS T d) = true) (k : Nat) (hk : k ≤ T.values.length) (h60 : T.values.length ≤ 60) :
    sumI (sdV T d k) = sumI (T.values.take k) ∧ ∀ x ∈ sdV T d k, -1000000 * (k : Int) ≤ x ∧ x ≤ 1000000 * (k : Int) := by
  induction k with
  | zero =>
    refine ⟨by rw [List.take_zero]; exact sumI_zero _, fun x hx => ?_⟩
    have := (List.mem_replicate.1 hx).2
    omega
  | succ k ih =>
    obtain ⟨h1, h2⟩ := ih (by omega)
    have ha := (sdAt_in hT hs (show k < T.values.length by omega)).2.1
    rw [← sdV_len T d k] at ha
    have hv := (isTensorL_and hT).2.2 _ (List.getElem_mem (show k < T.values.length by omega))
    have hg : T.values.getD k 0 = T.values[k]'(by omega) := by simp [show k < T.values.length by omega]
    have hm : (sdV T d k).getD (sdAt T d k) 0 ∈ sdV T d k := by
      rw [List.getD_eq_getElem?_getD, List.getElem?_eq_getElem ha]
      exact List.getElem_mem _
    have hy := h2 _ hm
    have hw : wrap64 ((sdV T d k).getD (sdAt T d k) 0 + T.values.getD k 0) = (sdV T d k).getD (sdAt T d k) 0 + T.values.getD k 0 := wrap_small (by omega) (by omega)
    refine ⟨?_, fun x hx => ?_⟩
    · rw [sdV, hw, sumI_set _ _ _ ha, h1, take_snocI _ k (by omega), sumI_snoc, hg]
      omega
    · rw [sdV, hw] at hx
      rcases List.mem_or_eq_of_mem_set hx with hx | rfl
      · have := h2 x hx
        omega
      · omega
theorem sum_total {T : TL} {d : Int} (h : okSum T d = true) : sumW (sumDL T d).values = sumW T.values := by
  have h' := h
  simp only [okSum, okSD, Bool.and_eq_true] at h'
  obtain ⟨⟨⟨hT, -⟩, hS⟩, hU⟩ := h'
  have hp := shape_prod (isTensorL_and hT).1
  have hv := (isTensorL_and hT).2.1
  rw [hp.1] at hv
  have hq := shape_prod hS
  have hl := sdV_len T d.toNat T.values.length
  rw [hq.1] at hl
  have hs := (sdV_sum hT hS T.values.length (Nat.le_refl _) (by omega)).1
  rw [List.take_length] at hs
  rw [sumD_yes h]
  show sumW (sdV T d.toNat T.values.length) = _
  unfold sumW
  have hU2 : ∀ x ∈ sdV T d.toNat T.values.length, -1000000 ≤ x ∧ x ≤ 1000000 := (isTensorL_and hU).2.2
  rw [sumW_sm _ 0 hU2 (by omega) (by omega) (by omega), sumW_sm _ 0 (isTensorL_and hT).2.2 (by omega) (by omega) (by omega), hs]

end Go.Proofs.Ytfiphjifnjnmbaa

/-! ## SE1v9 -/
namespace Go.Proofs.Ytfiphjifnjnmbaa
open Go.RowKit


set_option maxRecDepth 100000 in
set_option maxHeartbeats 800000 in
theorem lwithout_any (v : Value) (xs : List Int) (d : Nat) (w : World) (h : Ints w v xs) (hd : d < xs.length) (hl : xs.length ≤ 1000000) :
    Calls Try.prog 14 #[v, .int .i64 d] w (RetOwn w (xs.eraseIdx d)) := by
  have h0 := h
  obtain ⟨A, c, rfl, hk, hm, hr⟩ := h
  unfold maxLen at hm
  obtain ⟨b, off, rfl, hb0, hc⟩ := hr (by omega)
  clear hc hr
  have hIt := h0.take d (by omega)
  have hlt : (xs.take d).length ≤ 1000000000000 := by rw [List.length_take]; omega
  have HLT := hid (show (xs.take d).length = d by rw [List.length_take]; omega)
  have HE := hid (eraseIdx_eq xs d)
  have hb1 : (0 : Int) ≤ (d : Int) + 1 := by omega
  have hb2 : (d : Int) + 1 ≤ (xs.length : Int) := by omega
  have hb3 : (d : Int) ≤ (xs.length : Int) := by omega
  have hb4 : (d : Int) ≤ (c : Int) := by omega
  have hwr : IntKind.i64.wrap ((d : Int) + 1) = (d : Int) + 1 := IntWalk.i64_in _ (by omega)
  have htn : ((d : Int) + 1).toNat = d + 1 := by omega
  have hz2 : (xs.take d).length + (xs.drop (d + 1)).length ≤ 1000000000000 := by have := HLT.out; rw [List.length_drop]; omega
  have hdc : d ≤ c := by omega
  have hc0 : ¬ c = 0 := by omega
  have hdl : d ≤ xs.length := by omega
  have hlit : Own (w.alloc (.cells #[] 3)).drew w.heap.size (.slice (some ⟨w.heap.size, 0, none⟩) 0 0) [] := (Own.litAt (Below.refl w.heap.size w)).drew
  have hBl : Below w.heap.size w (w.alloc (.cells #[] 3)).drew := (below_alloc w _).drew
  have hsz : w.heap.size ≤ (w.alloc (.cells #[] 3)).drew.heap.size := hBl.size
  have hItw := (hIt.ext hBl)
  have hbd : (d : Int) ≤ (d : Int) + 1 := by omega
  by_cases hcap : c = d + 1
  · have hID := Ints.dropAll (k := d + 1) h0 hcap
    subst hcap
    rw [show xs.length - (d + 1) = 0 by omega] at hID
    go_enter Try.func14, Try.ntmps14
    go_wp2_with fail
    go_region_held3 (fun _ => True)
      (first | exact trivial)
      (first
        | (refine step_applit _ (by rfl) _ _ (by rfl) _ hlit (by rfl) _ _ _ (xs.take d) hItw (by rfl) hlt ?_; intro A1 c1 w1 ho1 sg1 hb1'; have hB1 := hBl.trans (hb1'.mono hsz); have hs1 := hB1.size)
        | (refine stepI _ (by rfl) _ _ (by rfl) _ _ (xs.take d) (by rfl) ho1 _ _ _ (xs.drop (d + 1)) (by rfl) (hID.ext hB1) hz2 hs1 ?_; intro v2 w2 ho2 hg2 hat2))
    have hB2 := hB1.trans (ho1.under hg2 hs1)
    go_wp2
    go_ret
    exact ⟨_, rfl, by rw [← HE.out]; exact ho2, hB2⟩
  · have hID := h0.drop (d + 1) (by omega)
    have hb5 : (d : Int) + 1 ≤ (c : Int) := by omega
    go_enter Try.func14, Try.ntmps14
    go_wp2_with fail
    go_region_held3 (fun _ => True)
      (first | exact trivial)
      (first
        | (refine step_applit _ (by rfl) _ _ (by rfl) _ hlit (by rfl) _ _ _ (xs.take d) hItw (by rfl) hlt ?_; intro A1 c1 w1 ho1 sg1 hb1'; have hB1 := hBl.trans (hb1'.mono hsz); have hs1 := hB1.size)
        | (refine stepI _ (by rfl) _ _ (by rfl) _ _ (xs.take d) (by rfl) ho1 _ _ _ (xs.drop (d + 1)) (by rfl) (hID.ext hB1) hz2 hs1 ?_; intro v2 w2 ho2 hg2 hat2))
    have hB2 := hB1.trans (ho1.under hg2 hs1)
    go_wp2
    go_ret
    exact ⟨_, rfl, by rw [← HE.out]; exact ho2, hB2⟩


/-- What DrawSumDim leaves. -/
def RetDrawTD (w : World) (e : Ending) (w' : World) : Prop := ∃ (T : TL) (d : Int) (sv tv : Value), e = .returned (.tuple #[.agg #[sv, tv], .int .i64 d]) ∧ (-9223372036854775808 ≤ d ∧ d ≤ 9223372036854775807) ∧
  Ints w' sv T.shape ∧ Ints w' tv T.values ∧ Below w.heap.size w w'
theorem drawd_done {g q b : Nat} {w w1 wx : World} {sv tv : Value} {T : TL} {d : Int} (hB : Below w.heap.size w w1) (H : Hr g g q w1 wx [.ints sv T.shape, .ints tv T.values, .blk b 25 #[sv, tv]]) (hg : w.heap.size < g)
    (hd : -9223372036854775808 ≤ d ∧ d ≤ 9223372036854775807) : RetDrawTD w (.returned (.tuple #[.agg #[sv, tv], .int .i64 d])) ((wx.setCell ⟨w.heap.size, 0, none⟩ sv).setCell ⟨w.heap.size, 1, none⟩ tv) := by
  have hlt := H.lt
  have k : ∀ {u : Value} {xs : List Int}, Own wx w1.heap.size u xs → Ints ((wx.setCell ⟨w.heap.size, 0, none⟩ sv).setCell ⟨w.heap.size, 1, none⟩ tv) u xs := fun h =>
    ((h.far (p := ⟨w.heap.size, 0, none⟩) (by show w.heap.size < w1.heap.size; omega) sv).far (p := ⟨w.heap.size, 1, none⟩) (by show w.heap.size < w1.heap.size; omega) tv).ints
  exact ⟨T, d, sv, tv, rfl, hd, k (H.ints 0 rfl), k (H.ints 1 rfl), below2 (hB.trans (Own.below H.grew (by omega) (fun k e => by injection e with e; omega))) (Nat.le_refl _) _ _⟩
theorem Hr.tensd {N g q0 : Nat} {w wx wy : World} {L : List Item} {sv tv : Value} {T : TL} {q : Nat} (h : Hr N g q0 w wx L) (hO1 : Own wy wx.heap.size sv T.shape) (hO2 : Own wy wx.heap.size tv T.values) (hsp : Sep sv tv) (hR : Rd N wy g q) (hG : wx.grownBy wy (some g)) :
    Hr N g q w wy [.ints sv T.shape, .ints tv T.values] :=
  ⟨⟨Below.refl _ _, Nat.le_trans h.sz hG.size, fun i hi => by
      simp only [List.mem_cons, List.not_mem_nil, or_false] at hi
      rcases hi with rfl | rfl
      · exact hO1.mono h.sz
      · exact hO2.mono h.sz, List.pairwise_pair.2 fun k h1 h2 => hsp k h1 h2⟩, h.lt, hR, h.grew.trans hG⟩

set_option maxRecDepth 100000 in
set_option maxHeartbeats 6400000 in
theorem DrawSumDim_any (v : Value) (n : Nat) (w : World) (h : BytesV w v n) :
    Calls Try.prog 8 #[v] w (RetDrawTD w) := by
  have hb0 := below_alloc w (.cells #[.slice none 0 0, .slice none 0 0] 25)
  have hZ := Blk.new w 25 #[.slice none 0 0, .slice none 0 0]
  have h1 := h.ext hb0
  have hz0 : w.heap.size + 1 ≤ (w.alloc (.cells #[.slice none 0 0, .slice none 0 0] 25)).heap.size := by simp
  go_enter Try.func8, Try.ntmps8
  go_wp2_with fail
  generalize (w.alloc (.cells #[.slice none 0 0, .slice none 0 0] 25)) = w0 at *
  refine (newReader_any _ n _ h1).mono ?_; rintro e w1 ⟨rfl, hR, hb1, hlt⟩
  have hZ1 := hZ.nx hb1
  have HB1 := hid (hb0.nx hb1 hb0.size)
  have HM0 := hid (Hr.start hR)
  generalize w0.heap.size = g at *
  have HZ1 := hid hZ1
  have hgz : w.heap.size < g := by omega
  clear hZ hZ1 hb0 hb1 h1 hz0 h hR hlt
  go_wp2_with fail
  refine (someTensor_any g g 0 _ HM0.out.rd (by omega)).mono ?_; rintro e w2 ⟨sv, tv, T, q, rfl, hl1, hl2, hO1, hO2, hsp, hq, hR, hG⟩
  obtain ⟨A1, c1, eu⟩ := hO1.form
  subst eu
  obtain ⟨A2, c2, eu⟩ := hO2.form
  subst eu
  have H2 := hid (HM0.out.tensd hO1 hO2 hsp hR hG)
  clear hO1 hO2 hsp hR hG HM0
  have H3 := hid (H2.out.op (H2.out.hp.alloc 25 #[.slice A1 T.shape.length c1, .slice A2 T.values.length c2]))
  simp only [List.nil_append, List.cons_append] at H3
  clear H2
  go_upto_region 3 with fail
  generalize (w2.alloc (.cells #[.slice A1 T.shape.length c1, .slice A2 T.values.length c2] 25)) = w3 at *
  generalize w2.heap.size = b at *
  obtain ⟨⟨z0, z1⟩, -⟩ := (H3.out.blk 2 rfl).all2
  have HM := hid (H3.out.nx (below_drew w3))
  have hP := pick_any g g q (T.shape.length + 1) _ HM.out.rd (by omega) (by omega)
  rw [show (((T.shape.length + 1 : Nat)) : Int) = (T.shape.length : Int) + 1 by omega] at hP
  have HP := hid hP
  have hw : IntKind.i64.wrap ((T.shape.length : Int) + 1) = (T.shape.length : Int) + 1 := IntWalk.i64_in _ (by omega)
  have hq6 : q + 1 ≤ 1000000 := by omega
  have hsl : T.shape.length ≤ 61 := hl1
  clear hP
  go_region_law (first
    | (rw [if_pos (wanted_of (by rfl))]; go_simp; go_at_call 33; refine HP.out.mono ?_; rintro e w4 ⟨r, rfl, hr, hR4, hG4⟩
       have H4 := hid (HM.out.ate hR4 hG4)
       have H4l := hid (H4.out.nx (below_alloc w4 (.cells #[.int .i64 0, .int .i64 1, .int .i64 r, .int .i64 (-1)] 3)))
       have hL : Own (w4.alloc (.cells #[.int .i64 0, .int .i64 1, .int .i64 r, .int .i64 (-1)] 3)) w4.heap.size (.slice (some ⟨w4.heap.size, 0, none⟩) 4 4) [0, 1, (r : Int), -1] := own_lit w4 [0, 1, (r : Int), -1] (by simp)
       have hne := H4.out.rd.lit 4 4
       obtain ⟨⟨p0, p1⟩, -⟩ := (H4.out.blk 2 rfl).all2
       obtain ⟨⟨pp0, pp1⟩, -⟩ := (H4l.out.blk 2 rfl).all2
       clear hR4 hG4
       go_simp)
    | (rw [if_pos (wanted_of (by rfl))]; go_simp; go_at_call 32; refine (one_any g g (q + 1) _ _ _ _ H4l.out.rd hq6 hL (by simp) hne).mono ?_; rintro e w5 ⟨r5, hr5, rfl, hR5, hG5⟩
       have H5 := hid (H4l.out.ate hR5 hG5)
       obtain ⟨y, ey, hy⟩ : ∃ y : Int, [0, 1, (r : Int), -1][r5] = y ∧ y ∈ ([0, 1, (r : Int), -1] : List Int) := ⟨_, rfl, List.getElem_mem hr5⟩
       rw [ey]
       obtain ⟨⟨x0, x1⟩, -⟩ := (H5.out.blk 2 rfl).all2
       obtain ⟨⟨r0, r1⟩, s0, s1⟩ := (HZ1.out.grown H5.out.grew (by omega)).all2
       clear hR5 hG5 ey hr5
       go_simp))
  all_goals
    have hyb : -9223372036854775808 ≤ y ∧ y ≤ 9223372036854775807 := by simp at hy; omega
    have HF := hid (drawd_done HB1.out H5.out hgz hyb)
    clear hy hL hne
    go_wp2
    refine bodyPost_ret (v := .tuple #[.agg #[.slice A1 T.shape.length c1, .slice A2 T.values.length c2], .int .i64 y]) (by simp [results, Try.results8, go_sem, r0, r1]) rfl ?_
    exact HF.out

end Go.Proofs.Ytfiphjifnjnmbaa

/-! ## SD4v9 -/
namespace Go.Proofs.Ytfiphjifnjnmbaa
open Go.RowKit

theorem tens_parts {w : World} {s t : Value} {T : TL} (h : TensorV w (.agg #[s, t]) T) : Ints w s T.shape ∧ Ints w t T.values := by
  obtain ⟨sv, tv, e, h1, h2⟩ := h
  have e' : s = sv ∧ t = tv := by simpa using e
  rw [e'.1, e'.2]
  exact ⟨h1, h2⟩
set_option maxRecDepth 100000 in
set_option maxHeartbeats 6400000 in
theorem FnSumDim_walk (v : Value) (n : Nat) (w : World) (h : BytesV w v n) :
    Calls Try.prog 3 #[v] w fun e w' => e = .returned (.bool true) ∧ Below w.heap.size w w' := by
  have hv := h
  obtain ⟨A, c, rfl, h1, h2, -⟩ := h
  by_cases hn : 1048576 < n
  · have hni : (1048576 : Int) < (n : Int) := by omega
    go_enter Try.func3, Try.ntmps3
    go_wp2
    go_ret
    exact ⟨rfl, Below.refl _ _⟩
  have hni : ¬ (1048576 : Int) < (n : Int) := by omega
  go_enter Try.func3, Try.ntmps3
  go_wp2_with fail
  refine (DrawSumDim_any _ n _ hv).mono ?_; rintro e w1 ⟨T, d, sv, tv, rfl, hd, hS, hV, hz⟩
  obtain ⟨As, cs, rfl⟩ := hS.form
  obtain ⟨At, ct, rfl⟩ := hV.form
  clear hv h1 h2
  have hb := below_alloc w1 (.cells #[.slice As T.shape.length cs, .slice At T.values.length ct] 25)
  have hB := Blk.new w1 25 #[.slice As T.shape.length cs, .slice At T.values.length ct]
  have hT : TensorV (w1.alloc (.cells #[.slice As T.shape.length cs, .slice At T.values.length ct] 25)) (.agg #[.slice As T.shape.length cs, .slice At T.values.length ct]) T := ⟨_, _, rfl, hS.nx hb, hV.nx hb⟩
  have hz := hz.nx hb hz.size
  clear hb hS hV
  go_upto_region 4 with fail
  generalize w1.alloc (.cells #[.slice As T.shape.length cs, .slice At T.values.length ct] 25) = w2 at *
  generalize w1.heap.size = g3 at *
  obtain ⟨⟨q0, q1⟩, -⟩ := id hB.all2
  obtain ⟨U, hU⟩ : ∃ U, sumDL T d = U := ⟨_, rfl⟩
  obtain ⟨b, hbb⟩ : ∃ b, okSum T d = b := ⟨_, rfl⟩
  have HU := hid hU
  have HBB := hid hbb
  have HI := hid (SumDim_any (.agg #[.slice As T.shape.length cs, .slice At T.values.length ct]) T d)
  have HSP := hid (sSumDim_any (.agg #[.slice As T.shape.length cs, .slice At T.values.length ct]) T d)
  rw [hU, hbb] at HI HSP
  clear hU hbb
  go_wp2_with fail
  refine (HI.out _ hT hd).mono ?_; rintro e w3 ⟨su, tu, rfl, hsu, htu, hsep, hb⟩
  obtain ⟨Au, cu, rfl⟩ := hsu.form
  obtain ⟨Bu, du, rfl⟩ := htu.form
  have hUt := Own.tensor hsu htu
  have hB := hB.nx hb
  have hT := TensorV.ext hT hb
  have hz := hz.nx hb hz.size
  clear q0 q1 hb hsu htu hsep HI
  have hb := below_alloc w3 (.cells #[.slice Au U.shape.length cu, .slice Bu U.values.length du] 25)
  have hX := Blk.new w3 25 #[.slice Au U.shape.length cu, .slice Bu U.values.length du]
  have hB := hB.nx hb
  have hT := TensorV.ext hT hb
  have hUt := TensorV.ext hUt hb
  have hz := hz.nx hb hz.size
  clear hb
  go_upto_region 5 with fail
  generalize w3.alloc (.cells #[.slice Au U.shape.length cu, .slice Bu U.values.length du] 25) = w4 at *
  generalize w3.heap.size = g5 at *
  obtain ⟨⟨q0, q1⟩, -⟩ := id hB.all2
  go_wp2_with fail
  refine (HSP.out _ hT hd).mono ?_; rintro e w5 ⟨sx, tx, rfl, hsx, htx, hsep, hb⟩
  obtain ⟨Ax, cx, rfl⟩ := hsx.form
  obtain ⟨Bx, dx, rfl⟩ := htx.form
  have hXt := Own.tensor hsx htx
  have hB := hB.nx hb
  have hX := hX.nx hb
  have hT := TensorV.ext hT hb
  have hUt := TensorV.ext hUt hb
  have hz := hz.nx hb hz.size
  clear q0 q1 hb hsx htx hsep HSP
  have hb := below_alloc w5 (.cells #[.slice Ax U.shape.length cx, .slice Bx U.values.length dx] 25)
  have hY := Blk.new w5 25 #[.slice Ax U.shape.length cx, .slice Bx U.values.length dx]
  have hB := hB.nx hb
  have hX := hX.nx hb
  have hT := TensorV.ext hT hb
  have hUt := TensorV.ext hUt hb
  have hXt := TensorV.ext hXt hb
  have hz := hz.nx hb hz.size
  clear hb
  go_upto_region 6 with fail
  generalize w5.alloc (.cells #[.slice Ax U.shape.length cx, .slice Bx U.values.length dx] 25) = w6 at *
  generalize w5.heap.size = g7 at *
  obtain ⟨⟨q0, q1⟩, -⟩ := id hX.all2
  obtain ⟨⟨r0, r1⟩, -⟩ := id hY.all2
  go_wp2_with fail
  refine (equalTensor_same _ _ U _ hUt hXt).mono ?_; rintro e w7 ⟨rfl, hb⟩
  have hB := hB.nx hb
  have hX := hX.nx hb
  have hY := hY.nx hb
  have hT := TensorV.ext hT hb
  have hUt := TensorV.ext hUt hb
  have hXt := TensorV.ext hXt hb
  have hz := hz.nx hb hz.size
  clear hb q0 q1 r0 r1
  cases b
  · obtain ⟨⟨q0, q1⟩, -⟩ := id hX.all2
    obtain ⟨⟨r0, r1⟩, -⟩ := id hY.all2
    go_wp2_with fail
    refine (equalTensor_same _ _ U _ hUt hXt).mono ?_; rintro e w8 ⟨rfl, hb⟩
    have hz := hz.nx hb hz.size
    go_wp2
    go_ret
    exact ⟨rfl, hz⟩
  have hk := HBB.out
  have HTOT := hid (show sumW U.values = sumW T.values by rw [← HU.out]; exact sum_total HBB.out)
  have HSH := hid (show U.shape = T.shape.eraseIdx d.toNat by rw [← HU.out, sumD_yes HBB.out]; rfl)
  simp only [okSum, okSD, Bool.and_eq_true] at hk
  have hin := inR_iff.1 hk.1.1.2
  obtain ⟨D, rfl⟩ : ∃ D : Nat, d = (D : Int) := ⟨d.toNat, by omega⟩
  have hD : D < T.shape.length := by omega
  rw [Int.toNat_natCast] at HSH
  have hl4 : T.shape.length ≤ 1000000 := Nat.le_trans (shape_ext (isTensorL_and hk.1.1.1).1).1 (by omega)
  clear hk hin
  go_upto_region 8 with fail
  have qB := fun x : ExtW w7 => (x.at_ hB).all2.1
  have qX := fun x : ExtW w7 => (x.at_ hX).all2.1
  have HTV := hid (fun x : ExtW w7 => total_any _ U.values x.v (tens_parts (TensorV.ext hUt x.h)).2)
  have HTT := hid (fun x : ExtW w7 => total_any _ T.values x.v (tens_parts (TensorV.ext hT x.h)).2)
  have HWO := hid (fun x : ExtW w7 => lwithout_any _ T.shape D x.v (tens_parts (TensorV.ext hT x.h)).1 hD hl4)
  have HUS := hid (fun x : ExtW w7 => (tens_parts (TensorV.ext hUt x.h)).1)
  rw [HTOT.out] at HTV
  obtain ⟨X, hX0⟩ : ∃ X, sumW T.values = X := ⟨_, rfl⟩
  rw [hX0] at HTV HTT
  rw [← HSH.out] at HWO
  have hbb : (X == X) = true := by simp
  clear hX0
  refine region_mk 16 (by kernel_rfl) (by kernel_rfl) ?_
  apply Exists.intro
  simp only [List.take_succ_cons, List.take_zero, List.drop_succ_cons, List.drop_zero]
  repeat (first
    | (apply grow_val (by rfl); (focus (intro x; (go_simp; try with_reducible rfl); done)); simp only [Act.put, List.setIfInBounds_toArray, List.set_cons_zero, List.set_cons_succ])
    | (apply grow_skip (by rfl); simp only [Act.put, List.setIfInBounds_toArray, List.set_cons_zero, List.set_cons_succ])
    | (apply grow_call (by rfl); (focus (intro x K Q hK; go_simp; (first | (go_at_call 12; (with_reducible refine (HTV.out x).mono ?_); rintro e w' ⟨rfl, hb⟩; exact hK _ hb) | (go_at_call 12; (with_reducible refine (HTT.out x).mono ?_); rintro e w' ⟨rfl, hb⟩; exact hK _ hb)); done)); simp only [Act.put, List.setIfInBounds_toArray, List.set_cons_zero, List.set_cons_succ]))
  apply grow_ints (U.shape) (by rfl)
  · intro x hF K Q hK
    go_simp
    go_at_call 14;(with_reducible refine (HWO.out x).mono ?_);rintro e w' ⟨v1, rfl, ho, hb⟩;exact hK _ _ hb ho
  intro A13 c13 F13 O13 hF13 hO13
  simp only [Act.put, List.setIfInBounds_toArray, List.set_cons_zero, List.set_cons_succ]
  repeat (first
    | (apply grow_val (by rfl); (focus (intro x; (go_simp; try with_reducible rfl); done)); simp only [Act.put, List.setIfInBounds_toArray, List.set_cons_zero, List.set_cons_succ])
    | (apply grow_skip (by rfl); simp only [Act.put, List.setIfInBounds_toArray, List.set_cons_zero, List.set_cons_succ]))
  apply grow_callG (by rfl)
  · intro x hF K Q hK
    have h13 := hF13 _ (hF 13 (by kernel_rfl))
    go_simp
    refine (equalInts_same _ _ U.shape _ (HUS.out x) h13.ints).mono ?_
    rintro e w' ⟨rfl, hb⟩
    exact hK _ hb
  simp only [Act.put, List.setIfInBounds_toArray, List.set_cons_zero, List.set_cons_succ]
  repeat (first
    | (apply grow_val (by rfl); (focus (intro x; (go_simp; try with_reducible rfl); done)); simp only [Act.put, List.setIfInBounds_toArray, List.set_cons_zero, List.set_cons_succ])
    | (apply grow_skip (by rfl); simp only [Act.put, List.setIfInBounds_toArray, List.set_cons_zero, List.set_cons_succ]))
  refine grow_nil ?_
  intro x hF hS9
  obtain ⟨w8, hb8⟩ := x
  clear hF hS9 hF13 hO13 qB qX
  go_wp2
  go_ret
  exact ⟨rfl, hz.nx hb8 hz.size⟩

end Go.Proofs.Ytfiphjifnjnmbaa
