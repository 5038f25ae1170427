/- Contracts: the parts of the reference's contraction. No conditions. -/
import Derived.Test.YtldblcolnjkcaaaSDp
import Derived.Test.YtldblcolnjkcaaaS1
import Derived.Test.YtldblcolnjkcaaaV4
import Derived.Test.YtldblcolnjkcaaaV6
import Derived.Test.YtldblcolnjkcaaaE1
import Derived.Test.YtldblcolnjkcaaaSR
import Derived.Test.YtldblcolnjkcaaaIE
import Derived.Test.YtldblcolnjkcaaaC3
import Derived.Deep.Cut
import Derived.Deep.LoopGhost
namespace Go.Proofs.Ytldblcolnjkcaaa
open Go.RowKit

set_option maxHeartbeats 800000 in
theorem sUpTo_any (n : Nat) (w : World) (hn : n ≤ 1000000) :
    Calls Try.prog 147 #[.int .i64 n] w (RetOwn w (upI n)) := by
  go_enter Try.func147, Try.ntmps147
  go_wp2
  go_loopw [3, 4] (fun out i wr => ∃ (k : Nat), k ≤ n ∧ i = .int .i64 k ∧ Own wr w.heap.size out (upI k) ∧ Below w.heap.size w wr) (fun _ i _ => n - (intOf i).toNat)
  case atStart => exact ⟨0, Nat.zero_le _, rfl, Own.empty w rfl (Nat.le_refl _), below_alloc w _⟩
  case round =>
    obtain ⟨k, hk, rfl, hown, hb⟩ := hrel
    by_cases hlt : k < n
    · have HT := hid (upI_succ k)
      have HL1 := hid (show (upI k).length ≤ 1000000000000 by rw [upI_length]; omega)
      have hsz : w.heap.size ≤ wr.heap.size := hb.size
      go_wp2_with (at_builtin; refine app1 _ rfl _ _ rfl w.heap.size _ (upI k) rfl (hown.alloc _) ⟨wr.heap.size, 0, none⟩ 1 (k : Int) rfl (cell_new1 _ _ _) HL1.out (le_alloc hsz _) ?_)
      intro v1 w1 ho1 hg1 hat1
      have hq := hb.trans (((below_alloc wr (.cells #[.int .i64 (k : Int)] 3)).mono hsz).trans ((hown.alloc _).under hg1 (le_alloc hsz _)))
      go_wp2
      go_roundw
      case rel => exact ⟨k + 1, by omega, by go_num, by rw [HT.out]; exact ho1, hq⟩
      case measure => simp [intOf]; omega
    · have HE := hid (show k = n by omega)
      go_wp2
      go_ret
      exact ⟨_, rfl, by rw [← HE.out]; exact hown, hb⟩

set_option maxHeartbeats 400000 in
theorem unrank5_any (v : Value) (shape : List Int) (r : Int) (w : World) (h : Ints w v shape) (hpos : ∀ x ∈ shape, 1 ≤ x ∧ x ≤ 60) (hl : shape.length ≤ 5) (hr0 : 0 ≤ r) (hr1 : r ≤ 100) :
    Calls Try.prog 160 #[v, .int .i64 r] w (RetOwn w (unr shape r)) := by
  have HP := hid hpos; clear hpos
  obtain ⟨A, c, rfl, h1, h2, h3⟩ := h
  unfold maxLen at h2
  go_enter Try.func160, Try.ntmps160
  go_wp2_with (at_make; refine mk0 _ rfl _ _ rfl shape.length rfl rfl (by omega) ?_)
  intro w0 hown0 hb0
  go_wp2
  go_loopw [1, 6] (fun q i wr => ∃ (j : Nat) (qi : Int) (xs : List Int), j ≤ shape.length ∧ i = .int .i64 ((j : Int) - 1) ∧ q = .int .i64 qi ∧ IdxRel shape r j qi xs ∧
      Own wr w.heap.size (.slice (some ⟨w.heap.size, 0, none⟩) shape.length shape.length) xs ∧ Below w.heap.size w wr) (fun _ i _ => (intOf i + 1).toNat)
  case atStart => exact ⟨shape.length, r, _, Nat.le_refl _, rfl, rfl, IdxRel.start shape r, hown0, hb0⟩
  case round =>
    obtain ⟨j, qi, xs, hj, rfl, rfl, hrl, hown, hb⟩ := hrel
    have hq := hrl.q_bd hr0 HP.out
    obtain ⟨hq0, hq1⟩ := hq
    have HR := hid hrl; clear hrl
    rcases Nat.eq_zero_or_pos j with h0 | h0
    · subst h0
      go_wp2
      go_ret
      refine ⟨_, rfl, ?_, hb⟩
      rw [← HR.out.end_]
      exact hown
    · obtain ⟨m, rfl⟩ : ∃ m, j = m + 1 := ⟨j - 1, by omega⟩
      have hm : m < shape.length := by omega
      have HS := hid (HR.out.step hm HP.out)
      have hs0 := (HP.out shape[m] (List.getElem_mem hm)).1
      have hs1 := (HP.out shape[m] (List.getElem_mem hm)).2
      obtain ⟨b, off, rfl, hlt, hc⟩ := h3 (by omega)
      have hx := (hb.cell (p := ⟨b, off + m, none⟩) hlt).trans (hc m shape[m] (by simp [hm]))
      have hxl : m < xs.length := by have := HR.out.1; omega
      have hy := hown.cell m hxl
      have hf := hown.free m
      have hne : b ≠ w.heap.size := by omega
      have HO := hid (hown.put m (qi % shape[m]))
      have HB := hid (hb.setCell (p := ⟨w.heap.size, m, none⟩) (Nat.le_refl _) (.int .i64 (qi % shape[m])))
      clear hc h3 hown hb
      go_wp2
      go_roundw
      case rel => exact ⟨m, _, _, by omega, rfl, rfl, HS.out, HO.out, HB.out⟩
      case measure => simp [intOf]


set_option maxRecDepth 100000 in
set_option maxHeartbeats 6400000 in
theorem picked_any (v vi : Value) (xs ix : List Int) (w : World) (h : Ints w v xs) (hi : Ints w vi ix) (hr : ∀ i ∈ ix, 0 ≤ i ∧ i < xs.length) (hl : ix.length ≤ 1000) :
    Calls Try.prog 167 #[v, vi] w (RetOwn w (takenL xs ix)) := by
  obtain ⟨A, c, rfl, -⟩ := h.form
  obtain ⟨A', c', rfl, -⟩ := hi.form
  have HR := hid hr
  clear hr
  go_enter Try.func167, Try.ntmps167
  have HE := hid (Own.empty w (B := w.heap.size) rfl (Nat.le_refl _))
  have HB0 := hid (below_alloc w (.cells #[] 3))
  go_wp2
  go_loopg [5, 6] ix.length (fun m out i wr => ∃ k : Nat, k ≤ ix.length ∧ m = ix.length - k ∧ i = .int .i64 k ∧ Own wr w.heap.size out (takenL xs (ix.take k)) ∧ Below w.heap.size w wr)
  case atStart => exact ⟨0, Nat.zero_le _, rfl, rfl, HE.out, HB0.out⟩
  case round =>
    obtain ⟨k, hk, rfl, rfl, hown, hb⟩ := hrel
    have HO := hid hown
    have HB := hid hb
    have hsz := hb.size
    clear HE HB0
    by_cases hlt : k < ix.length
    · have hki : (k : Int) < (ix.length : Int) := by omega
      have hin := HR.out _ (List.getElem_mem hlt)
      obtain ⟨b1, o1, rfl, x0⟩ := (hi.ext hb).elem k hlt
      obtain ⟨j, hj⟩ : ∃ j : Nat, ix[k] = (j : Int) := ⟨(ix[k]).toNat, by omega⟩
      have HT := hid (takenL_snoc xs ix k hlt)
      rw [hj] at x0 hin HT
      have hjn : j < xs.length := by omega
      obtain ⟨b2, o2, rfl, y0⟩ := (h.ext hb).elem j hjn
      have hjl : (j : Int) < (xs.length : Int) := by omega
      have hj0 : (0 : Int) ≤ (j : Int) := by omega
      obtain ⟨X, eX⟩ : ∃ X, xs[j] = X := ⟨_, rfl⟩
      have HTX := hid (show takenL xs (ix.take (k + 1)) = takenL xs (ix.take k) ++ [X] by rw [HT.out]; simp [hjn, eX])
      rw [eX] at y0
      have HL1 := hid (show (takenL xs (ix.take k)).length ≤ 1000000000000 by simp [takenL]; omega)
      have hw : IntKind.i64.wrap ((k : Int) + 1) = (k : Int) + 1 := IntWalk.i64_in _ (by omega)
      obtain ⟨A9, c9, e9⟩ := hown.form
      clear hj eX hin HT hb hown
      subst e9
      go_wp2_with (at_builtin; refine app1 _ rfl _ _ rfl w.heap.size _ (takenL xs (ix.take k)) rfl (HO.out.alloc _) ⟨wr.heap.size, 0, none⟩ 1 X rfl (cell_new1 _ _ _) HL1.out (le_alloc hsz _) ?_)
      intro v1 w1 ho1 hg1 hat1
      have hq := HB.out.trans (((below_alloc wr (.cells #[.int .i64 X] 3)).mono hsz).trans ((HO.out.alloc _).under hg1 (le_alloc hsz _)))
      clear hg1 hat1
      go_wp2
      go_roundg (ix.length - (k + 1))
      case measure => omega
      case rel => exact ⟨k + 1, by omega, rfl, by congr 1, by rw [HTX.out]; exact ho1, hq⟩
    · have hki : ¬ (k : Int) < (ix.length : Int) := by omega
      have HQ := hid (show takenL xs (ix.take k) = takenL xs ix by rw [List.take_of_length_le (by omega)])
      clear hown hb
      go_wp2
      go_ret
      exact ⟨_, rfl, by rw [← HQ.out]; exact HO.out, HB.out⟩

/-- What the space of extents is. -/
def RetSpace (w : World) (xs : List Int) (e : Ending) (w' : World) : Prop := ∃ r, e = .returned (.tuple #[r, .int .i64 (prodW (spX xs))]) ∧ Own w' w.heap.size r (spX xs) ∧ Below w.heap.size w w'
theorem spX_snoc (xs : List Int) (k : Nat) (h : k < xs.length) : spX (xs.take (k + 1)) = spX (xs.take k) ++ [if xs[k] < 0 then 1 else xs[k]] := by
  rw [take_snocI _ k h, spX, List.map_append]; rfl
set_option maxRecDepth 100000 in
set_option maxHeartbeats 6400000 in
theorem space_any (v : Value) (xs : List Int) (w : World) (h : Ints w v xs) (hl : xs.length ≤ 1000) : Calls Try.prog 179 #[v] w (RetSpace w xs) := by
  obtain ⟨A, c, rfl, -⟩ := h.form
  go_enter Try.func179, Try.ntmps179
  have HE := hid (Own.empty w (B := w.heap.size) rfl (Nat.le_refl _))
  have HB0 := hid (below_alloc w (.cells #[] 3))
  go_wp2
  go_loopg [4, 5, 6, 7] xs.length (fun m out p i t wr => ∃ k : Nat, k ≤ xs.length ∧ m = xs.length - k ∧ i = .int .i64 k ∧ p = .int .i64 (prodW (spX (xs.take k))) ∧ Own wr w.heap.size out (spX (xs.take k)) ∧ Below w.heap.size w wr)
  case atStart => exact ⟨0, Nat.zero_le _, rfl, rfl, rfl, HE.out, HB0.out⟩
  case round =>
    obtain ⟨k, hk, rfl, rfl, rfl, hown, hb⟩ := hrel
    have HO := hid hown
    have HB := hid hb
    have hsz := hb.size
    clear HE HB0
    by_cases hlt : k < xs.length
    · have hki : (k : Int) < (xs.length : Int) := by omega
      obtain ⟨b1, o1, rfl, x0⟩ := (h.ext hb).elem k hlt
      have HS := hid (spX_snoc xs k hlt)
      have HL1 := hid (show (spX (xs.take k)).length ≤ 1000000000000 by simp [spX]; omega)
      have hw : IntKind.i64.wrap ((k : Int) + 1) = (k : Int) + 1 := IntWalk.i64_in _ (by omega)
      obtain ⟨A9, c9, e9⟩ := hown.form
      obtain ⟨X, eX⟩ : ∃ X, xs[k] = X := ⟨_, rfl⟩
      rw [eX] at x0 HS
      clear hb hown eX
      subst e9
      by_cases hneg : X < 0
      · rw [if_pos hneg] at HS
        have HPS := hid (show prodW (spX (xs.take (k + 1))) = wrap64 (prodW (spX (xs.take k)) * 1) by rw [HS.out, prodW_snoc])
        go_wp2_with (at_builtin; refine app1 _ rfl _ _ rfl w.heap.size _ (spX (xs.take k)) rfl (HO.out.alloc _) ⟨wr.heap.size, 0, none⟩ 1 1 rfl (cell_new1 _ _ _) HL1.out (le_alloc hsz _) ?_)
        intro v1 w1 ho1 hg1 hat1
        have hq := HB.out.trans (((below_alloc wr (.cells #[.int .i64 1] 3)).mono hsz).trans ((HO.out.alloc _).under hg1 (le_alloc hsz _)))
        clear hg1 hat1
        go_wp2
        go_roundg (xs.length - (k + 1))
        case measure => omega
        case rel => exact ⟨k + 1, by omega, rfl, by congr 1, by rw [HPS.out, Int.mul_one], by rw [HS.out]; exact ho1, hq⟩
      · rw [if_neg hneg] at HS
        have HPS := hid (show prodW (spX (xs.take (k + 1))) = wrap64 (prodW (spX (xs.take k)) * X) by rw [HS.out, prodW_snoc])
        go_wp2_with (at_builtin; refine app1 _ rfl _ _ rfl w.heap.size _ (spX (xs.take k)) rfl (HO.out.alloc _) ⟨wr.heap.size, 0, none⟩ 1 X rfl (cell_new1 _ _ _) HL1.out (le_alloc hsz _) ?_)
        intro v1 w1 ho1 hg1 hat1
        have hq := HB.out.trans (((below_alloc wr (.cells #[.int .i64 X] 3)).mono hsz).trans ((HO.out.alloc _).under hg1 (le_alloc hsz _)))
        clear hg1 hat1
        go_wp2
        go_roundg (xs.length - (k + 1))
        case measure => omega
        case rel => exact ⟨k + 1, by omega, rfl, by congr 1, by rw [HPS.out], by rw [HS.out]; exact ho1, hq⟩
    · have hki : ¬ (k : Int) < (xs.length : Int) := by omega
      have HQ := hid (show spX (xs.take k) = spX xs by rw [List.take_of_length_le (by omega)])
      clear hown hb
      go_wp2
      refine bodyPost_ret (v := .tuple #[u4, .int .i64 (prodW (spX (xs.take k)))]) (by simp [results, Try.results179, go_sem]) rfl ?_
      exact ⟨_, by rw [HQ.out], by rw [← HQ.out]; exact HO.out, HB.out⟩

set_option maxRecDepth 100000 in
set_option maxHeartbeats 6400000 in
theorem goodOut_any (vo ve : Value) (out E : List Int) (w : World) (ho : Ints w vo out) (he : Ints w ve E) (h1 : out.all (inR · 0 4) = true) (h2 : diffL out = true) (h3 : (takenL E out).all (inR · 0 60) = true) (h4 : E.length = 5) (hl : out.length ≤ 1000) :
    Calls Try.prog 178 #[vo, ve] w fun e w' => e = .returned (.bool (isShapeL (takenL E out))) ∧ Below w.heap.size w w' := by
  have HR := hid (show ∀ i ∈ out, 0 ≤ i ∧ i < (E.length : Int) from fun i hi => by
    have := List.all_eq_true.1 h1 i hi
    rw [inR_iff] at this
    omega)
  have H1 := hid h1
  have H2 := hid h2
  have H3 := hid h3
  clear h1 h2 h3 h4
  go_enter Try.func178, Try.ntmps178
  go_wp2_with fail
  refine (allIn_any _ out 0 4 _ ho).mono ?_; rintro e w' ⟨rfl, rfl⟩
  rw [H1.out]
  go_wp2_with fail
  refine (different_any _ out _ ho).mono ?_; rintro e w1 ⟨rfl, hb1⟩
  rw [H2.out]
  have ho1 := ho.ext hb1
  have he1 := he.ext hb1
  go_wp2_with fail
  refine (picked_any _ _ E out _ he1 ho1 HR.out hl).mono ?_; rintro e w2 ⟨r1, rfl, hr1, hb2⟩
  obtain ⟨A1, c1, rfl⟩ := hr1.form
  have hb12 := hb1.nx hb2 hb1.size
  go_wp2_with fail
  refine (allIn_any _ _ 0 60 _ hr1.ints).mono ?_; rintro e w' ⟨rfl, rfl⟩
  rw [H3.out]
  have ho2 := ho.ext hb12
  have he2 := he.ext hb12
  clear hr1 hb2 ho1 he1
  go_wp2_with fail
  refine (picked_any _ _ E out _ he2 ho2 HR.out hl).mono ?_; rintro e w3 ⟨r2, rfl, hr2, hb3⟩
  obtain ⟨A2, c2, rfl⟩ := hr2.form
  have hb13 := hb12.nx hb3 hb12.size
  go_wp2_with fail
  refine (validShape_any _ _ _ hr2.ints).mono ?_; rintro e w' ⟨rfl, rfl⟩
  go_wp2
  go_ret
  exact ⟨rfl, hb13⟩

end Go.Proofs.Ytldblcolnjkcaaa
