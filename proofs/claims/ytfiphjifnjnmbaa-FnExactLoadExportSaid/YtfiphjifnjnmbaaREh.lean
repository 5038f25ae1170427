/- Contracts of the laws' own helpers over rows of Exports. No conditions. -/
import Derived.Test.YtfiphjifnjnmbaaGw
import Derived.Test.YtfiphjifnjnmbaaGr
import Derived.Test.YtfiphjifnjnmbaaRR2
import Derived.Test.YtfiphjifnjnmbaaRE
import Derived.Test.YtfiphjifnjnmbaaL1
import Derived.Test.YtfiphjifnjnmbaaLX1
import Derived.Deep.Cut
import Derived.Deep.LoopGhost
namespace Go.Proofs.Ytfiphjifnjnmbaa
open Go.RowKit

set_option maxRecDepth 100000 in
set_option maxHeartbeats 6400000 in
theorem szExportS_ok (v : Value) (xs : List EL) (left : Nat) (w : World) (h : ExportsV w v xs) (hl : szR lenE xs ≤ left) (h2 : left ≤ 1048576) :
    Calls Try.prog 46 #[v, .int .i64 left] w fun e w' => e = .returned (.int .i64 ((left - szR lenE xs : Nat) : Int)) ∧ Below w.heap.size w w' := by
  obtain ⟨A, c, rfl, hk, hm⟩ := h.form
  have hle : xs.length ≤ left := by unfold szR at hl; omega
  obtain ⟨r, hr⟩ : ∃ r : Nat, left = xs.length + r := ⟨left - xs.length, by omega⟩
  have hr0 : ((left : Int) - (xs.length : Int)) = (r : Int) := by omega
  have HR0 := hid hr0
  have hls : wTo lenE xs xs.length ≤ r := by unfold szR at hl; omega
  have hr2 : r ≤ 1048576 := by omega
  have HF := hid (show ((left - szR lenE xs : Nat) : Int) = ((r - wTo lenE xs xs.length : Nat) : Int) by unfold szR; omega)
  clear hr hr0 hl
  go_enter Try.func46, Try.ntmps46
  go_upto_region 5 with fail
  rw [HR0.out]
  go_loopg [1, 5] xs.length (fun g l i wr => ∃ k : Nat, k ≤ xs.length ∧ g = xs.length - k ∧ i = .int .i64 k ∧ l = .int .i64 ((r - wTo lenE xs k : Nat) : Int) ∧ Below w.heap.size w wr)
  case atStart => exact ⟨0, Nat.zero_le _, rfl, rfl, by simp [wTo], Below.refl _ _⟩
  case round =>
    obtain ⟨k, hk1, rfl, rfl, rfl, hb⟩ := hrel
    by_cases hlt : k < xs.length
    · obtain ⟨b, off, u1, u2, rfl, x0, x1, x2, x3, x4, hu⟩ := (h.ext hb).at_ k hlt
      have hki : (k : Int) < (xs.length : Int) := by omega
      have hrl := wTo_le lenE hlt
      have HS := hid (wTo_succ lenE xs k hlt)
      obtain ⟨q, hq⟩ : ∃ q, q = r - wTo lenE xs k := ⟨_, rfl⟩
      rw [← hq]
      have hf : lenE xs[k] = xs[k].view.shape.length + xs[k].view.strides.length := rfl
      have hq1 : xs[k].view.shape.length + xs[k].view.strides.length ≤ q := by omega
      clear hf
      have hq2 : q ≤ 1048576 := by omega
      have HQ := hid hq
      clear hq hrl
      go_wp2_with fail
      refine (szExport_ok _ xs[k] q _ hu hq1 hq2).mono ?_; rintro e w' ⟨rfl, hb1⟩
      have hqb := hb.nx hb1 hb.size
      have hn0 : ¬ (((q - xs[k].view.shape.length - xs[k].view.strides.length : Nat) : Int) < 0) := by omega
      generalize hz : q - xs[k].view.shape.length - xs[k].view.strides.length = z at *
      have HZ := hid hz
      clear hz x0 x1 x2 x3 x4 hb1
      go_wp2
      go_roundg (xs.length - (k + 1))
      case rel => exact ⟨k + 1, by omega, rfl, by go_num, by rw [HS.out, ← HZ.out, HQ.out]; simp only [lenE]; congr 1; omega, hqb⟩
      case measure => omega
    · obtain rfl : xs.length = k := by omega
      go_wp2
      go_ret
      exact ⟨ret_int HF.out.symm, hb⟩

set_option maxRecDepth 100000 in
set_option maxHeartbeats 6400000 in
theorem szExportS_no (v : Value) (xs : List EL) (left : Nat) (w : World) (h : ExportsV w v xs) (hl : left < szR lenE xs) (h2 : left ≤ 1048576) :
    Calls Try.prog 46 #[v, .int .i64 left] w fun e w' => e = .returned (.int .i64 (-1)) ∧ Below w.heap.size w w' := by
  obtain ⟨A, c, rfl, hk, hm⟩ := h.form
  by_cases hle : left < xs.length
  · have hn : (left : Int) - (xs.length : Int) < 0 := by omega
    go_enter Try.func46, Try.ntmps46
    go_wp2
    go_ret
    exact ⟨rfl, Below.refl _ _⟩
  obtain ⟨r, hr⟩ : ∃ r : Nat, left = xs.length + r := ⟨left - xs.length, by omega⟩
  have hr0 : ((left : Int) - (xs.length : Int)) = (r : Int) := by omega
  have HR0 := hid hr0
  have HLS := hid (show r < wTo lenE xs xs.length by unfold szR at hl; omega)
  have hr2 : r ≤ 1048576 := by omega
  clear hr hr0 hl
  go_enter Try.func46, Try.ntmps46
  go_upto_region 5 with fail
  rw [HR0.out]
  go_loopg [1, 5] xs.length (fun g l i wr => ∃ k : Nat, k ≤ xs.length ∧ g = xs.length - k ∧ i = .int .i64 k ∧ wTo lenE xs k ≤ r ∧ l = .int .i64 ((r - wTo lenE xs k : Nat) : Int) ∧ Below w.heap.size w wr)
  case atStart => exact ⟨0, Nat.zero_le _, rfl, rfl, by simp [wTo], by simp [wTo], Below.refl _ _⟩
  case round =>
    obtain ⟨k, hk1, rfl, rfl, hsk, rfl, hb⟩ := hrel
    by_cases hlt : k < xs.length
    · obtain ⟨b, off, u1, u2, rfl, x0, x1, x2, x3, x4, hu⟩ := (h.ext hb).at_ k hlt
      have hki : (k : Int) < (xs.length : Int) := by omega
      have HS := hid (wTo_succ lenE xs k hlt)
      obtain ⟨q, hq⟩ : ∃ q, q = r - wTo lenE xs k := ⟨_, rfl⟩
      rw [← hq]
      have hq2 : q ≤ 1048576 := by omega
      by_cases hfit : xs[k].view.shape.length + xs[k].view.strides.length ≤ q
      · have HSK := hid (show wTo lenE xs (k + 1) ≤ r by rw [HS.out]; have hf : lenE xs[k] = xs[k].view.shape.length + xs[k].view.strides.length := rfl; omega)
        have HQ := hid hq
        clear hq hsk
        go_wp2_with fail
        refine (szExport_ok _ xs[k] q _ hu hfit hq2).mono ?_; rintro e w' ⟨rfl, hb1⟩
        have hqb := hb.nx hb1 hb.size
        have hn0 : ¬ (((q - xs[k].view.shape.length - xs[k].view.strides.length : Nat) : Int) < 0) := by omega
        generalize hz : q - xs[k].view.shape.length - xs[k].view.strides.length = z at *
        have HZ := hid hz
        clear hz x0 x1 x2 x3 x4 hb1
        go_wp2
        go_roundg (xs.length - (k + 1))
        case rel => exact ⟨k + 1, by omega, rfl, by go_num, HSK.out, by rw [HS.out, ← HZ.out, HQ.out]; simp only [lenE]; congr 1; omega, hqb⟩
        case measure => omega
      · clear hq hsk
        go_wp2_with fail
        refine (szExport_no _ xs[k] q _ hu (by omega) hq2).mono ?_; rintro e w' ⟨rfl, hb1⟩
        have hqb := hb.nx hb1 hb.size
        clear x0 x1 x2 x3 x4 hb1
        go_wp2
        go_ret
        exact ⟨rfl, hqb⟩
    · exfalso
      have : k = xs.length := by omega
      rw [this] at hsk
      have := HLS.out
      omega

/-- What a function that returns a new row of Exports leaves. -/
def RetExportS (w : World) (xs : List EL) (e : Ending) (w' : World) : Prop := ∃ v us, e = .returned v ∧ OwnC 70 5 w' w.heap.size v xs.length us (flatR encE xs) ∧ Below w.heap.size w w'

set_option maxRecDepth 100000 in
set_option maxHeartbeats 6400000 in
theorem toExportS_any (v : Value) (xs : List EL) (w : World) (h : ExportsV w v xs) (hl : szR lenE xs ≤ 1048576) :
    Calls Try.prog 51 #[v] w (RetExportS w xs) := by
  obtain ⟨A, c, rfl, hk, hm⟩ := h.form
  have hle : xs.length ≤ 1048576 := by unfold szR at hl; omega
  have HROW := hid (fun k (hk : k < xs.length) => show lenE xs[k] ≤ 1048576 by have := wTo_le lenE hk; unfold szR at hl; omega)
  clear hl
  go_enter Try.func51, Try.ntmps51
  go_wp2_with (at_make; refine mkR _ rfl _ _ _ rfl xs.length 70 [.num 0, .num 0, .row [], .row [], .bit false] (by simp [isZero]) (by decide) (.agg #[.int .i64 0, .int .i64 0, .slice none 0 0, .slice none 0 0, .bool false]) 72 (by omega) Try.underlying40 (by kernel_rfl) (by kernel_rfl) rfl rfl (by omega) ?_)
  intro w0 hown0 hb0 hz0
  go_upto_region 3 with fail
  rw [← upR_zero (enc := encE) [.num 0, .num 0, .row [], .row [], .bit false] xs] at hown0
  have hown0 : OwnC 70 5 w0 w.heap.size (.slice (some ⟨w.heap.size, 0, none⟩) xs.length xs.length) xs.length _ (upR encE [.num 0, .num 0, .row [], .row [], .bit false] xs 0) := hown0
  generalize hG : w.heap.size = G at hown0 ⊢
  have HG := hid hG
  go_loopg [4] xs.length (fun g i wr => ∃ (k : Nat) (us : List Value), k ≤ xs.length ∧ g = xs.length - k ∧ i = .int .i64 k ∧ OwnC 70 5 wr G (.slice (some ⟨G, 0, none⟩) xs.length xs.length) xs.length us (upR encE [.num 0, .num 0, .row [], .row [], .bit false] xs k) ∧ Below w.heap.size w wr)
  case atStart => exact ⟨0, _, Nat.zero_le _, rfl, rfl, hown0, hb0⟩
  case round =>
    obtain ⟨k, us, hk1, rfl, rfl, hown, hb⟩ := hrel
    clear hG
    by_cases hlt : k < xs.length
    · obtain ⟨b, off, u1, u2, rfl, x0, x1, x2, x3, x4, hu⟩ := (h.ext hb).at_ k hlt
      have hki : (k : Int) < (xs.length : Int) := by omega
      have HR := hid (HROW.out k hlt)
      go_wp2_with fail
      refine (toExport_any _ xs[k] _ hu (by have := HR.out; have hf : lenE xs[k] = xs[k].view.shape.length + xs[k].view.strides.length := rfl; omega) (by have := HR.out; have hf : lenE xs[k] = xs[k].view.shape.length + xs[k].view.strides.length := rfl; omega)).mono ?_; rintro e w4 ⟨s1, t1, rfl, ho, hp, hsep, hb1⟩
      have hown4 := hown.ext hb1
      have HLU := hid (show us.length = xs.length * 5 from hown.total)
      obtain ⟨As, cs, es⟩ := ho.form
      obtain ⟨At, ct, et⟩ := hp.form
      subst es et
      have hGw : G ≤ wr.heap.size := by have := hb.size; have := HG.out; omega
      have hs1 : Sep (.slice (some ⟨G, 0, none⟩) xs.length xs.length) (.slice As _ cs) := Seg.sep hown.seg.1 ho.seg (Nat.le_refl _)
      have ht1 : Sep (.slice (some ⟨G, 0, none⟩) xs.length xs.length) (.slice At _ ct) := Seg.sep hown.seg.1 hp.seg (Nat.le_refl _)
      have hs2 : ∀ (j : Nat) (u' : Value), us[j]? = some u' → Sep u' (.slice As _ cs) := fun j u' hu' => Seg.sep (hown.seg.2 u' (List.mem_of_getElem? hu')) ho.seg (Nat.le_refl _)
      have ht2 : ∀ (j : Nat) (u' : Value), us[j]? = some u' → Sep u' (.slice At _ ct) := fun j u' hu' => Seg.sep (hown.seg.2 u' (List.mem_of_getElem? hu')) hp.seg (Nat.le_refl _)
      obtain ⟨z0, c0⟩ : ∃ u0, w4.cell? ⟨G, k * 5, none⟩ = some u0 := ⟨_, hown4.cell (k * 5) (by rw [HLU.out]; omega)⟩
      have f0 := hown4.free (k * 5)
      obtain ⟨z1, c1⟩ : ∃ u0, w4.cell? ⟨G, k * 5 + 1, none⟩ = some u0 := ⟨_, hown4.cell (k * 5 + 1) (by rw [HLU.out]; omega)⟩
      have f1 := hown4.free (k * 5 + 1)
      obtain ⟨z2, c2⟩ : ∃ u0, w4.cell? ⟨G, k * 5 + 2, none⟩ = some u0 := ⟨_, hown4.cell (k * 5 + 2) (by rw [HLU.out]; omega)⟩
      have f2 := hown4.free (k * 5 + 2)
      obtain ⟨z3, c3⟩ : ∃ u0, w4.cell? ⟨G, k * 5 + 3, none⟩ = some u0 := ⟨_, hown4.cell (k * 5 + 3) (by rw [HLU.out]; omega)⟩
      have f3 := hown4.free (k * 5 + 3)
      obtain ⟨z4, c4⟩ : ∃ u0, w4.cell? ⟨G, k * 5 + 4, none⟩ = some u0 := ⟨_, hown4.cell (k * 5 + 4) (by rw [HLU.out]; omega)⟩
      have f4 := hown4.free (k * 5 + 4)
      obtain ⟨us', H5⟩ := hown4.store [.int .i64 xs[k].parent, .int .i64 xs[k].view.base, .slice As xs[k].view.shape.length cs, .slice At xs[k].view.strides.length ct, .bool xs[k].opn] (encE xs[k]) (k * 5) w4 us _ rfl (fun j v d hx hy => match j, hx, hy with
        | 0, hx, hy => by have hy := Option.some.inj (show some (Cl.num xs[k].parent) = some d from hy); simp at hx; subst hx hy; exact rfl
        | 1, hx, hy => by have hy := Option.some.inj (show some (Cl.num xs[k].view.base) = some d from hy); simp at hx; subst hx hy; exact rfl
        | 2, hx, hy => by have hy := Option.some.inj (show some (Cl.row xs[k].view.shape) = some d from hy); simp at hx; subst hx hy; exact ho.mono hGw
        | 3, hx, hy => by have hy := Option.some.inj (show some (Cl.row xs[k].view.strides) = some d from hy); simp at hx; subst hx hy; exact hp.mono hGw
        | 4, hx, hy => by have hy := Option.some.inj (show some (Cl.bit xs[k].opn) = some d from hy); simp at hx; subst hx hy; exact rfl
        | n + 5, hx, hy => by simp at hx) (by
      intro v hv
      simp only [List.mem_cons, List.not_mem_nil, or_false] at hv
      rcases hv with rfl | rfl | rfl | rfl | rfl
      · exact Sep.num_right _ _ _
      · exact Sep.num_right _ _ _
      · exact hs1
      · exact ht1
      · exact Sep.bit_right _ _) (by
      intro j u' hj v hv
      simp only [List.mem_cons, List.not_mem_nil, or_false] at hv
      rcases hv with rfl | rfl | rfl | rfl | rfl
      · exact Sep.num_right _ _ _
      · exact Sep.num_right _ _ _
      · exact hs2 j u' hj
      · exact ht2 j u' hj
      · exact Sep.bit_right _ _) (by simp [List.pairwise_cons, Sep.num_left, Sep.bit_right, hsep])
      rw [upR_put encE_len rfl xs k hlt] at H5
      have HO := hid (show OwnC 70 5 (((((w4.setCell ⟨G, k * 5, none⟩ (.int .i64 xs[k].parent)).setCell ⟨G, k * 5 + 1, none⟩ (.int .i64 xs[k].view.base)).setCell ⟨G, k * 5 + 2, none⟩ (.slice As xs[k].view.shape.length cs)).setCell ⟨G, k * 5 + 3, none⟩ (.slice At xs[k].view.strides.length ct)).setCell ⟨G, k * 5 + 4, none⟩ (.bool xs[k].opn)) G (.slice (some ⟨G, 0, none⟩) xs.length xs.length) xs.length us' (upR encE [.num 0, .num 0, .row [], .row [], .bit false] xs (k + 1)) from H5)
      have HB := hid (show Below w.heap.size w (((((w4.setCell ⟨G, k * 5, none⟩ (.int .i64 xs[k].parent)).setCell ⟨G, k * 5 + 1, none⟩ (.int .i64 xs[k].view.base)).setCell ⟨G, k * 5 + 2, none⟩ (.slice As xs[k].view.shape.length cs)).setCell ⟨G, k * 5 + 3, none⟩ (.slice At xs[k].view.strides.length ct)).setCell ⟨G, k * 5 + 4, none⟩ (.bool xs[k].opn)) from below_store (g := G) (Nat.le_of_eq HG.out) [.int .i64 xs[k].parent, .int .i64 xs[k].view.base, .slice As xs[k].view.shape.length cs, .slice At xs[k].view.strides.length ct, .bool xs[k].opn] (k * 5) w4 (hb.trans (hb1.mono hb.size)))
      clear hown hown4 H5 hs1 hs2 ht1 ht2 hsep ho hp x0 x1 x2 x3 x4 hb hb1
      go_wp2_with fail
      clear c0 f0 c1 f1 c2 f2 c3 f3 c4 f4
      go_roundg (xs.length - (k + 1))
      case rel => exact ⟨k + 1, us', by omega, rfl, by go_num, HO.out, HB.out⟩
      case measure => omega
    · obtain rfl : xs.length = k := by omega
      rw [upR_all] at hown
      have HO := hid hown
      clear hown
      go_wp2
      go_ret
      exact ⟨_, us, rfl, HO.out.mono (Nat.le_of_eq HG.out), hb⟩

set_option maxRecDepth 100000 in
set_option maxHeartbeats 6400000 in
theorem eqExportS_yes (v v' : Value) (xs : List EL) (w : World) (h : ExportsV w v xs) (h' : ExportsV w v' xs) :
    Calls Try.prog 54 #[v, v'] w fun e w' => e = .returned (.bool true) ∧ Below w.heap.size w w' := by
  obtain ⟨A, c, rfl, hk, hm⟩ := h.form
  obtain ⟨A', c', rfl, hk', hm'⟩ := h'.form
  go_enter Try.func54, Try.ntmps54
  go_wp2_with fail
  go_loopg [5] xs.length (fun g i wr => ∃ k : Nat, k ≤ xs.length ∧ g = xs.length - k ∧ i = .int .i64 k ∧ Below w.heap.size w wr)
  case atStart => exact ⟨0, Nat.zero_le _, rfl, rfl, Below.refl _ _⟩
  case round =>
    obtain ⟨k, hk1, rfl, rfl, hb⟩ := hrel
    by_cases hlt : k < xs.length
    · obtain ⟨b, off, u1, u2, rfl, x0, x1, x2, x3, x4, hu⟩ := (h.ext hb).at_ k hlt
      obtain ⟨b', off', u1', u2', rfl, y0, y1, y2, y3, y4, hu'⟩ := (h'.ext hb).at_ k hlt
      have hki : (k : Int) < (xs.length : Int) := by omega
      go_upto_region 6 with fail
      have qx0 := fun x : ExtW wr => (x.h.cell (p := ⟨b, off + k * 5, none⟩) (World.block_lt_of_cell? _ _ x0)).trans x0
      have qx1 := fun x : ExtW wr => (x.h.cell (p := ⟨b, off + k * 5 + 1, none⟩) (World.block_lt_of_cell? _ _ x1)).trans x1
      have qx2 := fun x : ExtW wr => (x.h.cell (p := ⟨b, off + k * 5 + 2, none⟩) (World.block_lt_of_cell? _ _ x2)).trans x2
      have qx3 := fun x : ExtW wr => (x.h.cell (p := ⟨b, off + k * 5 + 3, none⟩) (World.block_lt_of_cell? _ _ x3)).trans x3
      have qx4 := fun x : ExtW wr => (x.h.cell (p := ⟨b, off + k * 5 + 4, none⟩) (World.block_lt_of_cell? _ _ x4)).trans x4
      have qy0 := fun x : ExtW wr => (x.h.cell (p := ⟨b', off' + k * 5, none⟩) (World.block_lt_of_cell? _ _ y0)).trans y0
      have qy1 := fun x : ExtW wr => (x.h.cell (p := ⟨b', off' + k * 5 + 1, none⟩) (World.block_lt_of_cell? _ _ y1)).trans y1
      have qy2 := fun x : ExtW wr => (x.h.cell (p := ⟨b', off' + k * 5 + 2, none⟩) (World.block_lt_of_cell? _ _ y2)).trans y2
      have qy3 := fun x : ExtW wr => (x.h.cell (p := ⟨b', off' + k * 5 + 3, none⟩) (World.block_lt_of_cell? _ _ y3)).trans y3
      have qy4 := fun x : ExtW wr => (x.h.cell (p := ⟨b', off' + k * 5 + 4, none⟩) (World.block_lt_of_cell? _ _ y4)).trans y4
      have HU := hid (fun x : ExtW wr => hu.ext x.h)
      have HU' := hid (fun x : ExtW wr => hu'.ext x.h)
      refine region_mk 10 (by kernel_rfl) (by kernel_rfl) ?_
      apply Exists.intro
      simp only [List.take_succ_cons, List.take_zero, List.drop_succ_cons, List.drop_zero]
      repeat (first
        | (apply grow_val (by rfl); (focus (intro x; (go_simp; try with_reducible rfl); done)); simp only [Act.put, List.setIfInBounds_toArray, List.set_cons_zero, List.set_cons_succ])
        | (apply grow_skip (by rfl); simp only [Act.put, List.setIfInBounds_toArray, List.set_cons_zero, List.set_cons_succ])
        | (apply grow_call (by rfl); (focus (intro x K Q hK; go_simp; (first | (go_at_call 75; (with_reducible refine (eqExport_yes _ _ xs[k] _ (HU.out x) (HU'.out x)).mono ?_); rintro e w' ⟨rfl, hb⟩; exact hK _ hb)); done)); simp only [Act.put, List.setIfInBounds_toArray, List.set_cons_zero, List.set_cons_succ]))
      refine grow_nil ?_
      rintro ⟨w5, hb5⟩ - -
      have hb5 : Below wr.heap.size wr w5 := hb5
      have hq := hb.trans (hb5.mono hb.size)
      clear qx0 x0 qx1 x1 qx2 x2 qx3 x3 qx4 x4 qy0 y0 qy1 y1 qy2 y2 qy3 y3 qy4 y4
      go_wp2
      go_roundg (xs.length - (k + 1))
      case rel => exact ⟨k + 1, by omega, rfl, by go_num, hq⟩
      case measure => omega
    · obtain rfl : xs.length = k := by omega
      go_wp2
      go_ret
      exact ⟨rfl, hb⟩

end Go.Proofs.Ytfiphjifnjnmbaa
