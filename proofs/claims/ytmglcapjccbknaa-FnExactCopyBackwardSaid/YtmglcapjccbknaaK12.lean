/- Contracts: CopyBackward, both. No conditions. -/
import Derived.Test.YtmglcapjccbknaaK11
import Derived.Outline
import Derived.StillTailTactics
import Derived.Deep.RegionHeld3
namespace Go.Proofs.Ytmglcapjccbknaa
open Go.RowKit

def dnL (n : Nat) : List Int := (upL n).reverse
theorem dnL_length (n : Nat) : (dnL n).length = n := by simp [dnL, upL_length]
theorem dnL_get (n k j : Nat) (h : k < n) (hj : j + k + 1 = n) : (dnL n)[k]'(by rw [dnL_length]; exact h) = (j : Int) := by
  simp only [dnL, List.getElem_reverse, upL_length]
  rw [upL_get n (n - 1 - k) (by omega)]
  omega
theorem stepK_dn (mem to fr : List Int) (n k j : Nat) (h : k < n) (hj : j + k + 1 = n) (h1 : j < to.length) (h2 : j < fr.length) : stepK mem to fr (dnL n) (k + 1) = stepS (stepK mem to fr (dnL n) k) to[j] fr[j] := by
  rw [stepK_snoc mem to fr (dnL n) k (by rw [dnL_length]; exact h), dnL_get n k j h hj]
  simp [h1, h2]
theorem dnL_in {mem : List Int} {T F : VL} (h : CopyFacts mem T F) {x : Int} (hx : x ∈ dnL (offs T).length) : 0 ≤ x ∧ x < (offs T).length ∧ x < (offs F).length :=
  upL_in h (List.mem_reverse.1 hx)
def bwdL (mem : List Int) (T F : VL) : List Int := if okCopy mem T F then stepK mem (offs T) (offs F) (dnL (offs T).length) (offs T).length else []
theorem bwdL_len (mem : List Int) (T F : VL) : (bwdL mem T F).length ≤ 60 := by
  unfold bwdL
  split
  · rename_i h
    rw [stepK_length]; exact (isMemL_and (holdL_and (okCopy_and h).1).1).1
  · simp
theorem drop_rev (xs : List Int) (j : Nat) (h : j < xs.length) : (xs.drop j).reverse = (xs.drop (j + 1)).reverse ++ [xs[j]] := by
  rw [List.drop_eq_getElem_cons h, List.reverse_cons]

set_option maxHeartbeats 800000 in
theorem reversed_any (v : Value) (xs : List Int) (w : World) (h : Ints w v xs) (hn : xs.length ≤ 1000000) :
    Calls Try.prog 74 #[v] w (RetOwn w xs.reverse) := by
  obtain ⟨A, c, rfl, h1, h2, h3⟩ := h
  unfold maxLen at h2
  go_enter Try.func74, Try.ntmps74
  go_wp2
  go_loopw [3, 4] (fun out i wr => ∃ (k : Nat), k ≤ xs.length ∧ i = .int .i64 ((k : Int) - 1) ∧ Own wr w.heap.size out (xs.drop k).reverse ∧ Below w.heap.size w wr) (fun _ i _ => (intOf i + 1).toNat)
  case atStart => exact ⟨xs.length, Nat.le_refl _, by go_num, by rw [List.drop_length]; exact Own.empty w rfl (Nat.le_refl _), below_alloc w _⟩
  case round =>
    obtain ⟨k, hk, hi, hown, hb⟩ := hrel
    by_cases hlt : 0 < k
    · obtain ⟨j, rfl⟩ : ∃ j, k = j + 1 := ⟨k - 1, by omega⟩
      have hjl : j < xs.length := by omega
      rw [show (((j + 1 : Nat) : Int) - 1) = (j : Int) by omega] at hi
      subst hi
      obtain ⟨b, off, rfl, hltb, hc⟩ := h3 (by omega)
      have hx := (hb.cell (p := ⟨b, off + j, none⟩) hltb).trans (hc j xs[j] (by simp [hjl]))
      have HT := hid (drop_rev xs j hjl)
      have HL1 := hid (show (xs.drop (j + 1)).reverse.length ≤ 1000000000000 by simp; omega)
      have hsz : w.heap.size ≤ wr.heap.size := hb.size
      clear hc h3
      go_wp2_with (at_builtin; refine app1 _ rfl _ _ rfl w.heap.size _ (xs.drop (j + 1)).reverse rfl (hown.alloc _) ⟨wr.heap.size, 0, none⟩ 1 xs[j] rfl (cell_new1 _ _ _) HL1.out (le_alloc hsz _) ?_)
      intro v1 w1 ho1 hg1 hat1
      have hq := hb.trans (((below_alloc wr (.cells #[.int .i64 xs[j]] 3)).mono hsz).trans ((hown.alloc _).under hg1 (le_alloc hsz _)))
      go_wp2
      go_roundw
      case rel => exact ⟨j, by omega, by go_num, by rw [HT.out]; exact ho1, hq⟩
      case measure => simp [intOf] <;> omega
    · obtain rfl : k = 0 := by omega
      subst hi
      go_wp2
      go_ret
      exact ⟨_, rfl, by simpa using hown, hb⟩

set_option maxRecDepth 100000 in
set_option maxHeartbeats 1600000 in
theorem sCopyBackward_any (m v f : Value) (mem : List Int) (T F : VL) (w : World) (hm : Ints w m mem) (hv : ViewV w v T) (hf : ViewV w f F) :
    Calls Try.prog 37 #[m, v, f] w (RetOwnB w (bwdL mem T F) (okCopy mem T F)) := by
  have hv0 := hv
  have hf0 := hf
  obtain ⟨sv, tv, rfl, hsv, htv⟩ := hv
  obtain ⟨sf, tf, rfl, hsf, htf⟩ := hf
  have hA := (Blk.new w 28 #[.int .i64 T.base, sv, tv]).alloc (.cells #[.int .i64 F.base, sf, tf] 28)
  have hR := Blk.new (w.alloc (.cells #[.int .i64 T.base, sv, tv] 28)) 28 #[.int .i64 F.base, sf, tf]
  have hW : Below w.heap.size w ((w.alloc (.cells #[.int .i64 T.base, sv, tv] 28)).alloc (.cells #[.int .i64 F.base, sf, tf] 28)) := ((Below.refl _ _).alloc (Nat.le_refl _) _).alloc (by simp) _
  simp only [World.size_alloc] at hR
  cases c : okCopy mem T F
  · have HQ := hid (show bwdL mem T F = [] by simp [bwdL, c])
    go_enter Try.func37, Try.ntmps37
    go_wp2_with fail
    generalize (w.alloc (.cells #[.int .i64 T.base, sv, tv] 28)).alloc (.cells #[.int .i64 F.base, sf, tf] 28) = W1 at *
    refine (pair_any _ _ _ mem T F _ (hm.ext hW) (hv0.ext hW) (hf0.ext hW)).mono ?_; rintro e w1 ⟨rfl, hb1⟩
    have hb01 := bstep hW hb1 hW.size
    go_wp2
    go_ret2
    exact ⟨_, by rfl, by rw [HQ.out]; exact Own.nil _ _, hb01⟩
  · have HQ := hid (show bwdL mem T F = stepK mem (offs T) (offs F) (dnL (offs T).length) (dnL (offs T).length).length by simp [bwdL, c, dnL_length])
    have HS := hid (copyFacts c)
    go_enter Try.func37, Try.ntmps37
    go_wp2_with fail
    generalize (w.alloc (.cells #[.int .i64 T.base, sv, tv] 28)).alloc (.cells #[.int .i64 F.base, sf, tf] 28) = W1 at *
    refine (pair_any _ _ _ mem T F _ (hm.ext hW) (hv0.ext hW) (hf0.ext hW)).mono ?_; rintro e w1 ⟨rfl, hb1⟩
    have hb01 := bstep hW hb1 hW.size
    have hA1 := hA.ext hb1 hA.lt
    have hR1 := hR.ext hb1 hR.lt
    obtain ⟨⟨q0, q1, q2⟩, -⟩ := id hA1.all3
    obtain ⟨⟨r0, r1, r2⟩, -⟩ := id hR1.all3
    have hD := hb01.drew
    have hDz : w.heap.size ≤ w1.drew.heap.size := hb01.size
    have t1 : True := trivial
    have hup := hid (fun x (hx : x ∈ dnL (offs T).length) => dnL_in HS.out hx)
    go_wp2_with fail
    go_region_held3 (fun w' => w'.cell? ⟨w.heap.size, 0, none⟩ = some (.int .i64 T.base) ∧ w'.cell? ⟨w.heap.size, 1, none⟩ = some sv ∧ w'.cell? ⟨w.heap.size, 2, none⟩ = some tv ∧ w'.cell? ⟨w.heap.size + 1, 0, none⟩ = some (.int .i64 F.base) ∧ w'.cell? ⟨w.heap.size + 1, 1, none⟩ = some sf ∧ w'.cell? ⟨w.heap.size + 1, 2, none⟩ = some tf)
      (first | go_keep | exact hK1 | exact hK2 | exact hK3 | exact hK4 | exact hK5)
      (first
        | (go_at_call 62; have _t := t1; refine (offsets_any _ T _ (hv0.ext hD) HS.out.t.1 HS.out.t.2).mono ?_; rintro e w2 ⟨u, rfl, ho1, hb2⟩; clear t1; have hA2 := (Blk.ext hA1 (below_drew w1) hA1.lt).ext hb2 hA1.lt; have hR2 := (Blk.ext hR1 (below_drew w1) hR1.lt).ext hb2 hR1.lt; have hK1 := six_cells hA2 hR2; have hb02 := bstep hD hb2 hDz)
        | (go_at_call 62; refine (offsets_any _ F _ (hf0.ext hb02) HS.out.f.1 HS.out.f.2).mono ?_; rintro e w3 ⟨u3, rfl, ho3, hb3⟩; have hA3 := hA2.ext hb3 hA2.lt; have hR3 := hR2.ext hb3 hR2.lt; have hK2 := six_cells hA3 hR3; have hb03 := bstep hb02 hb3 hb02.size)
        | (go_at_call 65; refine (scount_eq _ T.shape (offs T).length _ (hsv.ext hb03) HS.out.n).mono ?_; rintro e w3' ⟨rfl, rfl⟩)
        | (go_at_call 73; refine (upTo_any (offs T).length _ (Nat.le_trans HS.out.b (by decide))).mono ?_; rintro e w4 ⟨u4, rfl, ho4, hb4⟩; have hA4 := hA3.ext hb4 hA3.lt; have hR4 := hR3.ext hb4 hR3.lt; have hK3 := six_cells hA4 hR4; have hb04 := bstep hb03 hb4 hb03.size)
        | (go_at_call 74; refine (reversed_any _ (upL (offs T).length) _ (Own.ints ho4) (Nat.le_trans (Nat.le_of_eq (upL_length _)) (Nat.le_trans HS.out.b (by decide)))).mono ?_; rintro e w5 ⟨u5, rfl, ho5, hb5⟩; have hA5 := hA4.ext hb5 hA4.lt; have hR5 := hR4.ext hb5 hR4.lt; have hK4 := six_cells hA5 hR5; have hb05 := bstep hb04 hb5 hb04.size)
        | (go_at_call 72; refine (stepped_any _ _ _ _ mem (offs T) (offs F) (dnL (offs T).length) _ (hm.ext hb05) (Own.ints (((ho1.ext hb3).ext hb4).ext hb5)) (Own.ints ((ho3.ext hb4).ext hb5)) (Own.ints ho5) HS.out.m HS.out.ht HS.out.hf hup.out).mono ?_; rintro e w6 ⟨r, rfl, ho, hb6⟩; have hA6 := hA5.ext hb6 hA5.lt; have hR6 := hR5.ext hb6 hR5.lt; have hK5 := six_cells hA6 hR6))
    go_wp2
    go_ret2
    exact ⟨_, by rfl, by rw [HQ.out]; exact Own.mono ho hb05.size, bstep hb05 hb6 hb05.size⟩

set_option maxRecDepth 100000 in
set_option maxHeartbeats 1600000 in
theorem CopyBackward_any (m v f : Value) (mem : List Int) (T F : VL) (w : World) (hm : Ints w m mem) (hv : ViewV w v T) (hf : ViewV w f F) :
    Calls Try.prog 38 #[m, v, f] w (RetOwnB w (bwdL mem T F) (okCopy mem T F)) := by
  have hv0 := hv
  have hf0 := hf
  obtain ⟨sv, tv, rfl, hsv, htv⟩ := hv
  obtain ⟨sf, tf, rfl, hsf, htf⟩ := hf
  have hA := (Blk.new w 28 #[.int .i64 T.base, sv, tv]).alloc (.cells #[.int .i64 F.base, sf, tf] 28)
  have hR := Blk.new (w.alloc (.cells #[.int .i64 T.base, sv, tv] 28)) 28 #[.int .i64 F.base, sf, tf]
  have hW : Below w.heap.size w ((w.alloc (.cells #[.int .i64 T.base, sv, tv] 28)).alloc (.cells #[.int .i64 F.base, sf, tf] 28)) := ((Below.refl _ _).alloc (Nat.le_refl _) _).alloc (by simp) _
  simp only [World.size_alloc] at hR
  cases c : okCopy mem T F
  · have HQ := hid (show bwdL mem T F = [] by simp [bwdL, c])
    go_enter Try.func38, Try.ntmps38
    go_wp2_with fail
    generalize (w.alloc (.cells #[.int .i64 T.base, sv, tv] 28)).alloc (.cells #[.int .i64 F.base, sf, tf] 28) = W1 at *
    refine (canCopy_any _ _ _ mem T F _ (hm.ext hW) (hv0.ext hW) (hf0.ext hW)).mono ?_; rintro e w1 ⟨rfl, hb1⟩
    have hb01 := bstep hW hb1 hW.size
    go_wp2
    go_ret2
    exact ⟨_, by rfl, by rw [HQ.out]; exact Own.nil _ _, hb01⟩
  · have HQ := hid (show bwdL mem T F = stepK mem (offs T) (offs F) (dnL (offs T).length) (offs T).length by simp [bwdL, c])
    have HS := hid (copyFacts c)
    have hml := HS.out.m
    have hm0 := hm
    obtain ⟨A, cc, em⟩ := hm0.form
    subst em
    go_enter Try.func38, Try.ntmps38
    go_wp2_with fail
    generalize (w.alloc (.cells #[.int .i64 T.base, sv, tv] 28)).alloc (.cells #[.int .i64 F.base, sf, tf] 28) = W1 at *
    refine (canCopy_any _ _ _ mem T F _ (hm.ext hW) (hv0.ext hW) (hf0.ext hW)).mono ?_; rintro e w1 ⟨rfl, hb1⟩
    have hb01 := bstep hW hb1 hW.size
    have hA1 := hA.ext hb1 hA.lt
    have hR1 := hR.ext hb1 hR.lt
    have hx := (hm.ext hb01).ext (below_alloc w1 (.cells #[] 3))
    have ho := Own.empty w1 (B := w1.heap.size) rfl (Nat.le_refl _)
    have hz : ([] : List Int).length + mem.length ≤ 1000000000000 := by simp; omega
    go_wp2_with (at_builtin; refine appI _ rfl _ _ rfl w1.heap.size _ [] rfl ho _ _ _ mem rfl hx hz (by simp) ?_)
    intro v' w2 ho2' hg hat
    have hb2 : Below w1.heap.size w1 w2 := (below_alloc w1 _).trans (ho.under hg (by simp))
    have ho2 : Own w2 w1.heap.size v' mem := by simpa using ho2'
    clear hx ho hat hg ho2'
    have hb02 := bstep hb01 hb2 hb01.size
    have hA2 := hA1.ext hb2 hA1.lt
    have hR2 := hR1.ext hb2 hR1.lt
    obtain ⟨⟨q0, q1, q2⟩, -⟩ := id hA2.all3
    obtain ⟨⟨r0, r1, r2⟩, -⟩ := id hR2.all3
    have t1 : True := trivial
    have hD := hb02.drew
    have hDz : w.heap.size ≤ w2.drew.heap.size := hb02.size
    go_wp2_with fail
    go_region_held3 (fun w' => w'.cell? ⟨w.heap.size, 0, none⟩ = some (.int .i64 T.base) ∧ w'.cell? ⟨w.heap.size, 1, none⟩ = some sv ∧ w'.cell? ⟨w.heap.size, 2, none⟩ = some tv ∧ w'.cell? ⟨w.heap.size + 1, 0, none⟩ = some (.int .i64 F.base) ∧ w'.cell? ⟨w.heap.size + 1, 1, none⟩ = some sf ∧ w'.cell? ⟨w.heap.size + 1, 2, none⟩ = some tf)
      (first | go_keep | exact hK1 | exact hK2)
      (first
        | (go_at_call 64; have _t := t1; refine (offsetsOf_any _ F _ (hf0.ext hD) HS.out.f.1 HS.out.f.2).mono ?_; rintro e w3 ⟨r3, rfl, ho3, hb3⟩; clear t1; have hA3 := (Blk.ext hA2 (below_drew w2) hA2.lt).ext hb3 hA2.lt; have hR3 := (Blk.ext hR2 (below_drew w2) hR2.lt).ext hb3 hR2.lt; have hK1 := six_cells hA3 hR3; have hb03 := bstep hD hb3 hDz)
        | (go_at_call 64; refine (offsetsOf_any _ T _ (hv0.ext hb03) HS.out.t.1 HS.out.t.2).mono ?_; rintro e w4 ⟨r4, rfl, ho4, hb4⟩; have hA4 := hA3.ext hb4 hA3.lt; have hR4 := hR3.ext hb4 hR3.lt; have hK2 := six_cells hA4 hR4))
    have hb3 : Below w2.heap.size w2 w3 := (below_drew w2).trans hb3
    clear hK1 hK2 q0 q1 q2 r0 r1 r2
    have hb04 := bstep hb03 hb4 hb03.size
    have hsg := Own.seg ‹Own w2 w1.heap.size v' mem›
    have ho2 := ((ho2.ext hb3).ext hb4).mono hb01.size
    have ho3 : Own w4 w2.heap.size _ (offs F) := ho3.ext hb4
    have ho4 := ho4.mono hb3.size
    obtain ⟨A2, c2, e2⟩ := ho2.form
    subst e2
    obtain ⟨A3, c3, e3⟩ := ho3.form
    subst e3
    obtain ⟨A4, c4, e4⟩ := ho4.form
    subst e4
    have hc2 : c2 ≤ 9223372036854775807 := by obtain ⟨_, _, e, _, h, _⟩ := ho2.ints; simp only [Value.slice.injEq] at e; obtain ⟨-, -, rfl⟩ := e; unfold maxLen at h; omega
    have hlc := HS.out.b
    have HFT := hid HS.out.ht
    have HFF := hid HS.out.hf
    have HLE := hid HS.out.l
    generalize hI : offs T = idx at *
    generalize hJ : offs F = src at *
    go_wp2
    go_loopw [11] (fun i wr => ∃ (k : Nat) (ys : List Int), k ≤ idx.length ∧ i = .int .i64 ((idx.length : Int) - 1 - k) ∧ Hid (ys.length = mem.length) ∧ Hid (ys = stepK mem idx src (dnL idx.length) k) ∧ Own wr w.heap.size (.slice A2 mem.length c2) ys ∧ Own wr w2.heap.size (.slice A3 src.length c3) src ∧ Own wr w2.heap.size (.slice A4 idx.length c4) idx ∧ Below w.heap.size w wr) (fun i _ => (intOf i + 1).toNat)
    case atStart => exact ⟨0, _, Nat.zero_le _, by go_num, hid rfl, hid rfl, ho2, ho3, ho4, hb04⟩
    case round =>
      obtain ⟨k, ys, hk, hi, hyl, hyt, hown, hr, hr4, hb⟩ := hrel
      by_cases hlt : k < idx.length
      · obtain ⟨j, hjk⟩ : ∃ j, j + k + 1 = idx.length := ⟨idx.length - 1 - k, by omega⟩
        rw [show ((idx.length : Int) - 1 - k) = (j : Int) by omega] at hi
        subst hi
        have hjl : j < idx.length := by omega
        have hks : j < src.length := by have := HLE.out; omega
        obtain ⟨a0, a1⟩ := HFT.out idx[j] (List.getElem_mem hjl)
        obtain ⟨b0, b1⟩ := HFF.out src[j] (List.getElem_mem hks)
        obtain ⟨a, ha⟩ : ∃ a : Nat, idx[j] = a := ⟨(idx[j]).toNat, by omega⟩
        obtain ⟨b, hbb⟩ : ∃ b : Nat, src[j] = b := ⟨(src[j]).toNat, by omega⟩
        have ham : a < mem.length := by omega
        have hbm : b < mem.length := by omega
        have hyl' := hyl.out
        have hay : a < ys.length := by omega
        have hby : b < ys.length := by omega
        clear hyl'
        obtain ⟨g, cap, eg, hg1, hg2⟩ := hown.row (by omega)
        simp only [Value.slice.injEq] at eg
        obtain ⟨rfl, -, rfl⟩ := eg
        obtain ⟨g3, cap3, eg3, hg31, hg32⟩ := hr.row (by omega)
        simp only [Value.slice.injEq] at eg3
        obtain ⟨rfl, -, rfl⟩ := eg3
        obtain ⟨g4, cap4, eg4, hg41, hg42⟩ := hr4.row (by omega)
        simp only [Value.slice.injEq] at eg4
        obtain ⟨rfl, -, rfl⟩ := eg4
        have hgs := (hsg g rfl).2
        have hxt := hr4.cell j hjl
        rw [ha] at hxt
        have hxf := hr.cell j hks
        rw [hbb] at hxf
        have hya := hown.cell a hay
        have hyb := hown.cell b hby
        have hfz := hown.free a
        have HO := hid (hown.put a ys[b])
        have HR := hid (hr.far (p := ⟨g, a, none⟩) hgs (.int .i64 ys[b]))
        have HR4 := hid (hr4.far (p := ⟨g, a, none⟩) hgs (.int .i64 ys[b]))
        have HB := hid (hb.setCell (p := ⟨g, a, none⟩) hg1 (.int .i64 ys[b]))
        have HL1 := hid (show (ys.set a ys[b]).length = mem.length by rw [List.length_set]; exact hyl.out)
        have HT := hid (show ys.set a ys[b] = stepK mem idx src (dnL idx.length) (k + 1) by rw [stepK_dn mem idx src idx.length k j hlt hjk hjl hks, ← hyt.out]; simp [stepS, ha, hbb, hby])
        clear hown hr hr4 hb a0 a1 b0 b1 ha hbb hyt
        go_wp2
        go_still_tail 13, (by kernel_rfl)
        all_goals (go_wp2; go_roundw)
        all_goals first
          | (case rel => exact ⟨k + 1, _, by omega, by go_num, HL1, HT, HO.out.drew, HR.out.drew, HR4.out.drew, HB.out.drew⟩)
          | (case measure => simp [intOf] <;> omega)
      · rw [show ((idx.length : Int) - 1 - k) = -1 by omega] at hi
        subst hi
        have HE := hid (show ys = stepK mem idx src (dnL idx.length) idx.length by rw [hyt.out, show k = idx.length by omega])
        go_wp2
        go_ret2
        exact ⟨_, by rfl, by rw [HQ.out, ← HE.out]; exact hown, hb⟩

end Go.Proofs.Ytmglcapjccbknaa
