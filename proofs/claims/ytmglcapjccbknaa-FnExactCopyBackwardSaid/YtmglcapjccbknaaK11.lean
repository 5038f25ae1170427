/- Contracts: CopyForward, both. No conditions. -/
import Derived.Test.YtmglcapjccbknaaK10
import Derived.Outline
import Derived.Deep.RegionHeld3
namespace Go.Proofs.Ytmglcapjccbknaa
open Go.RowKit

theorem upL_get (n k : Nat) (h : k < n) : (upL n)[k]'(by rw [upL_length]; exact h) = (k : Int) := by simp [upL]
theorem stepK_up (mem to fr : List Int) (n k : Nat) (h : k < n) (h1 : k < to.length) (h2 : k < fr.length) : stepK mem to fr (upL n) (k + 1) = stepS (stepK mem to fr (upL n) k) to[k] fr[k] := by
  rw [stepK_snoc mem to fr (upL n) k (by rw [upL_length]; exact h), upL_get n k h]
  simp [h1, h2]
def fwdL (mem : List Int) (T F : VL) : List Int := if okCopy mem T F then stepK mem (offs T) (offs F) (upL (offs T).length) (offs T).length else []
theorem fwdL_len (mem : List Int) (T F : VL) : (fwdL mem T F).length ≤ 60 := by
  unfold fwdL
  split
  · rename_i h
    rw [stepK_length]; exact (isMemL_and (holdL_and (okCopy_and h).1).1).1
  · simp
theorem scount_eq (v : Value) (xs : List Int) (n : Nat) (w : World) (h : Ints w v xs) (hn : prodW xs = n) :
    Calls Try.prog 65 #[v] w fun e w' => e = .returned (.int .i64 n) ∧ w = w' := by
  have := count_any v xs w h
  rwa [hn] at this
/-- What a copy that is allowed knows. -/
structure CopyFacts (mem : List Int) (T F : VL) : Prop where
  t : isShapeL T.shape = true ∧ T.shape.length = T.strides.length
  f : isShapeL F.shape = true ∧ F.shape.length = F.strides.length
  n : prodW T.shape = ((offs T).length : Nat)
  l : (offs F).length = (offs T).length
  b : (offs T).length ≤ 1000
  ht : ∀ x ∈ offs T, 0 ≤ x ∧ x < mem.length
  hf : ∀ x ∈ offs F, 0 ≤ x ∧ x < mem.length
  m : mem.length ≤ 60
theorem copyFacts {mem : List Int} {T F : VL} (h : okCopy mem T F = true) : CopyFacts mem T F := by
  obtain ⟨h1, h2, h3, h4⟩ := okCopy_and h
  have a1 := holdL_and h1
  have a2 := holdL_and h2
  have t := isViewL_and a1.2.1
  have f := isViewL_and a2.2.1
  have p := shape_prod t.1
  refine ⟨⟨t.1, t.2.1⟩, ⟨f.1, f.2.1⟩, ?_, ?_, ?_, fitsL_all a1.2.2, fitsL_all a2.2.2, (isMemL_and a1.1).1⟩
  · simp [offs]; omega
  · simp [offs, h3]
  · simp [offs]; omega
theorem upL_in {mem : List Int} {T F : VL} (h : CopyFacts mem T F) {x : Int} (hx : x ∈ upL (offs T).length) : 0 ≤ x ∧ x < (offs T).length ∧ x < (offs F).length := by
  simp only [upL, List.mem_map, List.mem_range] at hx
  obtain ⟨k, hk, rfl⟩ := hx
  have := h.l
  omega

set_option maxRecDepth 100000 in
set_option maxHeartbeats 1600000 in
theorem sCopyForward_any (m v f : Value) (mem : List Int) (T F : VL) (w : World) (hm : Ints w m mem) (hv : ViewV w v T) (hf : ViewV w f F) :
    Calls Try.prog 35 #[m, v, f] w (RetOwnB w (fwdL mem T F) (okCopy mem T F)) := by
  have hv0 := hv
  have hf0 := hf
  obtain ⟨sv, tv, rfl, hsv, htv⟩ := hv
  obtain ⟨sf, tf, rfl, hsf, htf⟩ := hf
  have hA := (Blk.new w 28 #[.int .i64 T.base, sv, tv]).alloc (.cells #[.int .i64 F.base, sf, tf] 28)
  have hR := Blk.new (w.alloc (.cells #[.int .i64 T.base, sv, tv] 28)) 28 #[.int .i64 F.base, sf, tf]
  have hW : Below w.heap.size w ((w.alloc (.cells #[.int .i64 T.base, sv, tv] 28)).alloc (.cells #[.int .i64 F.base, sf, tf] 28)) := ((Below.refl _ _).alloc (Nat.le_refl _) _).alloc (by simp) _
  simp only [World.size_alloc] at hR
  cases c : okCopy mem T F
  · have HQ := hid (show fwdL mem T F = [] by simp [fwdL, c])
    go_enter Try.func35, Try.ntmps35
    go_wp2_with fail
    generalize (w.alloc (.cells #[.int .i64 T.base, sv, tv] 28)).alloc (.cells #[.int .i64 F.base, sf, tf] 28) = W1 at *
    refine (pair_any _ _ _ mem T F _ (hm.ext hW) (hv0.ext hW) (hf0.ext hW)).mono ?_; rintro e w1 ⟨rfl, hb1⟩
    have hb01 := bstep hW hb1 hW.size
    go_wp2
    go_ret2
    exact ⟨_, by rfl, by rw [HQ.out]; exact Own.nil _ _, hb01⟩
  · have HQ := hid (show fwdL mem T F = stepK mem (offs T) (offs F) (upL (offs T).length) (upL (offs T).length).length by simp [fwdL, c, upL_length])
    have HS := hid (copyFacts c)
    go_enter Try.func35, Try.ntmps35
    go_wp2_with fail
    generalize (w.alloc (.cells #[.int .i64 T.base, sv, tv] 28)).alloc (.cells #[.int .i64 F.base, sf, tf] 28) = W1 at *
    refine (pair_any _ _ _ mem T F _ (hm.ext hW) (hv0.ext hW) (hf0.ext hW)).mono ?_; rintro e w1 ⟨rfl, hb1⟩
    have hb01 := bstep hW hb1 hW.size
    have hA1 := hA.ext hb1 hA.lt
    have hR1 := hR.ext hb1 hR.lt
    obtain ⟨⟨q0, q1, q2⟩, -⟩ := id hA1.all3
    obtain ⟨⟨r0, r1, r2⟩, -⟩ := id hR1.all3
    have hD := hb01.drew
    have hDz : w.heap.size ≤ w1.drew.heap.size := hb01.size
    have t1 : True := trivial
    have hup := hid (fun x (hx : x ∈ upL (offs T).length) => upL_in HS.out hx)
    go_wp2_with fail
    go_region_held3 (fun w' => w'.cell? ⟨w.heap.size, 0, none⟩ = some (.int .i64 T.base) ∧ w'.cell? ⟨w.heap.size, 1, none⟩ = some sv ∧ w'.cell? ⟨w.heap.size, 2, none⟩ = some tv ∧ w'.cell? ⟨w.heap.size + 1, 0, none⟩ = some (.int .i64 F.base) ∧ w'.cell? ⟨w.heap.size + 1, 1, none⟩ = some sf ∧ w'.cell? ⟨w.heap.size + 1, 2, none⟩ = some tf)
      (first | go_keep | exact hK1 | exact hK2 | exact hK3 | exact hK4 | exact hK5)
      (first
        | (go_at_call 62; have _t := t1; refine (offsets_any _ T _ (hv0.ext hD) HS.out.t.1 HS.out.t.2).mono ?_; rintro e w2 ⟨u, rfl, ho1, hb2⟩; clear t1; have hA2 := (Blk.ext hA1 (below_drew w1) hA1.lt).ext hb2 hA1.lt; have hR2 := (Blk.ext hR1 (below_drew w1) hR1.lt).ext hb2 hR1.lt; have hK1 := six_cells hA2 hR2; have hb02 := bstep hD hb2 hDz)
        | (go_at_call 62; refine (offsets_any _ F _ (hf0.ext hb02) HS.out.f.1 HS.out.f.2).mono ?_; rintro e w3 ⟨u3, rfl, ho3, hb3⟩; have hA3 := hA2.ext hb3 hA2.lt; have hR3 := hR2.ext hb3 hR2.lt; have hK2 := six_cells hA3 hR3; have hb03 := bstep hb02 hb3 hb02.size)
        | (go_at_call 65; refine (scount_eq _ T.shape (offs T).length _ (hsv.ext hb03) HS.out.n).mono ?_; rintro e w3' ⟨rfl, rfl⟩)
        | (go_at_call 73; refine (upTo_any (offs T).length _ (Nat.le_trans HS.out.b (by decide))).mono ?_; rintro e w4 ⟨u4, rfl, ho4, hb4⟩; have hA4 := hA3.ext hb4 hA3.lt; have hR4 := hR3.ext hb4 hR3.lt; have hK3 := six_cells hA4 hR4; have hb04 := bstep hb03 hb4 hb03.size)
        | (go_at_call 72; refine (stepped_any _ _ _ _ mem (offs T) (offs F) (upL (offs T).length) _ (hm.ext hb04) (Own.ints ((ho1.ext hb3).ext hb4)) (Own.ints (ho3.ext hb4)) (Own.ints ho4) HS.out.m HS.out.ht HS.out.hf hup.out).mono ?_; rintro e w6 ⟨r, rfl, ho, hb6⟩; have hA6 := hA4.ext hb6 hA4.lt; have hR6 := hR4.ext hb6 hR4.lt; have hK5 := six_cells hA6 hR6))
    go_wp2
    go_ret2
    exact ⟨_, by rfl, by rw [HQ.out]; exact Own.mono ho hb04.size, bstep hb04 hb6 hb04.size⟩

set_option maxRecDepth 100000 in
set_option maxHeartbeats 1600000 in
theorem CopyForward_any (m v f : Value) (mem : List Int) (T F : VL) (w : World) (hm : Ints w m mem) (hv : ViewV w v T) (hf : ViewV w f F) :
    Calls Try.prog 36 #[m, v, f] w (RetOwnB w (fwdL mem T F) (okCopy mem T F)) := by
  have hv0 := hv
  have hf0 := hf
  obtain ⟨sv, tv, rfl, hsv, htv⟩ := hv
  obtain ⟨sf, tf, rfl, hsf, htf⟩ := hf
  have hA := (Blk.new w 28 #[.int .i64 T.base, sv, tv]).alloc (.cells #[.int .i64 F.base, sf, tf] 28)
  have hR := Blk.new (w.alloc (.cells #[.int .i64 T.base, sv, tv] 28)) 28 #[.int .i64 F.base, sf, tf]
  have hW : Below w.heap.size w ((w.alloc (.cells #[.int .i64 T.base, sv, tv] 28)).alloc (.cells #[.int .i64 F.base, sf, tf] 28)) := ((Below.refl _ _).alloc (Nat.le_refl _) _).alloc (by simp) _
  simp only [World.size_alloc] at hR
  cases c : okCopy mem T F
  · have HQ := hid (show fwdL mem T F = [] by simp [fwdL, c])
    go_enter Try.func36, Try.ntmps36
    go_wp2_with fail
    generalize (w.alloc (.cells #[.int .i64 T.base, sv, tv] 28)).alloc (.cells #[.int .i64 F.base, sf, tf] 28) = W1 at *
    refine (canCopy_any _ _ _ mem T F _ (hm.ext hW) (hv0.ext hW) (hf0.ext hW)).mono ?_; rintro e w1 ⟨rfl, hb1⟩
    have hb01 := bstep hW hb1 hW.size
    go_wp2
    go_ret2
    exact ⟨_, by rfl, by rw [HQ.out]; exact Own.nil _ _, hb01⟩
  · have HQ := hid (show fwdL mem T F = stepK mem (offs T) (offs F) (upL (offs T).length) (offs T).length by simp [fwdL, c])
    have HS := hid (copyFacts c)
    have hml := HS.out.m
    have hm0 := hm
    obtain ⟨A, cc, em⟩ := hm0.form
    subst em
    go_enter Try.func36, Try.ntmps36
    go_wp2_with fail
    generalize (w.alloc (.cells #[.int .i64 T.base, sv, tv] 28)).alloc (.cells #[.int .i64 F.base, sf, tf] 28) = W1 at *
    refine (canCopy_any _ _ _ mem T F _ (hm.ext hW) (hv0.ext hW) (hf0.ext hW)).mono ?_; rintro e w1 ⟨rfl, hb1⟩
    have hb01 := bstep hW hb1 hW.size
    have hA1 := hA.ext hb1 hA.lt
    have hR1 := hR.ext hb1 hR.lt
    have hx := (hm.ext hb01).ext (below_alloc w1 (.cells #[] 3))
    have ho := Own.empty w1 (B := w1.heap.size) rfl (Nat.le_refl _)
    have hz : ([] : List Int).length + mem.length ≤ 1000000000000 := by simp; omega
    go_wp2_with (at_builtin; refine appI _ rfl _ _ rfl w1.heap.size _ [] rfl ho _ _ _ mem rfl hx hz (by simp) ?_)
    intro v' w2 ho2' hg hat
    have hb2 : Below w1.heap.size w1 w2 := (below_alloc w1 _).trans (ho.under hg (by simp))
    have ho2 : Own w2 w1.heap.size v' mem := by simpa using ho2'
    clear hx ho hat hg ho2'
    have hb02 := bstep hb01 hb2 hb01.size
    have hA2 := hA1.ext hb2 hA1.lt
    have hR2 := hR1.ext hb2 hR1.lt
    obtain ⟨⟨r0, r1, r2⟩, -⟩ := id hR2.all3
    go_wp2_with fail
    refine (offsetsOf_any _ F _ (hf0.ext hb02) HS.out.f.1 HS.out.f.2).mono ?_; rintro e w3 ⟨r3, rfl, ho3, hb3⟩
    clear r0 r1 r2
    have hb03 := bstep hb02 hb3 hb02.size
    have hA3 := hA2.ext hb3 hA2.lt
    obtain ⟨⟨q0, q1, q2⟩, -⟩ := id hA3.all3
    go_wp2_with fail
    refine (offsetsOf_any _ T _ (hv0.ext hb03) HS.out.t.1 HS.out.t.2).mono ?_; rintro e w4 ⟨r4, rfl, ho4, hb4⟩
    clear q0 q1 q2
    have hb04 := bstep hb03 hb4 hb03.size
    have hsg := Own.seg ‹Own w2 w1.heap.size v' mem›
    have ho2 := ((ho2.ext hb3).ext hb4).mono hb01.size
    have ho3 := ho3.ext hb4
    have ho4 := ho4.mono hb3.size
    obtain ⟨A2, c2, e2⟩ := ho2.form
    subst e2
    obtain ⟨A3, c3, e3⟩ := ho3.form
    subst e3
    obtain ⟨A4, c4, e4⟩ := ho4.form
    subst e4
    have hc2 : c2 ≤ 9223372036854775807 := by obtain ⟨_, _, e, _, h, _⟩ := ho2.ints; simp only [Value.slice.injEq] at e; obtain ⟨-, -, rfl⟩ := e; unfold maxLen at h; omega
    have hlc := HS.out.b
    have HFT := hid HS.out.ht
    have HFF := hid HS.out.hf
    have HLE := hid HS.out.l
    generalize hI : offs T = idx at *
    generalize hJ : offs F = src at *
    go_wp2
    go_loopw [25] (fun i wr => ∃ (k : Nat) (ys : List Int), k ≤ idx.length ∧ i = .int .i64 k ∧ Hid (ys.length = mem.length) ∧ Hid (ys = stepK mem idx src (upL idx.length) k) ∧ Own wr w.heap.size (.slice A2 mem.length c2) ys ∧ Own wr w2.heap.size (.slice A3 src.length c3) src ∧ Own wr w2.heap.size (.slice A4 idx.length c4) idx ∧ Below w.heap.size w wr) (fun i _ => idx.length - (intOf i).toNat)
    case atStart => exact ⟨0, _, Nat.zero_le _, rfl, hid rfl, hid rfl, ho2, ho3, ho4, hb04⟩
    case round =>
      obtain ⟨k, ys, hk, rfl, hyl, hyt, hown, hr, hr4, hb⟩ := hrel
      by_cases hlt : k < idx.length
      · have hks : k < src.length := by have := HLE.out; omega
        obtain ⟨a0, a1⟩ := HFT.out idx[k] (List.getElem_mem hlt)
        obtain ⟨b0, b1⟩ := HFF.out src[k] (List.getElem_mem hks)
        obtain ⟨a, ha⟩ : ∃ a : Nat, idx[k] = a := ⟨(idx[k]).toNat, by omega⟩
        obtain ⟨b, hbb⟩ : ∃ b : Nat, src[k] = b := ⟨(src[k]).toNat, by omega⟩
        have ham : a < mem.length := by omega
        have hbm : b < mem.length := by omega
        have hyl' := hyl.out
        have hay : a < ys.length := by omega
        have hby : b < ys.length := by omega
        clear hyl'
        obtain ⟨g, cap, eg, hg1, hg2⟩ := hown.row (by omega)
        simp only [Value.slice.injEq] at eg
        obtain ⟨rfl, -, rfl⟩ := eg
        obtain ⟨g3, cap3, eg3, hg31, hg32⟩ := hr.row (by omega)
        simp only [Value.slice.injEq] at eg3
        obtain ⟨rfl, -, rfl⟩ := eg3
        obtain ⟨g4, cap4, eg4, hg41, hg42⟩ := hr4.row (by omega)
        simp only [Value.slice.injEq] at eg4
        obtain ⟨rfl, -, rfl⟩ := eg4
        have hgs := (hsg g rfl).2
        have hxt := hr4.cell k hlt
        rw [ha] at hxt
        have hxf := hr.cell k hks
        rw [hbb] at hxf
        have hya := hown.cell a hay
        have hyb := hown.cell b hby
        have hfz := hown.free a
        have HO := hid (hown.put a ys[b])
        have HR := hid (hr.far (p := ⟨g, a, none⟩) hgs (.int .i64 ys[b]))
        have HR4 := hid (hr4.far (p := ⟨g, a, none⟩) hgs (.int .i64 ys[b]))
        have HB := hid (hb.setCell (p := ⟨g, a, none⟩) hg1 (.int .i64 ys[b]))
        have HL1 := hid (show (ys.set a ys[b]).length = mem.length by rw [List.length_set]; exact hyl.out)
        have HT := hid (show ys.set a ys[b] = stepK mem idx src (upL idx.length) (k + 1) by rw [stepK_up mem idx src idx.length k hlt hlt hks, ← hyt.out]; simp [stepS, ha, hbb, hby])
        clear hown hr hr4 hb a0 a1 b0 b1 ha hbb hyt
        go_wp2
        go_roundw
        case rel => exact ⟨k + 1, _, by omega, by go_num, HL1, HT, HO.out, HR.out, HR4.out, HB.out⟩
        case measure => simp [intOf]; omega
      · have HE := hid (show ys = stepK mem idx src (upL idx.length) idx.length by rw [hyt.out, show k = idx.length by omega])
        go_wp2
        go_ret2
        exact ⟨_, by rfl, by rw [HQ.out, ← HE.out]; exact hown, hb⟩

end Go.Proofs.Ytmglcapjccbknaa
