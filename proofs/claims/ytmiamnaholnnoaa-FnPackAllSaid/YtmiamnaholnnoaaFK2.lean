/- Contract: a drawn format with items. No conditions. -/
import Derived.Test.YtmiamnaholnnoaaFK1
namespace Go.Proofs.Ytmiamnaholnnoaa
open Go.RowKit

/-- What stands while items are drawn: the reader, the result's box, the format's box and its sizes; blocks from B on are the rows'. -/
def FS (N g t B : Nat) (sv : Value) (F : FL) (w wr : World) (q : Nat) : Prop :=
  (w.heap.size < g ∧ g < t ∧ t < B) ∧ Rd N wr g q ∧ Blk wr w.heap.size 25 #[.slice none 0 0, .bool false, .bool false] ∧ Blk wr t 25 #[sv, .bool F.big, .bool F.aligned] ∧
  IntsN g wr sv F.sizes ∧ (∀ k, sv.ownBlock = some k → w.heap.size < k ∧ k < B) ∧ Below w.heap.size w wr ∧ B ≤ wr.heap.size
section
variable {N g t B q p : Nat} {sv : Value} {F : FL} {w wr wy : World}
theorem FS.nx (h : FS N g t B sv F w wr q) (hb : Below wr.heap.size wr wy) : FS N g t B sv F w wy q := by
  obtain ⟨h0, h1, h2, h3, h4, h5, h6, h7⟩ := h
  exact ⟨h0, h1.nx hb, h2.nx hb, h3.nx hb, h4.nx hb, h5, h6.nx hb h6.size, Nat.le_trans h7 hb.size⟩
theorem FS.ate (h : FS N g t B sv F w wr q) (hR : Rd N wy g p) (hG : wr.grownBy wy (some g)) : FS N g t B sv F w wy p := by
  obtain ⟨h0, h1, h2, h3, h4, h5, h6, h7⟩ := h
  exact ⟨h0, hR, h2.grown hG (by omega), h3.grown hG (by omega), h4.grown hG, h5, h6.trans (Own.below hG h6.size (fun k e => by injection e with e; omega)), Nat.le_trans h7 hG.size⟩
theorem FS.row (h : FS N g t B sv F w wr q) {row : Option Nat} (hG : wr.grownBy wy row) (hr : ∀ k, row = some k → B ≤ k) : FS N g t B sv F w wy q := by
  obtain ⟨h0, h1, h2, h3, h4, h5, h6, h7⟩ := h
  have hN := h1.lt
  refine ⟨h0, h1.grown hG (fun k e => by have := hr k e; omega), (hG.block _ h2.lt (fun e => by have := hr _ e.symm; omega)).trans h2, (hG.block _ h3.lt (fun e => by have := hr _ e.symm; omega)).trans h3, ⟨h4.1.away hG (fun k e e2 => by have := hr k e2; have := h5 k e; omega), h4.2⟩, h5, ?_, Nat.le_trans h7 hG.size⟩
  exact h6.trans (Own.below hG h6.size (fun k e => by have := hr k e; omega))
theorem FS.rd (h : FS N g t B sv F w wr q) : Rd N wr g q := h.2.1
theorem FS.box (h : FS N g t B sv F w wr q) : Blk wr t 25 #[sv, .bool F.big, .bool F.aligned] := h.2.2.2.1
theorem FS.res (h : FS N g t B sv F w wr q) : Blk wr w.heap.size 25 #[.slice none 0 0, .bool false, .bool false] := h.2.2.1
theorem FS.sizes (h : FS N g t B sv F w wr q) : IntsN g wr sv F.sizes := h.2.2.2.2.1
theorem FS.sz (h : FS N g t B sv F w wr q) : B ≤ wr.heap.size := h.2.2.2.2.2.2.2
theorem FS.below (h : FS N g t B sv F w wr q) : Below w.heap.size w wr := h.2.2.2.2.2.2.1
end
theorem intsS3 {w : World} {v : Value} {B m : Nat} {us : List Value} {xss : List (List Int)} (h : LN w B v us xss) (hm : m < B) (a b c : Value) : IntsS (((w.setCell ⟨m, 0, none⟩ a).setCell ⟨m, 1, none⟩ b).setCell ⟨m, 2, none⟩ c) v xss :=
  (((h.grown (grown_set w ⟨m, 0, none⟩ a) hm).grown (grown_set _ ⟨m, 1, none⟩ b) hm).grown (grown_set _ ⟨m, 2, none⟩ c) hm).ints
/-- What a draw of a format and of items leaves. -/
def RetDrawFL (w : World) (e : Ending) (w' : World) : Prop := ∃ (F : FL) (sv vv : Value) (xss : List (List Int)), e = .returned (.tuple #[.agg #[sv, .bool F.big, .bool F.aligned], vv]) ∧ F.sizes.length ≤ 5 ∧
  Ints w' sv F.sizes ∧ IntsS w' vv xss ∧ xss.length ≤ 8 ∧ Below w.heap.size w w'
theorem five5 (r : Nat) (hr : r < [(2 : Int), 3, 1, 0, 8].length) : ∃ y : Nat, [(2 : Int), 3, 1, 0, 8][r] = (y : Int) ∧ y ≤ 8 := by
  match r, hr with
  | 0, _ => exact ⟨2, rfl, by omega⟩
  | 1, _ => exact ⟨3, rfl, by omega⟩
  | 2, _ => exact ⟨1, rfl, by omega⟩
  | 3, _ => exact ⟨0, rfl, by omega⟩
  | 4, _ => exact ⟨8, rfl, by omega⟩

set_option maxRecDepth 100000 in
set_option maxHeartbeats 6400000 in
theorem DrawPackAll_any (v : Value) (n : Nat) (w : World) (h : BytesV w v n) :
    Calls Try.prog 25 #[v] w (RetDrawFL w) := by
  have hb0 := below_alloc w (.cells #[.slice none 0 0, .bool false, .bool false] 25)
  have hZ := Blk.new w 25 #[.slice none 0 0, .bool false, .bool false]
  have h1 := h.ext hb0
  have hz0 : w.heap.size + 1 ≤ (w.alloc (.cells #[.slice none 0 0, .bool false, .bool false] 25)).heap.size := by simp
  go_enter Try.func25, Try.ntmps25
  go_wp2_with fail
  generalize (w.alloc (.cells #[.slice none 0 0, .bool false, .bool false] 25)) = w0 at *
  refine (newReader_any _ n _ h1).mono ?_; rintro e w1 ⟨rfl, hR, hb1, hlt⟩
  go_wp2_with fail
  refine (someFormat_any _ _ _ _ hR (by omega)).mono ?_; rintro e w2 ⟨F, sv, q, rfl, hl, hx, hO, hq, hR2, hG2⟩
  have hz1 := hb1.size
  have hz2 := hG2.size
  have hZ2 := (hZ.nx hb1).grown hG2 (by omega)
  have hB2 : Below w.heap.size w w2 := (hb0.nx hb1 hb0.size).trans (Own.below hG2 (by omega) (fun k e => by injection e with e; omega))
  obtain ⟨A, c, rfl⟩ := hO.form
  have hS2 : IntsN w0.heap.size w2 (.slice A F.sizes.length c) F.sizes := IntsN.of_own hO (by omega)
  have hb3 := below_alloc w2 (.cells #[.slice A F.sizes.length c, .bool F.big, .bool F.aligned] 25)
  have hX := Blk.new w2 25 #[.slice A F.sizes.length c, .bool F.big, .bool F.aligned]
  have hF : FS w0.heap.size w0.heap.size w2.heap.size (w2.heap.size + 1) (.slice A F.sizes.length c) F w (w2.alloc (.cells #[.slice A F.sizes.length c, .bool F.big, .bool F.aligned] 25)) q :=
    ⟨⟨by omega, by omega, by omega⟩, hR2.nx hb3, hZ2.nx hb3, hX, hS2.nx hb3, fun k e => by have := hO.lt k e; omega, hB2.nx hb3 hB2.size, by simp⟩
  have HL := hid hl
  clear hZ hZ2 hb0 hb1 hG2 hR2 hB2 hO hx hS2 hb3 hR h1 hX hl
  go_upto_region 3 with fail
  obtain ⟨w3, hw3⟩ : ∃ w3, w3 = w2.alloc (.cells #[.slice A F.sizes.length c, .bool F.big, .bool F.aligned] 25) := ⟨_, rfl⟩
  have hz3 : w3.heap.size = w2.heap.size + 1 := by rw [hw3]; simp
  rw [← hw3] at hF ⊢
  clear hw3
  obtain ⟨t, ht⟩ : ∃ t, t = w2.heap.size := ⟨_, rfl⟩
  obtain ⟨g, hg⟩ : ∃ g, g = w0.heap.size := ⟨_, rfl⟩
  rw [← ht] at hF hz3 ⊢
  rw [← hg] at hF ⊢
  have hN : LN (w3.alloc (.cells #[] 23)) (t + 1) (.slice (some ⟨w3.heap.size, 0, none⟩) 0 0) [] [] := LN.empty w3 rfl (by omega)
  have hF4 := hF.nx (below_alloc w3 (.cells #[] 23))
  have hz4 : (w3.alloc (.cells #[] 23)).heap.size = t + 2 := by simp [hz3]
  obtain ⟨b3, hb3⟩ : ∃ b, b = w3.heap.size := ⟨_, rfl⟩
  have HZ3 := hid hz3
  clear ht hg hlt hz0 hz1 hz2 hz3 hF
  go_upto_region 4 with fail
  rw [← hb3] at hN ⊢
  clear hb3
  generalize w3.alloc (.cells #[] 23) = w4 at *
  have hL : Own (w4.alloc (.cells #[.int .i64 2, .int .i64 3, .int .i64 1, .int .i64 0, .int .i64 8] 3)) w4.heap.size (.slice (some ⟨w4.heap.size, 0, none⟩) 5 5) [2, 3, 1, 0, 8] := own_lit w4 [2, 3, 1, 0, 8] (by simp)
  have hF5 := hF4.nx (below_alloc w4 (.cells #[.int .i64 2, .int .i64 3, .int .i64 1, .int .i64 0, .int .i64 8] 3))
  have hN5 := hN.nx (below_alloc w4 (.cells #[.int .i64 2, .int .i64 3, .int .i64 1, .int .i64 0, .int .i64 8] 3))
  have HNE := hid (show ∀ i, (Value.slice (some ⟨w4.heap.size, 0, none⟩) 5 5).ownBlock = some i → i ≠ g from fun i e => by simp [Value.ownBlock] at e; have := hF4.1; omega)
  have hgg := hF4.1
  have HL5 := hid hL
  have HF5 := hid hF5
  have HN5 := hid hN5
  clear hL hF5 hN5 hF4 hN hz4
  go_wp2_with fail
  refine (one_any _ _ q _ _ _ _ HF5.out.rd (by omega) HL5.out (by simp) HNE.out).mono ?_; rintro e w5 ⟨r, hr, rfl, hR, hG⟩
  obtain ⟨many, hm, hm8⟩ := five5 r hr
  rw [hm]
  have HF6 := hid (HF5.out.ate hR hG)
  have HN6 := hid (HN5.out.grown hG (by omega))
  clear hR hG hm HL5 HF5 HN5 HNE
  go_wp2_with fail
  go_loopg [6, 7] many (fun m' out z wr => ∃ (i q1 : Nat) (us : List Value) (xss : List (List Int)), m' = i ∧ z = .int .i64 i ∧ i ≤ 8 ∧ xss.length + i ≤ 8 ∧ q1 + 30 * i ≤ 300 ∧ FS g g t (t + 1) (.slice A F.sizes.length c) F w wr q1 ∧ LN wr (t + 1) out us xss)
  case atStart => exact ⟨many, q + 1, [], [], rfl, rfl, hm8, by simp; omega, by omega, HF6.out, HN6.out⟩
  case round =>
    obtain ⟨i, q1, us, xss, hmm, rfl, hi8, hxl, hq1, hF, hN⟩ := hrel
    have HM := hid hmm
    have HF := hid hF
    have HN := hid hN
    have HXL := hid hxl
    obtain ⟨Ao, co, eo⟩ := hN.form
    subst eo
    clear hmm hF hN HF6 HN6 hxl
    obtain ⟨⟨q0, q1', q2⟩, -⟩ := id HF.out.box.all3
    by_cases hi : 0 < i
    · have hii : (0 : Int) < (i : Int) := by omega
      go_wp2_with fail
      refine (someItem_any _ _ q1 _ F _ HF.out.rd (by omega) HF.out.sizes HL.out).mono ?_; rintro e w6 ⟨u, ys, q5, rfl, hl5, hI5, hb5, hq5, hR5, hG5⟩
      obtain ⟨Au, cu, eu⟩ := hI5.1.form
      subst eu
      have HF7 := hid (HF.out.ate hR5 hG5)
      have HN7 := hid (HN.out.grown hG5 (by omega))
      have HV := hid (show 0 < ys.length → ∀ k, (Value.slice Au ys.length cu).ownBlock = some k → t + 1 ≤ k ∧ (Value.slice Ao xss.length co).ownBlock ≠ some k from fun _ k e => by
        have h1 := hb5 k e
        have h2 := HF.out.sz
        exact ⟨by omega, fun e2 => by have := (HN.out.lt k e2).2; omega⟩)
      have HI := hid (hI5.1.nx (below_alloc w6 (.cells #[.slice Au ys.length cu] 23)))
      have HFA := hid (HF7.out.nx (below_alloc w6 (.cells #[.slice Au ys.length cu] 23)))
      clear hR5 hG5 hI5 hb5 q0 q1' q2
      go_wp2_with (at_builtin; refine appN _ rfl _ _ rfl (t + 1) _ us xss rfl (HN7.out.nx (below_alloc w6 (.cells #[.slice Au ys.length cu] 23))) ⟨w6.heap.size, 0, none⟩ 1 Au ys.length cu ys rfl (cell_new1 _ _ _) HI.out HV.out (by have := HXL.out; omega) HFA.out.sz ?_)
      intro v1 w9 hn9 hg9 hat9
      have HN9 := hid hn9
      have HF9 := hid (HFA.out.row hg9 (fun k e => (HN7.out.lt k e).1))
      clear hg9 hat9 hn9
      go_wp2
      go_roundg (i - 1)
      case measure => have := HM.out; omega
      case rel => exact ⟨i - 1, q5, _, _, rfl, by congr 1; omega, by omega, by have := HXL.out; simp; omega, by omega, HF9.out, HN9.out⟩
    · have hii : ¬ (0 : Int) < (i : Int) := by omega
      have hr := HF.out.res
      obtain ⟨⟨s0, s1, s2⟩, sf0, sf1, sf2⟩ := id hr.all3
      obtain ⟨⟨t0, t1, t2⟩, -⟩ := (hr.store3 (.slice A F.sizes.length c) (.bool F.big) (.bool F.aligned)).all3
      have hxl8 := HXL.out
      have HX8 := hid (show xss.length ≤ 8 by omega)
      have hwt : w.heap.size < t := by have := HF.out.1; omega
      clear hr hxl8
      go_wp2
      refine bodyPost_ret (v := .tuple #[.agg #[.slice A F.sizes.length c, .bool F.big, .bool F.aligned], .slice Ao xss.length co]) (by simp [results, Try.results25, go_sem, t0, t1, t2]) rfl ?_
      exact ⟨F, _, _, xss, rfl, HL.out, ints3 HF.out.sizes.1 (fun k e => by have := (HF.out.2.2.2.2.2.1 k e).1; omega) _ _ _, intsS3 HN.out (by omega) _ _ _, HX8.out, below3 HF.out.below (Nat.le_refl _) _ _ _⟩

end Go.Proofs.Ytmiamnaholnnoaa
