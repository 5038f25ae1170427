/- Contract: withoutDim. No conditions. -/
import Derived.Test.YtbcmhjhiofpnlaaV2
import Derived.Test.YtbcmhjhiofpnlaaV5
import Derived.Test.YtbcmhjhiofpnlaaV7
import Derived.Deep.Cut
namespace Go.Proofs.Ytbcmhjhiofpnlaa
open Go.RowKit

set_option maxRecDepth 100000 in
set_option maxHeartbeats 6400000 in
theorem withoutDim_any (v : Value) (V : VL) (k : Nat) (w : World) (hv : ViewV w v V) (hk : k < V.shape.length) (hkt : k < V.strides.length) (hl1 : V.shape.length ≤ 1000000) (hl2 : V.strides.length ≤ 1000000) :
    Calls Try.prog 90 #[v, .int .i64 k] w (RetView w ⟨V.base, V.shape.eraseIdx k, V.strides.eraseIdx k⟩) := by
  have hv0 := hv
  obtain ⟨sv, tv, rfl, hsv, htv⟩ := hv
  have hA := (Blk.new w 28 #[.int .i64 V.base, sv, tv]).alloc (.cells #[.int .i64 0, .slice none 0 0, .slice none 0 0] 28)
  have hR := Blk.new (w.alloc (.cells #[.int .i64 V.base, sv, tv] 28)) 28 #[.int .i64 0, .slice none 0 0, .slice none 0 0]
  have hW : Below w.heap.size w ((w.alloc (.cells #[.int .i64 V.base, sv, tv] 28)).alloc (.cells #[.int .i64 0, .slice none 0 0, .slice none 0 0] 28)) := ((Below.refl _ _).alloc (Nat.le_refl _) _).alloc (by simp) _
  simp only [World.size_alloc] at hR
  have hn1 := hR.lt
  go_enter Try.func90, Try.ntmps90
  go_wp2_with fail
  generalize (w.alloc (.cells #[.int .i64 V.base, sv, tv] 28)).alloc (.cells #[.int .i64 0, .slice none 0 0, .slice none 0 0] 28) = W1 at *
  refine (icopyView_any _ V _ (hv0.ext hW) (by omega) (by omega)).mono ?_; rintro e w4 ⟨s4, t4, rfl, ho4, ho5, hsep4, hb4⟩
  have hz4 := hb4.size
  have hD4 := hW.nx hb4 hW.size
  have hR4 := hR.nx hb4
  obtain ⟨gs, caps, rfl, hgs1, hgs2⟩ := ho4.row (by omega)
  obtain ⟨gt, capt, rfl, hgt1, hgt2⟩ := ho5.row (by omega)
  have hcs : caps ≤ 9223372036854775807 := by obtain ⟨_, _, e, _, h, _⟩ := ho4.ints; simp only [Value.slice.injEq] at e; obtain ⟨-, -, rfl⟩ := e; unfold maxLen at h; omega
  have hct : capt ≤ 9223372036854775807 := by obtain ⟨_, _, e, _, h, _⟩ := ho5.ints; simp only [Value.slice.injEq] at e; obtain ⟨-, -, rfl⟩ := e; unfold maxLen at h; omega
  have hst : gs ≠ gt := fun e => hsep4 gs rfl (by rw [e]; rfl)
  have hB5 := Blk.new w4 28 #[.int .i64 V.base, .slice (some ⟨gs, 0, none⟩) V.shape.length caps, .slice (some ⟨gt, 0, none⟩) V.strides.length capt]
  have ho4 := ho4.alloc (.cells #[.int .i64 V.base, .slice (some ⟨gs, 0, none⟩) V.shape.length caps, .slice (some ⟨gt, 0, none⟩) V.strides.length capt] 28)
  have ho5 := ho5.alloc (.cells #[.int .i64 V.base, .slice (some ⟨gs, 0, none⟩) V.shape.length caps, .slice (some ⟨gt, 0, none⟩) V.strides.length capt] 28)
  have hb5 := below_alloc w4 (.cells #[.int .i64 V.base, .slice (some ⟨gs, 0, none⟩) V.shape.length caps, .slice (some ⟨gt, 0, none⟩) V.strides.length capt] 28)
  have hR5 := hR4.nx hb5
  have hD5 := hD4.nx hb5 hD4.size
  obtain ⟨⟨g0, g1, g2⟩, gf0, gf1, gf2⟩ := id hB5.all3
  have hz5 : w4.heap.size + 1 ≤ (w4.alloc (.cells #[.int .i64 V.base, .slice (some ⟨gs, 0, none⟩) V.shape.length caps, .slice (some ⟨gt, 0, none⟩) V.strides.length capt] 28)).heap.size := by simp
  have hw1 : IntKind.i64.wrap ((k : Int) + 1) = (k : Int) + 1 := IntWalk.i64_in _ (by omega)
  go_upto_region 2 with fail
  obtain ⟨g, hg⟩ : ∃ g, g = w4.heap.size := ⟨_, rfl⟩
  rw [← hg] at hB5 hz5
  rw [← hg]
  have hgs : g ≠ gs := by omega
  have hgt : g ≠ gt := by omega
  have hgW : W1.heap.size ≤ g := by omega
  clear hg
  generalize w4.alloc (.cells #[.int .i64 V.base, .slice (some ⟨gs, 0, none⟩) V.shape.length caps, .slice (some ⟨gt, 0, none⟩) V.strides.length capt] 28) = w5 at *
  clear g0 g1 g2 gf0 gf1 gf2
  obtain ⟨⟨g0, g1, g2⟩, gf0, gf1, gf2⟩ := id hB5.all3
  go_wp2_with fail
  refine (Delete_at gs caps k V.shape.length k (k + 1) V.shape W1.heap.size _ ho4 rfl rfl hk).mono ?_; rintro e w6 ⟨rfl, ho6, hg6⟩
  clear g0 g1 g2 gf0 gf1 gf2
  have hB6 := hB5.grown hg6 hgs
  have ho7 := ho5.grown hg6 (.inr fun e => hst (by injection e with e; exact e.symm))
  have hR6 := hR5.grown hg6 (by omega)
  have hz6 := hg6.size
  have hD6 := hD5.trans (Own.below hg6 (show w.heap.size ≤ w5.heap.size by omega) (by rintro q hq; cases hq; omega))
  obtain ⟨⟨g0, g1, g2⟩, gf0, gf1, gf2⟩ := id hB6.all3
  have hB7 : Blk (w6.setCell ⟨g, 1, none⟩ (.slice (some ⟨gs, 0, none⟩) (V.shape.length - 1) caps)) g 28 #[.int .i64 V.base, .slice (some ⟨gs, 0, none⟩) (V.shape.length - 1) caps, .slice (some ⟨gt, 0, none⟩) V.strides.length capt] := by
    have := hB6.set_ 1 (.slice (some ⟨gs, 0, none⟩) (V.shape.length - 1) caps)
    simpa using this
  have ho8 := ho6.off (p := ⟨g, 1, none⟩) (fun q hq e => by cases hq; exact hgs e.symm) (.slice (some ⟨gs, 0, none⟩) (V.shape.length - 1) caps)
  have ho9 := ho7.off (p := ⟨g, 1, none⟩) (fun q hq e => by cases hq; exact hgt e.symm) (.slice (some ⟨gs, 0, none⟩) (V.shape.length - 1) caps)
  have hR7 := hR6.far (p := ⟨g, 1, none⟩) (by simp; omega) (.slice (some ⟨gs, 0, none⟩) (V.shape.length - 1) caps)
  have hD7 := hD6.setCell (p := ⟨g, 1, none⟩) (by simp; omega) (.slice (some ⟨gs, 0, none⟩) (V.shape.length - 1) caps)
  have hz7 : (w6.setCell ⟨g, 1, none⟩ (.slice (some ⟨gs, 0, none⟩) (V.shape.length - 1) caps)).heap.size = w6.heap.size := by simp
  go_upto_region 3 with fail
  clear g0 g1 g2 gf0 gf1 gf2
  generalize w6.setCell ⟨g, 1, none⟩ (.slice (some ⟨gs, 0, none⟩) (V.shape.length - 1) caps) = w7 at *
  obtain ⟨⟨g0, g1, g2⟩, gf0, gf1, gf2⟩ := id hB7.all3
  have HN := hid hz7
  clear hz7
  go_wp2_with fail
  refine (Delete_at gt capt k V.strides.length k (k + 1) V.strides W1.heap.size _ ho9 rfl rfl hkt).mono ?_; rintro e w8 ⟨rfl, hp, hg8⟩
  have hz7 := HN.out
  have hz8 := hg8.size
  have hB8 := hB7.grown hg8 hgt
  have hq := ho8.grown hg8 (.inr fun e => hst (by injection e))
  have hR8 := hR7.grown hg8 (by omega)
  have hD8 := hD7.trans (Own.below hg8 (show w.heap.size ≤ w7.heap.size by omega) (by rintro q hq; cases hq; omega))
  clear g0 g1 g2 gf0 gf1 gf2
  obtain ⟨⟨g0, g1, g2⟩, gf0, gf1, gf2⟩ := id hB8.all3
  have hB9 : Blk (w8.setCell ⟨g, 2, none⟩ (.slice (some ⟨gt, 0, none⟩) (V.strides.length - 1) capt)) g 28 #[.int .i64 V.base, .slice (some ⟨gs, 0, none⟩) (V.shape.length - 1) caps, .slice (some ⟨gt, 0, none⟩) (V.strides.length - 1) capt] := by
    have := hB8.set_ 2 (.slice (some ⟨gt, 0, none⟩) (V.strides.length - 1) capt)
    simpa using this
  have hp9 := hp.off (p := ⟨g, 2, none⟩) (fun q hq e => by cases hq; exact hgt e.symm) (.slice (some ⟨gt, 0, none⟩) (V.strides.length - 1) capt)
  have hq9 := hq.off (p := ⟨g, 2, none⟩) (fun q hq e => by cases hq; exact hgs e.symm) (.slice (some ⟨gt, 0, none⟩) (V.strides.length - 1) capt)
  have hR9 := hR8.far (p := ⟨g, 2, none⟩) (by simp; omega) (.slice (some ⟨gt, 0, none⟩) (V.strides.length - 1) capt)
  have hD9 := hD8.setCell (p := ⟨g, 2, none⟩) (by simp; omega) (.slice (some ⟨gt, 0, none⟩) (V.strides.length - 1) capt)
  go_upto_region 4 with fail
  clear g0 g1 g2 gf0 gf1 gf2
  generalize w8.setCell ⟨g, 2, none⟩ (.slice (some ⟨gt, 0, none⟩) (V.strides.length - 1) capt) = w9 at *
  obtain ⟨⟨g0, g1, g2⟩, gf0, gf1, gf2⟩ := id hB9.all3
  obtain ⟨⟨r0, r1, r2⟩, rf0, rf1, rf2⟩ := id hR9.all3
  go_wp2
  refine bodyPost_ret (v := .agg #[.int .i64 V.base, .slice (some ⟨gs, 0, none⟩) (V.shape.length - 1) caps, .slice (some ⟨gt, 0, none⟩) (V.strides.length - 1) capt]) (by simp [results, Try.results90, go_sem, r0, r1, r2]) rfl ?_
  exact ⟨_, _, rfl, (own3b hq9 (by omega) _ _ _).mono (by omega), (own3b hp9 (by omega) _ _ _).mono (by omega), fun q h1 h2 => by cases h1; exact hst (by injection h2 with e; exact e.symm), below3 hD9 (by omega) _ _ _⟩

end Go.Proofs.Ytbcmhjhiofpnlaa
