/- Contracts: tensors of views. No conditions. -/
import Derived.Test.YtonlhphgoedcnaaT0
import Derived.Test.YtonlhphgoedcnaaKL
import Derived.Test.YtonlhphgoedcnaaD1
import Derived.Outline
import Derived.Deep.RegionHeld3
namespace Go.Proofs.Ytonlhphgoedcnaa
open Go.RowKit

def tensorL (mem : List Int) (V : VL) : TL := if holdL mem V then ⟨V.shape, takenL mem (offs V)⟩ else ⟨[], []⟩
theorem viewOk_lens {V : VL} (h : isViewL V = true) : V.shape.length ≤ 4 ∧ V.strides.length ≤ 4 := by
  have h1 := isViewL_and h
  have h2 := (shape_ext h1.1).1
  have h3 := h1.2.1
  omega

theorem tensorL_len (mem : List Int) (V : VL) : (tensorL mem V).shape.length ≤ 60 ∧ (tensorL mem V).values.length ≤ 60 := by
  unfold tensorL
  split
  · rename_i h
    have h2 := (holdL_and h).2.1
    have := (viewOk_lens h2).1
    have := (shape_prod (isViewL_and h2).1)
    simp [takenL, offs]; omega
  · simp

set_option maxRecDepth 100000 in
set_option maxHeartbeats 800000 in
theorem sTensorOf_any (m v : Value) (mem : List Int) (V : VL) (w : World) (hm : Ints w m mem) (hv : ViewV w v V) :
    Calls Try.prog 35 #[m, v] w (RetTensorB w (tensorL mem V) (holdL mem V)) := by
  have hv0 := hv
  obtain ⟨sv, tv, rfl, hsv, htv⟩ := hv
  have hA := (Blk.new w 27 #[.int .i64 V.base, sv, tv]).alloc (.cells #[.slice none 0 0, .slice none 0 0] 49)
  have hR := Blk.new (w.alloc (.cells #[.int .i64 V.base, sv, tv] 27)) 49 #[.slice none 0 0, .slice none 0 0]
  have hW : Below w.heap.size w ((w.alloc (.cells #[.int .i64 V.base, sv, tv] 27)).alloc (.cells #[.slice none 0 0, .slice none 0 0] 49)) := ((Below.refl _ _).alloc (Nat.le_refl _) _).alloc (by simp) _
  simp only [World.size_alloc] at hR
  cases c : holdL mem V
  · have HQ := hid (show tensorL mem V = ⟨[], []⟩ by simp [tensorL, c])
    go_enter Try.func35, Try.ntmps35
    go_wp2_with fail
    generalize (w.alloc (.cells #[.int .i64 V.base, sv, tv] 27)).alloc (.cells #[.slice none 0 0, .slice none 0 0] 49) = W1 at *
    refine (sees_any _ _ mem V _ (hm.ext hW) (hv0.ext hW)).mono ?_; rintro e w1 ⟨rfl, hb1⟩
    obtain ⟨⟨r0, r1⟩, rf0, rf1⟩ := (hR.ext hb1 hR.lt).all2
    have hD := bstep hW hb1 hW.size
    go_wp2
    refine bodyPost_ret (v := .tuple #[.agg #[.slice none 0 0, .slice none 0 0], .bool false]) (by simp [results, Try.results35, go_sem, r0, r1]) rfl ?_
    rw [HQ.out]
    exact ⟨_, _, rfl, Own.nil _ _, Own.nil _ _, Sep.none_left _, below2 hD (by omega) _ _⟩
  · have HQ := hid (show tensorL mem V = ⟨V.shape, takenL mem (offs V)⟩ by simp [tensorL, c])
    have HC := hid c
    have hl := (viewOk_lens (holdL_and c).2.1).1
    have hl1 : V.shape.length ≤ 100000000 := by omega
    go_enter Try.func35, Try.ntmps35
    go_wp2_with fail
    generalize (w.alloc (.cells #[.int .i64 V.base, sv, tv] 27)).alloc (.cells #[.slice none 0 0, .slice none 0 0] 49) = W1 at *
    refine (sees_any _ _ mem V _ (hm.ext hW) (hv0.ext hW)).mono ?_; rintro e w1 ⟨rfl, hb1⟩
    have hA1 := hA.ext hb1 hA.lt
    have hR1 := hR.ext hb1 hR.lt
    have hD0 := bstep hW hb1 hW.size
    have hz0 := hb1.size
    have hn := hA.lt
    have hn1 := hR.lt
    obtain ⟨⟨q0, q1, q2⟩, -⟩ := id hA1.all3
    have hD := hD0.drew
    go_wp2_with fail
    go_region_held3 (fun w' => w'.cell? ⟨w.heap.size, 0, none⟩ = some (.int .i64 V.base) ∧ w'.cell? ⟨w.heap.size, 1, none⟩ = some sv ∧ w'.cell? ⟨w.heap.size, 2, none⟩ = some tv)
      (first | go_keep | exact hK1 | exact hK2)
      (first
        | (go_at_call 85; refine (copyInts_any _ V.shape _ (hsv.ext hD) hl1).mono ?_; rintro e w2 ⟨s1, rfl, ho1, hb2⟩; have hA2 := (Blk.ext hA1 (below_drew w1) hA1.lt).ext hb2 hA1.lt; have hR2 := (Blk.ext hR1 (below_drew w1) hR1.lt).ext hb2 hR1.lt; have hK1 := hA2.all3.1; have hD2 := bstep hD hb2 hD.size; obtain ⟨A1, c1, e1⟩ := ho1.form; subst e1)
        | (go_at_call 86; refine (load_any _ _ mem V _ (hm.ext hD2) (hv0.ext hD2) HC.out).mono ?_; rintro e w3 ⟨t1, rfl, ho2, hb3⟩; have hA3 := hA2.ext hb3 hA2.lt; have hR3 := hR2.ext hb3 hR2.lt; have hK2 := hA3.all3.1; have hD3 := bstep hD2 hb3 hD2.size; obtain ⟨A2, c2, e2⟩ := ho2.form; subst e2; obtain ⟨⟨r0, r1⟩, rf0, rf1⟩ := id hR3.all2))
    have hz1 : w1.heap.size ≤ w2.heap.size := hb2.size
    have hz2 := hb3.size
    have hsg1 := ho1.seg
    have hsg2 := ho2.seg
    simp only [World.size_drew] at hsg1
    have ho1' := (ho1.ext hb3).mono (B' := w.heap.size) (by simp; omega)
    have ho2' := ho2.mono (B' := w.heap.size) (by omega)
    go_wp2
    refine bodyPost_ret (v := .tuple #[.agg #[.slice A1 V.shape.length c1, .slice A2 (takenL mem (offs V)).length c2], .bool true]) (by simp [results, Try.results35, go_sem, r0, r1]) rfl ?_
    rw [HQ.out]
    exact ⟨_, _, rfl, own2 ho1' hsg1 (by omega) _ _, own2 ho2' hsg2 (by omega) _ _, hsg1.sep hsg2 (by omega), below2 hD3 (by omega) _ _⟩

set_option maxRecDepth 100000 in
set_option maxHeartbeats 800000 in
theorem TensorOf_any (m v : Value) (mem : List Int) (V : VL) (w : World) (hm : Ints w m mem) (hv : ViewV w v V) :
    Calls Try.prog 37 #[m, v] w (RetTensorB w (tensorL mem V) (holdL mem V)) := by
  have hv0 := hv
  obtain ⟨sv, tv, rfl, hsv, htv⟩ := hv
  obtain ⟨As, cs, es⟩ := hsv.form
  subst es
  have hA := (Blk.new w 27 #[.int .i64 V.base, .slice As V.shape.length cs, tv]).alloc (.cells #[.slice none 0 0, .slice none 0 0] 49)
  have hR := Blk.new (w.alloc (.cells #[.int .i64 V.base, .slice As V.shape.length cs, tv] 27)) 49 #[.slice none 0 0, .slice none 0 0]
  have hW : Below w.heap.size w ((w.alloc (.cells #[.int .i64 V.base, .slice As V.shape.length cs, tv] 27)).alloc (.cells #[.slice none 0 0, .slice none 0 0] 49)) := ((Below.refl _ _).alloc (Nat.le_refl _) _).alloc (by simp) _
  simp only [World.size_alloc] at hR
  cases c : holdL mem V
  · have HQ := hid (show tensorL mem V = ⟨[], []⟩ by simp [tensorL, c])
    go_enter Try.func37, Try.ntmps37
    go_wp2_with fail
    generalize (w.alloc (.cells #[.int .i64 V.base, .slice As V.shape.length cs, tv] 27)).alloc (.cells #[.slice none 0 0, .slice none 0 0] 49) = W1 at *
    refine (canHold_any _ _ mem V _ (hm.ext hW) (hv0.ext hW)).mono ?_; rintro e w1 ⟨rfl, hb1⟩
    obtain ⟨⟨r0, r1⟩, rf0, rf1⟩ := (hR.ext hb1 hR.lt).all2
    have hD := bstep hW hb1 hW.size
    go_wp2
    refine bodyPost_ret (v := .tuple #[.agg #[.slice none 0 0, .slice none 0 0], .bool false]) (by simp [results, Try.results37, go_sem, r0, r1]) rfl ?_
    rw [HQ.out]
    exact ⟨_, _, rfl, Own.nil _ _, Own.nil _ _, Sep.none_left _, below2 hD (by omega) _ _⟩
  · have HQ := hid (show tensorL mem V = ⟨V.shape, takenL mem (offs V)⟩ by simp [tensorL, c])
    have HC := hid c
    have hl := (viewOk_lens (holdL_and c).2.1).1
    have hl1 : ([] : List Int).length + V.shape.length ≤ 1000000000000 := by simp; omega
    go_enter Try.func37, Try.ntmps37
    go_wp2_with fail
    generalize (w.alloc (.cells #[.int .i64 V.base, .slice As V.shape.length cs, tv] 27)).alloc (.cells #[.slice none 0 0, .slice none 0 0] 49) = W1 at *
    refine (canHold_any _ _ mem V _ (hm.ext hW) (hv0.ext hW)).mono ?_; rintro e w1 ⟨rfl, hb1⟩
    have hA1 := hA.ext hb1 hA.lt
    have hR1 := hR.ext hb1 hR.lt
    have hD0 := bstep hW hb1 hW.size
    have hz0 := hb1.size
    have hn := hA.lt
    have hn1 := hR.lt
    obtain ⟨⟨q0, q1, q2⟩, -⟩ := id hA1.all3
    have hD := hD0.drew
    go_wp2_with fail
    have hE : Own (w1.drew.alloc (.cells #[] 3)) w1.heap.size (.slice (some ⟨w1.heap.size, 0, none⟩) 0 0) [] := Own.empty w1.drew (by simp) (Nat.le_refl _)
    have hx := (hsv.ext hD).ext (below_alloc w1.drew (.cells #[] 3))
    have hBz : w1.heap.size ≤ (w1.drew.alloc (.cells #[] 3)).heap.size := by simp
    go_region_held3 (fun w' => w'.cell? ⟨w.heap.size, 0, none⟩ = some (.int .i64 V.base) ∧ w'.cell? ⟨w.heap.size, 1, none⟩ = some (.slice As V.shape.length cs) ∧ w'.cell? ⟨w.heap.size, 2, none⟩ = some tv)
      (first | go_keep | exact hK1 | exact hK2)
      (first
        | (refine stepI _ (by rfl) _ _ (by rfl) w1.heap.size _ [] (by rfl) hE _ _ _ V.shape (by rfl) hx hl1 hBz ?_; intro v1 w2 ho1 hg hat; have hb2 : Below w1.drew.heap.size w1.drew w2 := (below_alloc w1.drew _).trans (hE.under hg hBz); clear hg hat; have hA2 := (Blk.ext hA1 (below_drew w1) hA1.lt).ext hb2 hA1.lt; have hR2 := (Blk.ext hR1 (below_drew w1) hR1.lt).ext hb2 hR1.lt; have hK1 := hA2.all3.1; have hD2 := bstep hD hb2 hD.size; rw [List.nil_append] at ho1; obtain ⟨A1, c1, e1⟩ := ho1.form; subst e1)
        | (go_at_call 88; refine (loadView_any _ _ mem V _ (hm.ext hD2) (hv0.ext hD2) HC.out).mono ?_; rintro e w3 ⟨t1, rfl, ho2, hb3⟩; have hA3 := hA2.ext hb3 hA2.lt; have hR3 := hR2.ext hb3 hR2.lt; have hK2 := hA3.all3.1; have hD3 := bstep hD2 hb3 hD2.size; obtain ⟨A2, c2, e2⟩ := ho2.form; subst e2; obtain ⟨⟨r0, r1⟩, rf0, rf1⟩ := id hR3.all2))
    have hz1 : w1.heap.size ≤ w2.heap.size := hb2.size
    have hz2 := hb3.size
    have hsg1 := ho1.seg
    have hsg2 := ho2.seg
    have ho1' := (ho1.ext hb3).mono (B' := w.heap.size) (by omega)
    have ho2' := ho2.mono (B' := w.heap.size) (by omega)
    go_wp2
    refine bodyPost_ret (v := .tuple #[.agg #[.slice A1 V.shape.length c1, .slice A2 (takenL mem (offs V)).length c2], .bool true]) (by simp [results, Try.results37, go_sem, r0, r1]) rfl ?_
    rw [HQ.out]
    exact ⟨_, _, rfl, own2 ho1' hsg1 (by omega) _ _, own2 ho2' hsg2 (by omega) _ _, hsg1.sep hsg2 (by omega), below2 hD3 (by omega) _ _⟩

end Go.Proofs.Ytonlhphgoedcnaa
