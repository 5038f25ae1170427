/- Contracts: new views. No conditions. -/
import Derived.Test.YtldblcolnjkcaaaNVp
import Derived.Test.YtldblcolnjkcaaaV1
import Derived.Test.YtldblcolnjkcaaaD1
import Derived.Test.YtldblcolnjkcaaaC10a
import Derived.Test.YtldblcolnjkcaaaGm
namespace Go.Proofs.Ytldblcolnjkcaaa
open Go.RowKit

/-- A view in its box, and the function's own memory, handed back. -/
theorem store_view {w w' : World} {B : Nat} {sv tv : Value} {V : VL} (hB : w.heap.size < B) (hs : Own w' B sv V.shape) (ht : Own w' B tv V.strides) (hsep : Sep sv tv) (hb : Below w.heap.size w w') (a b c : Value) :
    RetView w V (.returned (.agg #[.int .i64 V.base, sv, tv])) (((w'.setCell ⟨w.heap.size, 0, none⟩ a).setCell ⟨w.heap.size, 1, none⟩ b).setCell ⟨w.heap.size, 2, none⟩ c) :=
  ⟨sv, tv, rfl, ((own3b hs hB a b c).mono (by omega)), ((own3b ht hB a b c).mono (by omega)), hsep, below3 hb (Nat.le_refl _) a b c⟩

set_option maxRecDepth 100000 in
set_option maxHeartbeats 6400000 in
theorem NewView_any (v : Value) (s : List Int) (w : World) (h : Ints w v s) :
    Calls Try.prog 30 #[v] w (RetView w (newL s)) := by
  obtain ⟨A, c, e⟩ := h.form
  subst e
  have hb0 := below_alloc w (.cells #[.int .i64 0, .slice none 0 0, .slice none 0 0] 43)
  have hZ := Blk.new w 43 #[.int .i64 0, .slice none 0 0, .slice none 0 0]
  have h1 := h.nx hb0
  have hz0 : w.heap.size + 1 ≤ (w.alloc (.cells #[.int .i64 0, .slice none 0 0, .slice none 0 0] 43)).heap.size := by simp
  cases hs : isShapeL s
  · have HS := hid hs
    have HQ := hid (show newL s = VL.zero by simp [newL, hs])
    clear hs
    go_enter Try.func30, Try.ntmps30
    go_wp2_with fail
    generalize (w.alloc (.cells #[.int .i64 0, .slice none 0 0, .slice none 0 0] 43)) = w0 at *
    refine (isShape_any _ s _ h1).mono ?_; rintro e w' ⟨rfl, rfl⟩
    rw [HS.out]
    obtain ⟨⟨q0, q1, q2⟩, qf0, qf1, qf2⟩ := id hZ.all3
    obtain ⟨⟨t0, t1, t2⟩, -⟩ := (hZ.store3 (.int .i64 0) (.slice none 0 0) (.slice none 0 0)).all3
    go_wp2
    refine bodyPost_ret (v := .agg #[.int .i64 0, .slice none 0 0, .slice none 0 0]) (by simp [results, Try.results30, go_sem, t0, t1, t2]) rfl ?_
    rw [HQ.out]
    exact store_view (V := VL.zero) (B := w.heap.size + 1) (by omega) (Own.nil _ _) (Own.nil _ _) (Sep.none_left _) hb0 _ _ _
  · have HS := hid hs
    have HQ := hid (show newL s = tidyL ⟨0, s, rowS s⟩ by simp [newL, hs])
    have hsl := (shape_ext hs).1
    clear hs
    go_enter Try.func30, Try.ntmps30
    go_wp2_with fail
    generalize (w.alloc (.cells #[.int .i64 0, .slice none 0 0, .slice none 0 0] 43)) = w0 at *
    refine (isShape_any _ s _ h1).mono ?_; rintro e w' ⟨rfl, rfl⟩
    rw [HS.out]
    have hx := h1.nx (below_alloc w0 (.cells #[] 3))
    have ho := Own.empty w0 (B := w0.heap.size) rfl (Nat.le_refl _)
    have hz : ([] : List Int).length + s.length ≤ 1000000000000 := by simp; omega
    go_wp2_with (at_builtin; refine appI _ rfl _ _ rfl w0.heap.size _ [] rfl ho _ _ _ s rfl hx hz (by simp) ?_)
    intro v1 w2 ho2' hg hat
    have hb2 : Below w0.heap.size w0 w2 := (below_alloc w0 _).trans (ho.under hg (by simp))
    have ho2 : Own w2 w0.heap.size v1 s := by simpa using ho2'
    clear hx ho hat hg ho2'
    obtain ⟨A1, c1, rfl⟩ := ho2.form
    have h2 := h1.nx hb2
    go_wp2_with fail
    refine (irowStrides_any _ s _ h2 HS.out).mono ?_; rintro e w3 ⟨r, rfl, hr, hb3⟩
    have ho3 := ho2.nx hb3
    have hsep : Sep (.slice A1 s.length c1) r := ho2.seg.sep hr.seg (Nat.le_refl _)
    have hz2 := hb2.size
    have hz3 := hb3.size
    obtain ⟨A2, c2, rfl⟩ := hr.form
    go_wp2_with fail
    refine (cleared_any _ _ ⟨0, s, rowS s⟩ w0.heap.size _ ho3 (hr.mono (by omega)) hsep (by omega) (by show s.length ≤ 1000000; omega)).mono ?_; rintro e w4 ⟨sv, tv, rfl, hs4, ht4, hsep4, hb4⟩
    rw [← HQ.out] at hs4 ht4 ⊢
    have hB := (hb0.nx hb2 hb0.size).nx hb3 (by omega)
    have hB := hB.nx hb4 (by omega)
    have hZ4 := ((hZ.nx hb2).nx hb3).nx hb4
    obtain ⟨As, cs, rfl⟩ := hs4.form
    obtain ⟨At, ct, rfl⟩ := ht4.form
    obtain ⟨⟨q0, q1, q2⟩, qf0, qf1, qf2⟩ := id hZ4.all3
    obtain ⟨⟨t0, t1, t2⟩, -⟩ := (hZ4.store3 (.int .i64 (newL s).base) (.slice As (newL s).shape.length cs) (.slice At (newL s).strides.length ct)).all3
    clear hZ hZ4 ho2 ho3 hr h h1 h2 hb0 hb2 hb3 hb4
    have HS4 := hid hs4
    have HT4 := hid ht4
    clear hs4 ht4
    generalize newL s = V at *
    go_wp2
    refine bodyPost_ret (v := .agg #[.int .i64 V.base, .slice As V.shape.length cs, .slice At V.strides.length ct]) (by simp [results, Try.results30, go_sem, t0, t1, t2]) rfl ?_
    exact store_view (by omega) HS4.out HT4.out hsep4 hB _ _ _

end Go.Proofs.Ytldblcolnjkcaaa
