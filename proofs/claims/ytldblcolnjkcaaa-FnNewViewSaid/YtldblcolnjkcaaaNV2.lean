/- Contracts: new views, the reference's. No conditions. -/
import Derived.Test.YtldblcolnjkcaaaNV1
import Derived.Test.YtldblcolnjkcaaaS1
import Derived.Deep.Cut
namespace Go.Proofs.Ytldblcolnjkcaaa
open Go.RowKit

set_option maxRecDepth 100000 in
set_option maxHeartbeats 6400000 in
theorem sNewView_any (v : Value) (s : List Int) (w : World) (h : Ints w v s) :
    Calls Try.prog 32 #[v] w (RetView w (newL s)) := by
  obtain ⟨A, c, e⟩ := h.form
  subst e
  have hb0 := below_alloc w (.cells #[.int .i64 0, .slice none 0 0, .slice none 0 0] 43)
  have hZ := Blk.new w 43 #[.int .i64 0, .slice none 0 0, .slice none 0 0]
  have h1 := h.nx hb0
  have hz0 : w.heap.size + 1 ≤ (w.alloc (.cells #[.int .i64 0, .slice none 0 0, .slice none 0 0] 43)).heap.size := by simp
  cases hs : isShapeL s
  · have HS := hid hs
    have HQ := hid (show newL s = VL.zero by simp [newL, hs])
    clear hs
    go_enter Try.func32, Try.ntmps32
    go_wp2_with fail
    generalize (w.alloc (.cells #[.int .i64 0, .slice none 0 0, .slice none 0 0] 43)) = w0 at *
    refine (validShape_any _ s _ h1).mono ?_; rintro e w' ⟨rfl, rfl⟩
    rw [HS.out]
    obtain ⟨⟨q0, q1, q2⟩, qf0, qf1, qf2⟩ := id hZ.all3
    obtain ⟨⟨t0, t1, t2⟩, -⟩ := (hZ.store3 (.int .i64 0) (.slice none 0 0) (.slice none 0 0)).all3
    go_wp2
    refine bodyPost_ret (v := .agg #[.int .i64 0, .slice none 0 0, .slice none 0 0]) (by simp [results, Try.results32, go_sem, t0, t1, t2]) rfl ?_
    rw [HQ.out]
    exact store_view (V := VL.zero) (B := w.heap.size + 1) (by omega) (Own.nil _ _) (Own.nil _ _) (Sep.none_left _) hb0 _ _ _
  · have HS := hid hs
    have hsl := (shape_ext hs).1
    have hsp := shape_prod hs
    have HP := hid hsp.1
    by_cases hz : prodI s = 0
    · have hz1 : (prodI s == 0) = true := by simp [hz]
      have HQ := hid (show newL s = ⟨0, s, zerosL s.length⟩ by simp [newL, hs, tidyL, hsp.1, hz])
      clear hs hz hsp
      go_enter Try.func32, Try.ntmps32
      go_wp2_with fail
      generalize (w.alloc (.cells #[.int .i64 0, .slice none 0 0, .slice none 0 0] 43)) = w0 at *
      refine (validShape_any _ s _ h1).mono ?_; rintro e w' ⟨rfl, rfl⟩
      rw [HS.out]
      go_wp2_with fail
      refine (count_any _ s _ h1).mono ?_; rintro e w' ⟨rfl, rfl⟩
      rw [HP.out]
      have HC := hid (fun x : ExtW w0 => copyInts_any _ s x.v (h1.nx x.h) (by omega))
      go_upto_region 4 with fail
      refine region_mk 6 (by kernel_rfl) (by kernel_rfl) ?_
      apply Exists.intro
      simp only [List.take_succ_cons, List.take_zero, List.drop_succ_cons, List.drop_zero]
      repeat (first
        | (apply grow_val (by rfl); (focus (intro x; (go_simp; try with_reducible rfl); done)); simp only [Act.put, List.setIfInBounds_toArray, List.set_cons_zero, List.set_cons_succ])
        | (apply grow_skip (by rfl); simp only [Act.put, List.setIfInBounds_toArray, List.set_cons_zero, List.set_cons_succ]))
      apply grow_ints (s) (by rfl)
      · intro x hF K Q hK
        go_simp
        go_at_call 111;(with_reducible refine (HC.out x).mono ?_);rintro e w' ⟨v1, rfl, ho, hb⟩;exact hK _ _ hb ho
      intro A1 c1 F1 O1 hF1 hO1
      simp only [Act.put, List.setIfInBounds_toArray, List.set_cons_zero, List.set_cons_succ]
      repeat (first
        | (apply grow_val (by rfl); (focus (intro x; (go_simp; try with_reducible rfl); done)); simp only [Act.put, List.setIfInBounds_toArray, List.set_cons_zero, List.set_cons_succ])
        | (apply grow_skip (by rfl); simp only [Act.put, List.setIfInBounds_toArray, List.set_cons_zero, List.set_cons_succ]))
      apply grow_made s.length _ _ (by rfl) (by rfl) (by rfl) (by omega) (by rfl)
      intro g4 hg4 F4 O4 hF4 hO4
      simp only [Act.put, List.setIfInBounds_toArray, List.set_cons_zero, List.set_cons_succ]
      apply grow_fn (fun d => .agg #[.int .i64 0, d.getD 0 undef, d.getD 1 undef]) ([.slice A1 s.length c1, .slice (some ⟨g4, 0, none⟩) s.length s.length]) (by kernel_rfl) (by rfl)
      · intro x hF
        refine ⟨_, by (go_simp; try with_reducible rfl), rfl⟩
      intro v5 F5 hF5
      simp only [Act.put, List.setIfInBounds_toArray, List.set_cons_zero, List.set_cons_succ]
      repeat (first
        | (apply grow_val (by rfl); (focus (intro x; (go_simp; try with_reducible rfl); done)); simp only [Act.put, List.setIfInBounds_toArray, List.set_cons_zero, List.set_cons_succ])
        | (apply grow_skip (by rfl); simp only [Act.put, List.setIfInBounds_toArray, List.set_cons_zero, List.set_cons_succ]))
      refine grow_nil ?_
      intro x hF hS
      have e5 : v5 = .agg #[.int .i64 0, .slice A1 s.length c1, .slice (some ⟨g4, 0, none⟩) s.length s.length] := hF5 _ (hF 5 (by omega))
      subst e5
      have h1' := hF1 _ (hF 1 (by omega))
      have h4' := hF4 _ (hF 4 (by omega))
      have hsp' : Sep (.slice A1 s.length c1) (.slice (some ⟨g4, 0, none⟩) s.length s.length) := fun q e1 e2 => hS 1 4 (by omega) (by omega) (by omega) q (hO1 q e1) (by injection e2 with e2; subst e2; exact hO4)
      obtain ⟨w4, hb4⟩ := x
      simp only at h1' h4'
      have hZ4 := hZ.nx hb4
      have hB := hb0.nx hb4 hb0.size
      have HS4 := hid h1'
      have HT4 := hid h4'
      clear hF hS hF1 hO1 hF4 hO4 hF5 h1' h4' hZ hb0 h h1
      obtain ⟨⟨q0, q1, q2⟩, qf0, qf1, qf2⟩ := id hZ4.all3
      obtain ⟨⟨t0, t1, t2⟩, -⟩ := (hZ4.store3 (.int .i64 0) (.slice A1 s.length c1) (.slice (some ⟨g4, 0, none⟩) s.length s.length)).all3
      clear hZ4
      go_wp2
      refine bodyPost_ret (v := .agg #[.int .i64 0, .slice A1 s.length c1, .slice (some ⟨g4, 0, none⟩) s.length s.length]) (by simp [results, Try.results32, go_sem, t0, t1, t2]) rfl ?_
      rw [HQ.out]
      exact store_view (V := ⟨0, s, zerosL s.length⟩) (by omega) HS4.out HT4.out hsp' hB _ _ _
    · have hz1 : (prodI s == 0) = false := by simpa using hz
      have HQ := hid (newL_pos hs hz)
      clear hs hz hsp
      go_enter Try.func32, Try.ntmps32
      go_wp2_with fail
      generalize (w.alloc (.cells #[.int .i64 0, .slice none 0 0, .slice none 0 0] 43)) = w0 at *
      refine (validShape_any _ s _ h1).mono ?_; rintro e w' ⟨rfl, rfl⟩
      rw [HS.out]
      go_wp2_with fail
      refine (count_any _ s _ h1).mono ?_; rintro e w' ⟨rfl, rfl⟩
      rw [HP.out]
      go_wp2_with fail
      refine (copyInts_any _ s _ h1 (by omega)).mono ?_; rintro e w2 ⟨r1, rfl, ho2, hb2⟩
      have h2 := h1.nx hb2
      go_wp2_with fail
      refine (srowStrides_any _ s _ h2 HS.out).mono ?_; rintro e w3 ⟨r2, rfl, ho3, hb3⟩
      have hsep := ho2.seg.sep ho3.seg (Nat.le_refl _)
      have hy2 := hb2.size
      have hB := (hb0.nx hb2 hb0.size).nx hb3 (by omega)
      have hZ4 := (hZ.nx hb2).nx hb3
      have HS4 := hid (ho2.nx hb3)
      have HT4 := hid (ho3.mono (B' := w0.heap.size) (by omega))
      obtain ⟨As, cs, rfl⟩ := ho2.form
      obtain ⟨At, ct, rfl⟩ := ho3.form
      obtain ⟨⟨q0, q1, q2⟩, qf0, qf1, qf2⟩ := id hZ4.all3
      obtain ⟨⟨t0, t1, t2⟩, -⟩ := (hZ4.store3 (.int .i64 0) (.slice As s.length cs) (.slice At (rowS s).length ct)).all3
      clear hZ hZ4 ho2 ho3 h h1 h2 hb0 hb2 hb3
      generalize (rowS s).length = rl at *
      go_wp2
      refine bodyPost_ret (v := .agg #[.int .i64 0, .slice As s.length cs, .slice At rl ct]) (by simp [results, Try.results32, go_sem, t0, t1, t2]) rfl ?_
      rw [HQ.out]
      exact store_view (V := ⟨0, s, rowS s⟩) (by omega) HS4.out HT4.out hsep hB _ _ _

end Go.Proofs.Ytldblcolnjkcaaa
