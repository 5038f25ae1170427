/- Contracts of the laws' own helpers over exports. No conditions. -/
import Derived.Test.YtfiphjifnjnmbaaL1
import Derived.Test.YtfiphjifnjnmbaaL2v
import Derived.Test.YtfiphjifnjnmbaaRE
import Derived.Deep.Cut
namespace Go.Proofs.Ytfiphjifnjnmbaa
open Go.RowKit

theorem Blk.all5E {w : World} {g : Nat} {t : TypeId} {a b c d e : Value} (h : Blk w g t #[a, b, c, d, e]) : (w.cell? ⟨g, 0, none⟩ = some a ∧ w.cell? ⟨g, 1, none⟩ = some b ∧ w.cell? ⟨g, 2, none⟩ = some c ∧ w.cell? ⟨g, 3, none⟩ = some d ∧ w.cell? ⟨g, 4, none⟩ = some e) ∧
    w.frozen? ⟨g, 0, none⟩ = false ∧ w.frozen? ⟨g, 1, none⟩ = false ∧ w.frozen? ⟨g, 2, none⟩ = false ∧ w.frozen? ⟨g, 3, none⟩ = false ∧ w.frozen? ⟨g, 4, none⟩ = false :=
  ⟨⟨h.cell 0, h.cell 1, h.cell 2, h.cell 3, h.cell 4⟩, h.free 0, h.free 1, h.free 2, h.free 3, h.free 4⟩
theorem ExportV.view {w : World} {E : EL} {sv tv : Value} (h : ExportV w (.agg #[.int .i64 E.parent, .int .i64 E.view.base, sv, tv, .bool E.opn]) E) : ViewV w (.agg #[.int .i64 E.view.base, sv, tv]) E.view := by
  obtain ⟨s, t, e, h1, h2⟩ := h
  have e2 : sv = s ∧ tv = t := by simpa using e
  obtain ⟨rfl, rfl⟩ := e2
  exact ⟨_, _, rfl, h1, h2⟩

set_option maxRecDepth 100000 in
set_option maxHeartbeats 800000 in
theorem szExport_ok (v : Value) (E : EL) (left : Nat) (w : World) (h : ExportV w v E) (hl : E.view.shape.length + E.view.strides.length ≤ left) (h2 : left ≤ 1048576) :
    Calls Try.prog 68 #[v, .int .i64 left] w fun e w' => e = .returned (.int .i64 ((left - E.view.shape.length - E.view.strides.length : Nat) : Int)) ∧ Below w.heap.size w w' := by
  have h0 := h
  obtain ⟨sv, tv, rfl, hs, ht⟩ := h
  have hV := h0.view
  have hb0 := below_alloc w (.cells #[.int .i64 E.parent, .int .i64 E.view.base, sv, tv, .bool E.opn] 86)
  have hZ := Blk.new w 86 #[.int .i64 E.parent, .int .i64 E.view.base, sv, tv, .bool E.opn]
  go_enter Try.func68, Try.ntmps68
  go_upto_region 1 with fail
  generalize w.alloc (.cells #[.int .i64 E.parent, .int .i64 E.view.base, sv, tv, .bool E.opn] 86) = w0 at *
  obtain ⟨⟨q0, q1, q2, q3, q4⟩, -⟩ := id hZ.all5E
  go_wp2_with fail
  refine (szView_ok _ E.view left _ (hV.ext hb0) hl h2).mono ?_; rintro e w1 ⟨rfl, hb⟩
  have hn0 : ¬ (((left - E.view.shape.length - E.view.strides.length : Nat) : Int) < 0) := by omega
  generalize hz : left - E.view.shape.length - E.view.strides.length = z at *
  have HZ := hid hz
  clear hz
  go_wp2
  go_ret
  exact ⟨ret_int (by rw [HZ.out]), hb0.nx hb hb0.size⟩

set_option maxRecDepth 100000 in
set_option maxHeartbeats 800000 in
theorem szExport_no (v : Value) (E : EL) (left : Nat) (w : World) (h : ExportV w v E) (hl : left < E.view.shape.length + E.view.strides.length) (h2 : left ≤ 1048576) :
    Calls Try.prog 68 #[v, .int .i64 left] w fun e w' => e = .returned (.int .i64 (-1)) ∧ Below w.heap.size w w' := by
  have h0 := h
  obtain ⟨sv, tv, rfl, hs, ht⟩ := h
  have hV := h0.view
  have hb0 := below_alloc w (.cells #[.int .i64 E.parent, .int .i64 E.view.base, sv, tv, .bool E.opn] 86)
  have hZ := Blk.new w 86 #[.int .i64 E.parent, .int .i64 E.view.base, sv, tv, .bool E.opn]
  go_enter Try.func68, Try.ntmps68
  go_upto_region 1 with fail
  generalize w.alloc (.cells #[.int .i64 E.parent, .int .i64 E.view.base, sv, tv, .bool E.opn] 86) = w0 at *
  obtain ⟨⟨q0, q1, q2, q3, q4⟩, -⟩ := id hZ.all5E
  go_wp2_with fail
  refine (szView_no _ E.view left _ (hV.ext hb0) hl h2).mono ?_; rintro e w1 ⟨rfl, hb⟩
  go_wp2
  go_ret
  exact ⟨rfl, hb0.nx hb hb0.size⟩

set_option maxRecDepth 100000 in
set_option maxHeartbeats 800000 in
theorem eqExport_yes (v v' : Value) (E : EL) (w : World) (h : ExportV w v E) (h' : ExportV w v' E) :
    Calls Try.prog 75 #[v, v'] w fun e w' => e = .returned (.bool true) ∧ Below w.heap.size w w' := by
  have h0 := h
  have h0' := h'
  obtain ⟨sv, tv, rfl, hs, ht⟩ := h
  obtain ⟨sv', tv', rfl, hs', ht'⟩ := h'
  have hV := h0.view
  have hV' := h0'.view
  have hb : Below w.heap.size w ((w.alloc (.cells #[.int .i64 E.parent, .int .i64 E.view.base, sv, tv, .bool E.opn] 70)).alloc (.cells #[.int .i64 E.parent, .int .i64 E.view.base, sv', tv', .bool E.opn] 70)) := ((Below.refl _ _).alloc (Nat.le_refl _) _).alloc (by simp) _
  have hA := (Blk.new w 70 #[.int .i64 E.parent, .int .i64 E.view.base, sv, tv, .bool E.opn]).alloc (.cells #[.int .i64 E.parent, .int .i64 E.view.base, sv', tv', .bool E.opn] 70)
  have hA2 := Blk.new (w.alloc (.cells #[.int .i64 E.parent, .int .i64 E.view.base, sv, tv, .bool E.opn] 70)) 70 #[.int .i64 E.parent, .int .i64 E.view.base, sv', tv', .bool E.opn]
  simp only [World.size_alloc] at hA2
  go_enter Try.func75, Try.ntmps75
  go_upto_region 1 with fail
  generalize ((w.alloc (.cells #[.int .i64 E.parent, .int .i64 E.view.base, sv, tv, .bool E.opn] 70)).alloc (.cells #[.int .i64 E.parent, .int .i64 E.view.base, sv', tv', .bool E.opn] 70)) = w0 at *
  obtain ⟨⟨q0, q1, q2, q3, q4⟩, -⟩ := id hA.all5E
  obtain ⟨⟨r0, r1, r2, r3, r4⟩, -⟩ := id hA2.all5E
  go_wp2_with fail
  refine (eqView_yes _ _ E.view _ (hV.ext hb) (hV'.ext hb)).mono ?_; rintro e w1 ⟨rfl, hb1⟩
  clear q0 q1 q2 q3 q4 r0 r1 r2 r3 r4
  obtain ⟨⟨q0, q1, q2, q3, q4⟩, -⟩ := (hA.ext hb1 hA.lt).all5E
  obtain ⟨⟨r0, r1, r2, r3, r4⟩, -⟩ := (hA2.ext hb1 hA2.lt).all5E
  go_wp2
  go_ret
  exact ⟨rfl, hb.nx hb1 hb.size⟩

set_option maxRecDepth 100000 in
set_option maxHeartbeats 6400000 in
theorem toExport_any (v : Value) (E : EL) (w : World) (h : ExportV w v E) (hl1 : E.view.shape.length ≤ 1048576) (hl2 : E.view.strides.length ≤ 1048576) :
    Calls Try.prog 72 #[v] w (RetExport w E) := by
  have h0 := h
  obtain ⟨sv, tv, rfl, hs, ht⟩ := h
  have hV := h0.view
  have hA := ((Blk.new w 86 #[.int .i64 E.parent, .int .i64 E.view.base, sv, tv, .bool E.opn]).alloc (.cells #[.int .i64 0, .int .i64 0, .slice none 0 0, .slice none 0 0, .bool false] 70)).alloc (.cells #[.int .i64 E.parent, .int .i64 0, .slice none 0 0, .slice none 0 0, .bool false] 70)
  have hR := (Blk.new (w.alloc (.cells #[.int .i64 E.parent, .int .i64 E.view.base, sv, tv, .bool E.opn] 86)) 70 #[.int .i64 0, .int .i64 0, .slice none 0 0, .slice none 0 0, .bool false]).alloc (.cells #[.int .i64 E.parent, .int .i64 0, .slice none 0 0, .slice none 0 0, .bool false] 70)
  have hO := Blk.new ((w.alloc (.cells #[.int .i64 E.parent, .int .i64 E.view.base, sv, tv, .bool E.opn] 86)).alloc (.cells #[.int .i64 0, .int .i64 0, .slice none 0 0, .slice none 0 0, .bool false] 70)) 70 #[.int .i64 E.parent, .int .i64 0, .slice none 0 0, .slice none 0 0, .bool false]
  have hW : Below w.heap.size w (((w.alloc (.cells #[.int .i64 E.parent, .int .i64 E.view.base, sv, tv, .bool E.opn] 86)).alloc (.cells #[.int .i64 0, .int .i64 0, .slice none 0 0, .slice none 0 0, .bool false] 70)).alloc (.cells #[.int .i64 E.parent, .int .i64 0, .slice none 0 0, .slice none 0 0, .bool false] 70)) := (((Below.refl _ _).alloc (Nat.le_refl _) _).alloc (by simp) _).alloc (by simp <;> omega) _
  simp only [World.size_alloc] at hR hO
  have hsz : (((w.alloc (.cells #[.int .i64 E.parent, .int .i64 E.view.base, sv, tv, .bool E.opn] 86)).alloc (.cells #[.int .i64 0, .int .i64 0, .slice none 0 0, .slice none 0 0, .bool false] 70)).alloc (.cells #[.int .i64 E.parent, .int .i64 0, .slice none 0 0, .slice none 0 0, .bool false] 70)).heap.size = w.heap.size + 1 + 1 + 1 := by simp
  go_enter Try.func72, Try.ntmps72
  go_upto_region 3 with fail
  generalize (((w.alloc (.cells #[.int .i64 E.parent, .int .i64 E.view.base, sv, tv, .bool E.opn] 86)).alloc (.cells #[.int .i64 0, .int .i64 0, .slice none 0 0, .slice none 0 0, .bool false] 70)).alloc (.cells #[.int .i64 E.parent, .int .i64 0, .slice none 0 0, .slice none 0 0, .bool false] 70)) = w0 at *
  obtain ⟨⟨q0, q1, q2, q3, q4⟩, -⟩ := id hA.all5E
  go_wp2_with fail
  refine (toView_any _ E.view _ (hV.ext hW) hl1 hl2).mono ?_; rintro e w1 ⟨s1, t1, rfl, ho, hp, hsep, hb1⟩
  have hz1 := hb1.size
  have hA1 := hA.ext hb1 (by omega)
  have hR1 := hR.ext hb1 (by omega)
  have hO1 := hO.ext hb1 (by omega)
  have ho1 := ho.mono (B' := w.heap.size + 3) (by omega)
  have hp1 := hp.mono (B' := w.heap.size + 3) (by omega)
  have hbw1 := hW.nx hb1 (by omega)
  obtain ⟨A1, c1, rfl⟩ := ho.form
  obtain ⟨A2, c2, rfl⟩ := hp.form
  have HS := hid hsep
  have HO := hid (And.intro ho1 (And.intro hp1 hbw1))
  clear q0 q1 q2 q3 q4 ho hp ho1 hp1 hb1 hA hR hO hW hs ht hV h0 hsep hsz
  obtain ⟨⟨q0, q1, q2, q3, q4⟩, -⟩ := id hA1.all5E
  obtain ⟨⟨r0, r1, r2, r3, r4⟩, s0, s1, s2, s3, s4⟩ := id hR1.all5E
  obtain ⟨⟨o0, o1, o2, o3, o4⟩, p0, p1, p2, p3, p4⟩ := id hO1.all5E
  go_wp2
  refine bodyPost_ret (v := .agg #[.int .i64 E.parent, .int .i64 E.view.base, .slice A1 E.view.shape.length c1, .slice A2 E.view.strides.length c2, .bool E.opn]) (by simp [results, Try.results72, go_sem, r0, r1, r2, r3, r4]) rfl ⟨_, _, rfl, ?_, ?_, HS.out, ?_⟩
  · refine Own.mono (B := w.heap.size + 3) ?_ (by omega)
    iterate 9 (refine Own.far ?_ (by simp <;> omega) _)
    exact HO.out.1
  · refine Own.mono (B := w.heap.size + 3) ?_ (by omega)
    iterate 9 (refine Own.far ?_ (by simp <;> omega) _)
    exact HO.out.2.1
  · iterate 9 (refine Below.setCell ?_ (by simp <;> omega) _)
    exact HO.out.2.2

end Go.Proofs.Ytfiphjifnjnmbaa
