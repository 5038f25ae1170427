/- Contracts of the laws' own helpers over buffers. No conditions. -/
import Derived.Test.YtfiphjifnjnmbaaREh
import Derived.Test.YtfiphjifnjnmbaaREm
import Derived.Test.YtfiphjifnjnmbaaT0
namespace Go.Proofs.Ytfiphjifnjnmbaa
open Go.RowKit

theorem OwnC.far {t : TypeId} {s n : Nat} {w : World} {B g i : Nat} {v : Value} {us : List Value} {cs : List Cl} (h : OwnC t s w B v n us cs) (hg : g < B) (u : Value) : OwnC t s (w.setCell ⟨g, i, none⟩ u) B v n us cs :=
  h.chg (Chg.store (lo := g) (hi := g + 1) u (Nat.le_refl _) (Nat.lt_succ_self _)) h.seg (.inr hg)
theorem OwnC.grown {t : TypeId} {s n : Nat} {w w' : World} {B : Nat} {v : Value} {us : List Value} {cs : List Cl} {v0 : Value} (h : OwnC t s w B v n us cs) (hg : w.grownBy w' v0.ownBlock) (hv : Sep v0 v) (hu : ∀ u ∈ us, Sep v0 u) : OwnC t s w' B v n us cs :=
  ⟨h.len, World.ownsRow.kept h.row hg hv.symm.ne, fun j u c hj hc => (h.cells j u c hj hc).grown hg (hu u (List.mem_of_getElem? hj)).symm.ne, h.apart, h.off⟩
theorem Blk.grownE {w w' : World} {g : Nat} {t : TypeId} {cs : Array Value} {v0 : Value} (h : Blk w g t cs) (hg : w.grownBy w' v0.ownBlock) (hne : ∀ k, v0.ownBlock = some k → k ≠ g) : Blk w' g t cs :=
  (hg.block g h.lt (fun e => hne g e.symm rfl)).trans h
/-- Exports of a call's own, in blocks from l up to r, none of which is that of v0. -/
def OwnE (w : World) (B l r : Nat) (v0 v : Value) (xs : List EL) : Prop := ∃ us, OwnC 70 5 w B v xs.length us (flatR encE xs) ∧ SegL v us l r ∧ Sep v0 v ∧ ∀ u ∈ us, Sep v0 u
def SegE (_ _ : Nat) : Prop := True
section
variable {w w' : World} {B l r : Nat} {v0 v : Value} {xs : List EL}
theorem OwnE.ext (h : OwnE w B l r v0 v xs) (hb : Below w.heap.size w w') : OwnE w' B l r v0 v xs := by
  obtain ⟨us, h1, h2, h3⟩ := h
  exact ⟨us, h1.ext hb, h2, h3⟩
theorem OwnE.chg {lo hi : Nat} (h : OwnE w B l r v0 v xs) (hc : Chg lo hi w w') (_ : SegE l r) (hd : r ≤ lo ∨ hi ≤ l) : OwnE w' B l r v0 v xs := by
  obtain ⟨us, h1, h2, h3⟩ := h
  exact ⟨us, h1.chg hc h2 hd, h2, h3⟩
theorem OwnE.seg (_ : OwnE w B l r v0 v xs) : SegE l r := trivial
theorem OwnE.form (h : OwnE w B l r v0 v xs) : ∃ A c, v = .slice A xs.length c := by
  obtain ⟨us, h1, -⟩ := h
  exact h1.form
theorem OwnE.seen (h : OwnE w B l r v0 v xs) : ExportsV w v xs := by
  obtain ⟨us, h1, -⟩ := h
  exact h1.seen
end
theorem Own.buffer {w : World} {B1 B2 l r : Nat} {v0 cv ev : Value} {U : BL} (h1 : Own w B1 cv U.cells) (h2 : OwnE w B2 l r v0 ev U.exports) : BufferV w (.agg #[cv, ev]) U := ⟨_, _, rfl, h1.ints, h2.seen⟩
/-- What a function that returns a new buffer leaves. -/
def RetBuffer (w : World) (U : BL) (e : Ending) (w' : World) : Prop := ∃ cv ev, e = .returned (.agg #[cv, ev]) ∧ Own w' w.heap.size cv U.cells ∧ OwnE w' w.heap.size w.heap.size w'.heap.size cv ev U.exports ∧ True ∧ Below w.heap.size w w'

set_option maxRecDepth 100000 in
set_option maxHeartbeats 800000 in
theorem szBuffer_ok (v : Value) (U : BL) (left : Nat) (w : World) (h : BufferV w v U) (hl : U.cells.length + szR lenE U.exports ≤ left) (h2 : left ≤ 1048576) :
    Calls Try.prog 15 #[v, .int .i64 left] w fun e w' => e = .returned (.int .i64 ((left - U.cells.length - szR lenE U.exports : Nat) : Int)) ∧ Below w.heap.size w w' := by
  obtain ⟨cv, ev, rfl, hc, he⟩ := h
  have hb0 := below_alloc w (.cells #[cv, ev] 37)
  have hZ := Blk.new w 37 #[cv, ev]
  go_enter Try.func15, Try.ntmps15
  go_upto_region 1 with fail
  generalize w.alloc (.cells #[cv, ev] 37) = w0 at *
  obtain ⟨⟨q0, q1⟩, -⟩ := id hZ.all2
  go_wp2_with fail
  refine (szIntS_ok _ U.cells left _ (hc.ext hb0) (by omega) h2).mono ?_; rintro e w' ⟨rfl, rfl⟩
  have hn0 : ¬ (((left - U.cells.length : Nat) : Int) < 0) := by omega
  have hr1 : szR lenE U.exports ≤ left - U.cells.length := by omega
  have hr2 : left - U.cells.length ≤ 1048576 := by omega
  generalize hz : left - U.cells.length = z at *
  have HZ := hid hz
  clear hz
  go_wp2_with fail
  refine (szExportS_ok _ U.exports z _ (he.ext hb0) hr1 hr2).mono ?_; rintro e w1 ⟨rfl, hb⟩
  have hn1 : ¬ (((z - szR lenE U.exports : Nat) : Int) < 0) := by omega
  generalize hy : z - szR lenE U.exports = y at *
  have HY := hid hy
  clear hy
  go_wp2
  go_ret
  exact ⟨ret_int (by rw [← HY.out, ← HZ.out]), hb0.nx hb hb0.size⟩

set_option maxRecDepth 100000 in
set_option maxHeartbeats 800000 in
theorem szBuffer_no (v : Value) (U : BL) (left : Nat) (w : World) (h : BufferV w v U) (hl : left < U.cells.length + szR lenE U.exports) (h2 : left ≤ 1048576) :
    Calls Try.prog 15 #[v, .int .i64 left] w fun e w' => e = .returned (.int .i64 (-1)) ∧ Below w.heap.size w w' := by
  obtain ⟨cv, ev, rfl, hc, he⟩ := h
  have hb0 := below_alloc w (.cells #[cv, ev] 37)
  have hZ := Blk.new w 37 #[cv, ev]
  go_enter Try.func15, Try.ntmps15
  go_upto_region 1 with fail
  generalize w.alloc (.cells #[cv, ev] 37) = w0 at *
  obtain ⟨⟨q0, q1⟩, -⟩ := id hZ.all2
  by_cases hle : U.cells.length ≤ left
  · go_wp2_with fail
    refine (szIntS_ok _ U.cells left _ (hc.ext hb0) (by omega) h2).mono ?_; rintro e w' ⟨rfl, rfl⟩
    have hn0 : ¬ (((left - U.cells.length : Nat) : Int) < 0) := by omega
    have hr1 : left - U.cells.length < szR lenE U.exports := by omega
    have hr2 : left - U.cells.length ≤ 1048576 := by omega
    generalize left - U.cells.length = z at *
    go_wp2_with fail
    refine (szExportS_no _ U.exports z _ (he.ext hb0) hr1 hr2).mono ?_; rintro e w1 ⟨rfl, hb⟩
    go_wp2
    go_ret
    exact ⟨rfl, hb0.nx hb hb0.size⟩
  · go_wp2_with fail
    refine (szIntS_no _ U.cells left _ (hc.ext hb0) (by omega) h2).mono ?_; rintro e w' ⟨rfl, rfl⟩
    go_wp2
    go_ret
    exact ⟨rfl, hb0⟩

set_option maxRecDepth 100000 in
set_option maxHeartbeats 800000 in
theorem eqBuffer_yes (v v' : Value) (U : BL) (w : World) (h : BufferV w v U) (h' : BufferV w v' U) :
    Calls Try.prog 20 #[v, v'] w fun e w' => e = .returned (.bool true) ∧ Below w.heap.size w w' := by
  obtain ⟨cv, ev, rfl, hc, he⟩ := h
  obtain ⟨cv', ev', rfl, hc', he'⟩ := h'
  have hb : Below w.heap.size w ((w.alloc (.cells #[cv, ev] 42)).alloc (.cells #[cv', ev'] 42)) := ((Below.refl _ _).alloc (Nat.le_refl _) _).alloc (by simp) _
  have hA := (Blk.new w 42 #[cv, ev]).alloc (.cells #[cv', ev'] 42)
  have hA2 := Blk.new (w.alloc (.cells #[cv, ev] 42)) 42 #[cv', ev']
  simp only [World.size_alloc] at hA2
  go_enter Try.func20, Try.ntmps20
  go_upto_region 1 with fail
  generalize (w.alloc (.cells #[cv, ev] 42)).alloc (.cells #[cv', ev'] 42) = w0 at *
  obtain ⟨⟨q0, q1⟩, -⟩ := id hA.all2
  obtain ⟨⟨r0, r1⟩, -⟩ := id hA2.all2
  go_wp2_with fail
  refine (eqIntS_yes _ _ U.cells _ (hc.ext hb) (hc'.ext hb)).mono ?_; rintro e w1 ⟨rfl, hb1⟩
  clear q0 q1 r0 r1
  have hb2 := hb.nx hb1 hb.size
  have hA := hA.ext hb1 hA.lt
  have hA2 := hA2.ext hb1 hA2.lt
  clear hb1
  obtain ⟨⟨q0, q1⟩, -⟩ := id hA.all2
  obtain ⟨⟨r0, r1⟩, -⟩ := id hA2.all2
  go_wp2_with fail
  refine (eqExportS_yes _ _ U.exports _ (he.ext hb2) (he'.ext hb2)).mono ?_; rintro e w2 ⟨rfl, hb3⟩
  go_wp2
  go_ret
  exact ⟨rfl, hb2.nx hb3 hb2.size⟩

set_option maxRecDepth 100000 in
set_option maxHeartbeats 6400000 in
theorem toBuffer_any (v : Value) (U : BL) (w : World) (h : BufferV w v U) (hl1 : U.cells.length ≤ 1048576) (hl2 : szR lenE U.exports ≤ 1048576) :
    Calls Try.prog 17 #[v] w (RetBuffer w U) := by
  obtain ⟨cv, ev, rfl, hc, he⟩ := h
  have hA := ((Blk.new w 37 #[cv, ev]).alloc (.cells #[.slice none 0 0, .slice none 0 0] 42)).alloc (.cells #[.slice none 0 0, .slice none 0 0] 42)
  have hR := (Blk.new (w.alloc (.cells #[cv, ev] 37)) 42 #[.slice none 0 0, .slice none 0 0]).alloc (.cells #[.slice none 0 0, .slice none 0 0] 42)
  have hO := Blk.new ((w.alloc (.cells #[cv, ev] 37)).alloc (.cells #[.slice none 0 0, .slice none 0 0] 42)) 42 #[.slice none 0 0, .slice none 0 0]
  have hW : Below w.heap.size w (((w.alloc (.cells #[cv, ev] 37)).alloc (.cells #[.slice none 0 0, .slice none 0 0] 42)).alloc (.cells #[.slice none 0 0, .slice none 0 0] 42)) := (((Below.refl _ _).alloc (Nat.le_refl _) _).alloc (by simp) _).alloc (by simp <;> omega) _
  simp only [World.size_alloc] at hR hO
  have hsz : (((w.alloc (.cells #[cv, ev] 37)).alloc (.cells #[.slice none 0 0, .slice none 0 0] 42)).alloc (.cells #[.slice none 0 0, .slice none 0 0] 42)).heap.size = w.heap.size + 3 := by simp
  go_enter Try.func17, Try.ntmps17
  go_upto_region 2 with fail
  generalize (((w.alloc (.cells #[cv, ev] 37)).alloc (.cells #[.slice none 0 0, .slice none 0 0] 42)).alloc (.cells #[.slice none 0 0, .slice none 0 0] 42)) = w0 at *
  have HSZ := hid hsz
  clear hsz
  obtain ⟨⟨q0, q1⟩, -⟩ := id hA.all2
  go_wp2_with fail
  refine (toIntS_any _ U.cells _ (hc.ext hW) hl1).mono ?_; rintro e w1 ⟨s1, rfl, ho, hb1⟩
  have hz1 : w.heap.size + 3 ≤ w1.heap.size := by have := hb1.size; have := HSZ.out; omega
  have hA1 := hA.ext hb1 hA.lt
  have hR1 := hR.ext hb1 hR.lt
  have hO1 := hO.ext hb1 hO.lt
  have hsg := ho.seg
  have ho1 := ho.mono (B' := w.heap.size + 3) (Nat.le_of_eq HSZ.out.symm)
  have hbw1 := hW.nx hb1 (by have := HSZ.out; omega)
  obtain ⟨A1, c1, rfl⟩ := ho.form
  clear q0 q1 ho hb1 hA hR hO hW hc
  have ho2 := ho1.far (p := ⟨w.heap.size + 1 + 1, 0, none⟩) (by simp) (.slice A1 U.cells.length c1)
  have hA2 := hA1.far (p := ⟨w.heap.size + 1 + 1, 0, none⟩) (by show w.heap.size ≠ w.heap.size + 1 + 1; omega) (.slice A1 U.cells.length c1)
  have hR2 := hR1.far (p := ⟨w.heap.size + 1 + 1, 0, none⟩) (by show w.heap.size + 1 ≠ w.heap.size + 1 + 1; omega) (.slice A1 U.cells.length c1)
  have hO2 := hO1.set_ 0 (.slice A1 U.cells.length c1)
  have hbw2 := hbw1.setCell (p := ⟨w.heap.size + 1 + 1, 0, none⟩) (by simp <;> omega) (.slice A1 U.cells.length c1)
  simp only [List.setIfInBounds_toArray, List.set_cons_zero] at hO2
  have hz2 : (w1.setCell ⟨w.heap.size + 1 + 1, 0, none⟩ (.slice A1 U.cells.length c1)).heap.size = w1.heap.size := by simp
  obtain ⟨⟨q0, q1⟩, -⟩ := id hA1.all2
  obtain ⟨⟨o0, o1⟩, p0, p1⟩ := id hO1.all2
  go_upto_region 3 with fail
  clear q0 q1 o0 o1 p0 p1 hA1 hR1 hO1 hbw1 ho1
  generalize w1.setCell ⟨w.heap.size + 1 + 1, 0, none⟩ (.slice A1 U.cells.length c1) = w2 at *
  have HZ2 := hid hz2
  clear hz2
  obtain ⟨⟨q0, q1⟩, -⟩ := id hA2.all2
  go_wp2_with fail
  refine (toExportS_any _ U.exports _ (he.ext hbw2) hl2).mono ?_; rintro e w3 ⟨v3, us, rfl, hown, hb3⟩
  have hz3 : w2.heap.size ≤ w3.heap.size := hb3.size
  have hR3 := hR2.ext hb3 hR2.lt
  have hO3 := hO2.ext hb3 hO2.lt
  have ho3 := ho2.ext hb3
  have hbw3 := hbw2.nx hb3 hbw2.size
  have hseg := hown.seg
  have hsep1 := Seg.sep hsg hseg.1 (by have := HZ2.out; omega)
  have hsep2 := fun u hu => Seg.sep hsg (hseg.2 u hu) (by have := HZ2.out; omega)
  obtain ⟨A3, c3, e3⟩ := hown.form
  subst e3
  have HE := hid (And.intro hown (And.intro hseg (And.intro hsep1 hsep2)))
  have HO := hid (And.intro ho3 hbw3)
  have HZ := hid (show w.heap.size + 3 ≤ w2.heap.size by have := HZ2.out; omega)
  clear q0 q1 hown hseg hsep1 hsep2 ho3 hbw3 hb3 hR2 hO2 ho2 hbw2 hA2 hsg he
  obtain ⟨⟨r0, r1⟩, s0, s1⟩ := id hR3.all2
  obtain ⟨⟨o0, o1⟩, p0, p1⟩ := id hO3.all2
  go_wp2
  refine bodyPost_ret (v := .agg #[.slice A1 U.cells.length c1, .slice A3 U.exports.length c3]) (by simp [results, Try.results17, go_sem, r0, r1]) rfl ⟨_, _, rfl, ?_, ⟨us, ?_, ?_, HE.out.2.2.1, HE.out.2.2.2⟩, trivial, ?_⟩
  · refine Own.mono (B := w.heap.size + 3) ?_ (by omega)
    iterate 3 (refine Own.far ?_ (by simp <;> omega) _)
    exact HO.out.1
  · refine OwnC.mono (B := w2.heap.size) ?_ (by have := HZ.out; omega)
    iterate 3 (refine OwnC.far ?_ (by have := HZ.out; omega) _)
    exact HE.out.1
  · have h := HE.out.2.1
    have hzz := HZ.out
    exact ⟨h.1.mono (by omega) (by simp), fun u hu => (h.2 u hu).mono (by omega) (by simp)⟩
  · iterate 3 (refine Below.setCell ?_ (by simp <;> omega) _)
    exact HO.out.2

set_option maxRecDepth 100000 in
set_option maxHeartbeats 6400000 in
theorem markBuffer_any (cv ev : Value) (U : BL) (k0 B lo hi : Nat) (w : World) (hs : Own w B cv U.cells) (ht : OwnE w B lo hi cv ev U.exports) (g1 : Seg cv lo hi)
    (hl1 : U.cells.length ≤ 1048576) (hl2 : szR lenE U.exports ≤ 1048576) (hk0 : k0 ≤ 5000000) :
    Calls Try.prog 21 #[.agg #[cv, ev], .int .i64 k0] w fun e w' => e = .returned (.int .i64 ((k0 + U.cells.length + 3 * U.exports.length + wTo lenE U.exports U.exports.length : Nat) : Int)) ∧ Chg lo hi w w' := by
  obtain ⟨us, hown, hsg, hsp, hsp2⟩ := ht
  have hb0 := below_alloc w (.cells #[cv, ev] 42)
  have hZ := Blk.new w 42 #[cv, ev]
  have hs0 := hs
  have hs := hs.ext hb0
  have hown := hown.ext hb0
  have hc0 := Chg.of_below hb0 lo hi
  have HNB : ∀ k, cv.ownBlock = some k → k ≠ w.heap.size := fun k e => by have := (hs0.lt k e).2; omega
  go_enter Try.func21, Try.ntmps21
  go_upto_region 1 with fail
  generalize w.alloc (.cells #[cv, ev] 42) = w0 at *
  obtain ⟨⟨q0, q1⟩, -⟩ := id hZ.all2
  obtain ⟨A1, c1, rfl⟩ := hs.form
  obtain ⟨A2, c2, e2⟩ := hown.form
  subst e2
  go_wp2_with fail
  refine (markIntS_any _ U.cells k0 B _ hs hl1 (by omega)).mono ?_; rintro e w1 ⟨rfl, ho1, hg⟩
  have hZ1 : Blk w1 w.heap.size 42 #[.slice A1 U.cells.length c1, .slice A2 U.exports.length c2] := hZ.grownE hg (fun k e => HNB k e)
  have hown1 := hown.grown hg hsp hsp2
  have hc1 := hc0.trans (Chg.of_grown hg g1)
  obtain ⟨m, hm⟩ : ∃ m : Nat, m = k0 + U.cells.length := ⟨_, rfl⟩
  rw [← hm]
  have HM := hid hm
  have hmb : m ≤ 10000000 := by omega
  clear hm q0 q1
  obtain ⟨⟨q0, q1⟩, -⟩ := id hZ1.all2
  go_wp2_with fail
  refine (markExportS_any _ us U.exports m B lo hi _ hown1 hsg hl2 hmb).mono ?_; rintro e w2 ⟨rfl, hc2⟩
  rw [HM.out]
  go_wp2
  go_ret
  exact ⟨rfl, hc1.trans hc2⟩

end Go.Proofs.Ytfiphjifnjnmbaa
