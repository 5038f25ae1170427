/- Contract: a drawn number with two slices. No conditions. -/
import Derived.Test.YtldblcolnjkcaaaDS1
import Derived.Test.YtldblcolnjkcaaaMS1
namespace Go.Proofs.Ytldblcolnjkcaaa
open Go.RowKit

/-- What stands while two structs are drawn: the reader, the two results' boxes. -/
def DTwo (g : Nat) (w : World) (T1 T2 : TypeId) (z1 z2 : Array Value) (wx : World) (q : Nat) : Prop :=
  w.heap.size + 1 < g ∧ Rd g wx g q ∧ Below w.heap.size w wx ∧ Blk wx w.heap.size T1 z1 ∧ Blk wx (w.heap.size + 1) T2 z2
section
variable {g q p : Nat} {w wx wy : World} {T1 T2 : TypeId} {z1 z2 : Array Value}
theorem DTwo.rd (h : DTwo g w T1 T2 z1 z2 wx q) : Rd g wx g q := h.2.1
theorem DTwo.nx (h : DTwo g w T1 T2 z1 z2 wx q) (hb : Below wx.heap.size wx wy) : DTwo g w T1 T2 z1 z2 wy q :=
  ⟨h.1, h.2.1.nx hb, h.2.2.1.nx hb h.2.2.1.size, h.2.2.2.1.nx hb, h.2.2.2.2.nx hb⟩
theorem DTwo.ate (h : DTwo g w T1 T2 z1 z2 wx q) (hR : Rd g wy g p) (hG : wx.grownBy wy (some g)) : DTwo g w T1 T2 z1 z2 wy p := by
  have h0 := h.1
  exact ⟨h.1, hR, h.2.2.1.trans (Own.below hG h.2.2.1.size (fun k e => by injection e with e; omega)), h.2.2.2.1.grown hG (by omega), h.2.2.2.2.grown hG (by omega)⟩
end
/-- What a draw of a number and two slices leaves. -/
def RetDrawNSS (w : World) (e : Ending) (w' : World) : Prop := ∃ (n : Int) (a b : SL), e = .returned (.tuple #[.int .i64 n, a.val, b.val]) ∧ (0 ≤ n ∧ n ≤ 61) ∧ slBd a ∧ slBd b ∧ Below w.heap.size w w'
theorem slBd.ok {S : SL} (h : slBd S) : S.ok := by
  obtain ⟨h1, h2, h3⟩ := h
  refine ⟨?_, ?_, ?_⟩ <;> unfold inI64 <;> omega

set_option maxRecDepth 100000 in
set_option maxHeartbeats 6400000 in
theorem DrawMergeSlices_any (v : Value) (n : Nat) (w : World) (h : BytesV w v n) :
    Calls Try.prog 22 #[v] w (RetDrawNSS w) := by
  have hZ1 := (Blk.new w 33 #[.int .i64 0, .int .i64 0, .int .i64 0, .bool false, .bool false]).alloc (.cells #[.int .i64 0, .int .i64 0, .int .i64 0, .bool false, .bool false] 33)
  have hZ2 := Blk.new (w.alloc (.cells #[.int .i64 0, .int .i64 0, .int .i64 0, .bool false, .bool false] 33)) 33 #[.int .i64 0, .int .i64 0, .int .i64 0, .bool false, .bool false]
  have hb0 : Below w.heap.size w ((w.alloc (.cells #[.int .i64 0, .int .i64 0, .int .i64 0, .bool false, .bool false] 33)).alloc (.cells #[.int .i64 0, .int .i64 0, .int .i64 0, .bool false, .bool false] 33)) := ((Below.refl _ _).alloc (Nat.le_refl _) _).alloc (by simp) _
  have hz0 : w.heap.size + 1 < ((w.alloc (.cells #[.int .i64 0, .int .i64 0, .int .i64 0, .bool false, .bool false] 33)).alloc (.cells #[.int .i64 0, .int .i64 0, .int .i64 0, .bool false, .bool false] 33)).heap.size := by simp
  simp only [World.size_alloc] at hZ2
  have h1 := h.ext hb0
  go_enter Try.func22, Try.ntmps22
  go_upto_region 1 with fail
  generalize ((w.alloc (.cells #[.int .i64 0, .int .i64 0, .int .i64 0, .bool false, .bool false] 33)).alloc (.cells #[.int .i64 0, .int .i64 0, .int .i64 0, .bool false, .bool false] 33)) = w0 at *
  go_wp2_with fail
  refine (newReader_any _ n _ h1).mono ?_; rintro e w1 ⟨rfl, hR, hb1, hlt⟩
  have HM1 := hid (show DTwo w0.heap.size w 33 33 #[.int .i64 0, .int .i64 0, .int .i64 0, .bool false, .bool false] #[.int .i64 0, .int .i64 0, .int .i64 0, .bool false, .bool false] w1 0 from ⟨hz0, hR, hb0.nx hb1 hb0.size, hZ1.nx hb1, hZ2.nx hb1⟩)
  obtain ⟨g, hg⟩ : ∃ g, g = w0.heap.size := ⟨_, rfl⟩
  rw [← hg] at HM1 ⊢
  clear hR hb0 hb1 hZ1 hZ2 h1 h hg hz0 hlt
  go_wp2_with fail
  refine (pick_any _ _ (0) 20 _ HM1.out.rd (by omega) (by omega)).mono ?_; rintro e w2 ⟨r1, rfl, hr1, hR, hG⟩
  have HM2 := hid (HM1.out.ate hR hG)
  clear hR hG
  have hL : Own (w2.alloc (.cells #[.int .i64 10, .int .i64 6, .int .i64 15, .int .i64 (r1 : Int), .int .i64 0, .int .i64 1, .int .i64 61] 3)) w2.heap.size (.slice (some ⟨w2.heap.size, 0, none⟩) 7 7) [10, 6, 15, (r1 : Int), 0, 1, 61] := own_lit w2 [10, 6, 15, (r1 : Int), 0, 1, 61] (by simp)
  have HA := hid (HM2.out.nx (below_alloc w2 (.cells #[.int .i64 10, .int .i64 6, .int .i64 15, .int .i64 (r1 : Int), .int .i64 0, .int .i64 1, .int .i64 61] 3)))
  have HE := hid (HM2.out.rd.lit 7 7)
  go_wp2_with fail
  refine (one_any _ _ (0 + 1) _ _ _ _ HA.out.rd (by omega) hL (by simp) HE.out).mono ?_; rintro e w3 ⟨r, hr, rfl, hR, hG⟩
  have HM3 := hid (HA.out.ate hR hG)
  obtain ⟨y, ey, hy⟩ : ∃ y : Int, [10, 6, 15, (r1 : Int), 0, 1, 61][r] = y ∧ y ∈ ([10, 6, 15, (r1 : Int), 0, 1, 61] : List Int) := ⟨_, rfl, List.getElem_mem hr⟩
  rw [ey]
  clear hR hG ey hr hL HA HE
  have hy : 0 ≤ y ∧ y ≤ 61 := by simp at hy; omega
  have HY := hid hy
  clear hy
  go_wp2_with fail
  refine (someSlice_any _ _ _ _ HM3.out.rd (by omega)).mono ?_; rintro e w4 ⟨a, q4, rfl, hba, hq4, hR, hG⟩
  have HM4 := hid (HM3.out.ate hR hG)
  clear hR hG
  go_wp2_with fail
  refine (someSlice_any _ _ _ _ HM4.out.rd (by omega)).mono ?_; rintro e w5 ⟨b, q5, rfl, hbb, hq5, hR, hG⟩
  have HM5 := hid (HM4.out.ate hR hG)
  clear hR hG
  have HBA := hid hba
  have HBB := hid hbb
  clear hba hbb
  obtain ⟨a_f, a_t, a_b, a_hf, a_ht⟩ := a
  obtain ⟨b_f, b_t, b_b, b_hf, b_ht⟩ := b
  simp only [SL.val]
  have hA := HM5.out.2.2.2.1
  have hB := HM5.out.2.2.2.2
  have hA1 := hA.store5 (.int .i64 a_f) (.int .i64 a_t) (.int .i64 a_b) (.bool a_hf) (.bool a_ht)
  obtain ⟨⟨z0, z1, z2, z3, z4⟩, zf0, zf1, zf2, zf3, zf4⟩ := id hA.all5
  obtain ⟨⟨y0, y1, y2, y3, y4⟩, yf0, yf1, yf2, yf3, yf4⟩ := id hB.all5
  have hne : w.heap.size + 1 ≠ w.heap.size := by omega
  have hB1 := ((((hB.far (p := ⟨w.heap.size, 0, none⟩) hne (.int .i64 a_f)).far (p := ⟨w.heap.size, 1, none⟩) hne (.int .i64 a_t)).far (p := ⟨w.heap.size, 2, none⟩) hne (.int .i64 a_b)).far (p := ⟨w.heap.size, 3, none⟩) hne (.bool a_hf)).far (p := ⟨w.heap.size, 4, none⟩) hne (.bool a_ht)
  have hB2 := hB1.store5 (.int .i64 b_f) (.int .i64 b_t) (.int .i64 b_b) (.bool b_hf) (.bool b_ht)
  have hne2 : w.heap.size ≠ w.heap.size + 1 := by omega
  have hA2 := ((((hA1.far (p := ⟨w.heap.size + 1, 0, none⟩) hne2 (.int .i64 b_f)).far (p := ⟨w.heap.size + 1, 1, none⟩) hne2 (.int .i64 b_t)).far (p := ⟨w.heap.size + 1, 2, none⟩) hne2 (.int .i64 b_b)).far (p := ⟨w.heap.size + 1, 3, none⟩) hne2 (.bool b_hf)).far (p := ⟨w.heap.size + 1, 4, none⟩) hne2 (.bool b_ht)
  obtain ⟨⟨s0, s1, s2, s3, s4⟩, -⟩ := id hA2.all5
  obtain ⟨⟨t0, t1, t2, t3, t4⟩, -⟩ := id hB2.all5
  clear hA hB hA1 hB1 hA2 hB2
  go_wp2
  refine bodyPost_ret (v := .tuple #[.int .i64 y, .agg #[.int .i64 a_f, .int .i64 a_t, .int .i64 a_b, .bool a_hf, .bool a_ht], .agg #[.int .i64 b_f, .int .i64 b_t, .int .i64 b_b, .bool b_hf, .bool b_ht]]) (by simp [results, Try.results22, go_sem, s0, s1, s2, s3, s4, t0, t1, t2, t3, t4]) rfl ?_
  exact ⟨y, ⟨a_f, a_t, a_b, a_hf, a_ht⟩, ⟨b_f, b_t, b_b, b_hf, b_ht⟩, rfl, HY.out, HBA.out, HBB.out, below5 (below5 HM5.out.2.2.1 (Nat.le_refl _) _ _ _ _ _) (by omega) _ _ _ _ _⟩

end Go.Proofs.Ytldblcolnjkcaaa
