/- Contract: a drawn format with an item. No conditions. -/
import Derived.Test.YtmiamnaholnnoaaFI1
import Derived.Test.YtmiamnaholnnoaaFP1
namespace Go.Proofs.Ytmiamnaholnnoaa
open Go.RowKit

/-- What a draw of a format and of numbers leaves. -/
def RetDrawFI (w : World) (m : Nat) (e : Ending) (w' : World) : Prop := ∃ (F : FL) (sv vv : Value) (vs : List Int), e = .returned (.tuple #[.agg #[sv, .bool F.big, .bool F.aligned], vv]) ∧ F.sizes.length ≤ 5 ∧
  Ints w' sv F.sizes ∧ Ints w' vv vs ∧ vs.length ≤ m ∧ Below w.heap.size w w'
/-- Numbers that lie outside a block that is written. -/
theorem Ints.away {w w' : World} {v : Value} {xs : List Int} (h : Ints w v xs) {row : Option Nat} (hg : w.grownBy w' row) (hn : ∀ k, v.ownBlock = some k → row ≠ some k) : Ints w' v xs := by
  obtain ⟨A, c, rfl, h1, h2, h3⟩ := h
  refine ⟨A, c, rfl, h1, h2, fun h => ?_⟩
  obtain ⟨b, off, rfl, hb, hc⟩ := h3 h
  refine ⟨b, off, rfl, Nat.lt_of_lt_of_le hb hg.size, fun j x hx => ?_⟩
  rw [hg.cell_far ⟨b, off + j, none⟩ hb (fun e => hn b rfl e.symm)]
  exact hc j x hx
theorem ints3 {w : World} {v : Value} {xs : List Int} {m : Nat} (h : Ints w v xs) (hn : ∀ k, v.ownBlock = some k → k ≠ m) (a b c : Value) : Ints (((w.setCell ⟨m, 0, none⟩ a).setCell ⟨m, 1, none⟩ b).setCell ⟨m, 2, none⟩ c) v xs := by
  have h1 := h.away (grown_set w ⟨m, 0, none⟩ a) (fun k e e2 => hn k e (by injection e2 with e2; exact e2.symm))
  have h2 := h1.away (grown_set _ ⟨m, 1, none⟩ b) (fun k e e2 => hn k e (by injection e2 with e2; exact e2.symm))
  exact h2.away (grown_set _ ⟨m, 2, none⟩ c) (fun k e e2 => hn k e (by injection e2 with e2; exact e2.symm))

set_option maxRecDepth 100000 in
set_option maxHeartbeats 6400000 in
theorem DrawPackItem_any (v : Value) (n : Nat) (w : World) (h : BytesV w v n) :
    Calls Try.prog 17 #[v] w (RetDrawFI w 5) := by
  have hb0 := below_alloc w (.cells #[.slice none 0 0, .bool false, .bool false] 25)
  have hZ := Blk.new w 25 #[.slice none 0 0, .bool false, .bool false]
  have h1 := h.ext hb0
  have hz0 : w.heap.size + 1 ≤ (w.alloc (.cells #[.slice none 0 0, .bool false, .bool false] 25)).heap.size := by simp
  go_enter Try.func17, Try.ntmps17
  go_wp2_with fail
  generalize (w.alloc (.cells #[.slice none 0 0, .bool false, .bool false] 25)) = w0 at *
  refine (newReader_any _ n _ h1).mono ?_; rintro e w1 ⟨rfl, hR, hb1, hlt⟩
  go_wp2_with fail
  refine (someFormat_any _ _ _ _ hR (by omega)).mono ?_; rintro e w2 ⟨F, sv, q, rfl, hl, hx, hO, hq, hR2, hG2⟩
  have hz1 := hb1.size
  have hz2 := hG2.size
  have hZ2 := (hZ.nx hb1).grown hG2 (by omega)
  have hB2 : Below w.heap.size w w2 := (hb0.nx hb1 hb0.size).trans (Own.below hG2 (by omega) (fun k e => by injection e with e; omega))
  obtain ⟨A, c, rfl⟩ := hO.form
  have hS2 : IntsN w0.heap.size w2 (.slice A F.sizes.length c) F.sizes := IntsN.of_own hO (by omega)
  have hb3 := below_alloc w2 (.cells #[.slice A F.sizes.length c, .bool F.big, .bool F.aligned] 25)
  have hX := Blk.new w2 25 #[.slice A F.sizes.length c, .bool F.big, .bool F.aligned]
  have hz3 : w2.heap.size + 1 ≤ (w2.alloc (.cells #[.slice A F.sizes.length c, .bool F.big, .bool F.aligned] 25)).heap.size := by simp
  have HR3 := hid (hR2.nx hb3)
  have HZ3 := hid (hZ2.nx hb3)
  have HS3 := hid (hS2.nx hb3)
  have HB3 := hid (hB2.nx hb3 hB2.size)
  have hsb : ∀ k, (Value.slice A F.sizes.length c).ownBlock = some k → k ≠ w.heap.size := fun k e => by have := (hO.lt k e).1; omega
  have HSB := hid hsb
  clear hZ hZ2 hb0 hb1 hG2 hR2 hB2 hO hx hS2 hb3 hR h1 hsb
  have HL := hid hl
  clear hl
  go_upto_region 3 with fail
  generalize (w2.alloc (.cells #[.slice A F.sizes.length c, .bool F.big, .bool F.aligned] 25)) = w3 at *
  obtain ⟨⟨p0, p1, p2⟩, pf0, pf1, pf2⟩ := HZ3.out.all3
  obtain ⟨⟨q0, q1, q2⟩, -⟩ := id hX.all3
  have HRa := hid (HR3.out.nx (below_drew w3))
  have HZa := hid (HZ3.out.nx (below_drew w3))
  have HXa := hid (hX.nx (below_drew w3))
  have HSa := hid (HS3.out.nx (below_drew w3))
  go_region_law (first
    | (rw [if_pos (wanted_of (by rfl))]; go_simp; go_at_call 45; refine (someItem_any _ _ q _ F w3.drew HRa.out (by omega) HSa.out HL.out).mono ?_; rintro e w5 ⟨u, xs, q5, rfl, hl5, hI5, hb5, hq5, hR5, hG5⟩
       have hZ5 := HZa.out.grown hG5 (by omega); obtain ⟨⟨s0, s1, s2⟩, sf0, sf1, sf2⟩ := id hZ5.all3; have HZ5 := hid hZ5; obtain ⟨⟨x0, x1, x2⟩, -⟩ := (HXa.out.grown hG5 (by omega)).all3
       have HB5 := hid ((HB3.out.nx (below_drew w3) HB3.out.size).trans (Own.below hG5 (by show w.heap.size ≤ w3.drew.heap.size; exact HB3.out.size) (fun k e => by injection e with e; omega)))
       have HI5 := hid hI5; have HS5 := hid (HSa.out.grown hG5); have HR5 := hid hb5
       clear hG5 hZ5 hI5 hR5 hb5
       go_simp))
  all_goals
    obtain ⟨⟨t0, t1, t2⟩, -⟩ := (HZ5.out.store3 (.slice A F.sizes.length c) (.bool F.big) (.bool F.aligned)).all3
    clear p0 p1 p2 pf0 pf1 pf2 q0 q1 q2 s0 s1 s2 sf0 sf1 sf2 x0 x1 x2 hX
    go_wp2
    refine bodyPost_ret (v := .tuple #[.agg #[.slice A F.sizes.length c, .bool F.big, .bool F.aligned], u]) (by simp [results, Try.results17, go_sem, t0, t1, t2]) rfl ?_
    exact ⟨F, _, u, xs, rfl, HL.out, ints3 HS5.out.1 HSB.out _ _ _, ints3 HI5.out.1 (fun k e => by have : w3.heap.size ≤ k := HR5.out k e; omega) _ _ _, hl5, below3 HB5.out (Nat.le_refl _) _ _ _⟩

end Go.Proofs.Ytmiamnaholnnoaa
