/- Contracts: a drawn range with a slice; ranges in normal form; ranges that cover. No conditions. -/
import Derived.Test.YtldblcolnjkcaaaSR1
import Derived.Test.YtldblcolnjkcaaaDS2
import Derived.Test.YtldblcolnjkcaaaMS3
import Derived.Test.YtldblcolnjkcaaaCF
import Derived.Test.YtldblcolnjkcaaaE1a
namespace Go.Proofs.Ytldblcolnjkcaaa
open Go.RowKit

/-- What a draw of a range and a slice leaves. -/
def RetDrawRS (w : World) (e : Ending) (w' : World) : Prop := ∃ (r : RL) (s : SL), e = .returned (.tuple #[r.val, s.val]) ∧ rgBd r ∧ slBd s ∧ Below w.heap.size w w'
theorem rgBd.ok {r : RL} (h : rgBd r) : r.ok := by
  obtain ⟨h1, h2, h3⟩ := h
  refine ⟨?_, ?_, ?_⟩ <;> unfold inI64 <;> omega

set_option maxRecDepth 100000 in
set_option maxHeartbeats 6400000 in
theorem DrawSliceRange_any (v : Value) (n : Nat) (w : World) (h : BytesV w v n) :
    Calls Try.prog 44 #[v] w (RetDrawRS w) := by
  have hZ1 := (Blk.new w 56 #[.int .i64 0, .int .i64 0, .int .i64 0]).alloc (.cells #[.int .i64 0, .int .i64 0, .int .i64 0, .bool false, .bool false] 33)
  have hZ2 := Blk.new (w.alloc (.cells #[.int .i64 0, .int .i64 0, .int .i64 0] 56)) 33 #[.int .i64 0, .int .i64 0, .int .i64 0, .bool false, .bool false]
  have hb0 : Below w.heap.size w ((w.alloc (.cells #[.int .i64 0, .int .i64 0, .int .i64 0] 56)).alloc (.cells #[.int .i64 0, .int .i64 0, .int .i64 0, .bool false, .bool false] 33)) := ((Below.refl _ _).alloc (Nat.le_refl _) _).alloc (by simp) _
  have hz0 : w.heap.size + 1 < ((w.alloc (.cells #[.int .i64 0, .int .i64 0, .int .i64 0] 56)).alloc (.cells #[.int .i64 0, .int .i64 0, .int .i64 0, .bool false, .bool false] 33)).heap.size := by simp
  simp only [World.size_alloc] at hZ2
  have h1 := h.ext hb0
  go_enter Try.func44, Try.ntmps44
  go_upto_region 1 with fail
  generalize ((w.alloc (.cells #[.int .i64 0, .int .i64 0, .int .i64 0] 56)).alloc (.cells #[.int .i64 0, .int .i64 0, .int .i64 0, .bool false, .bool false] 33)) = w0 at *
  go_wp2_with fail
  refine (newReader_any _ n _ h1).mono ?_; rintro e w1 ⟨rfl, hR, hb1, hlt⟩
  have HM1 := hid (show DTwo w0.heap.size w 56 33 #[.int .i64 0, .int .i64 0, .int .i64 0] #[.int .i64 0, .int .i64 0, .int .i64 0, .bool false, .bool false] w1 0 from ⟨hz0, hR, hb0.nx hb1 hb0.size, hZ1.nx hb1, hZ2.nx hb1⟩)
  obtain ⟨g, hg⟩ : ∃ g, g = w0.heap.size := ⟨_, rfl⟩
  rw [← hg] at HM1 ⊢
  clear hR hb0 hb1 hZ1 hZ2 h1 h hg hz0 hlt
  go_wp2_with fail
  refine (someRange_any _ _ _ _ HM1.out.rd (by omega)).mono ?_; rintro e w4 ⟨a, q4, rfl, hba, hq4, hR, hG⟩
  have HM4 := hid (HM1.out.ate hR hG)
  clear hR hG
  go_wp2_with fail
  refine (someSlice_any _ _ _ _ HM4.out.rd (by omega)).mono ?_; rintro e w5 ⟨b, q5, rfl, hbb, hq5, hR, hG⟩
  have HM5 := hid (HM4.out.ate hR hG)
  clear hR hG
  have HBA := hid hba
  have HBB := hid hbb
  clear hba hbb
  obtain ⟨ra, rb, rs⟩ := a
  obtain ⟨b_f, b_t, b_b, b_hf, b_ht⟩ := b
  simp only [SL.val, RL.val]
  have hA := HM5.out.2.2.2.1
  have hB := HM5.out.2.2.2.2
  have hA1 := hA.store3 (.int .i64 ra) (.int .i64 rb) (.int .i64 rs)
  obtain ⟨⟨z0, z1, z2⟩, zf0, zf1, zf2⟩ := id hA.all3
  obtain ⟨⟨y0, y1, y2, y3, y4⟩, yf0, yf1, yf2, yf3, yf4⟩ := id hB.all5
  have hne : w.heap.size + 1 ≠ w.heap.size := by omega
  have hB1 := ((hB.far (p := ⟨w.heap.size, 0, none⟩) hne (.int .i64 ra)).far (p := ⟨w.heap.size, 1, none⟩) hne (.int .i64 rb)).far (p := ⟨w.heap.size, 2, none⟩) hne (.int .i64 rs)
  have hB2 := hB1.store5 (.int .i64 b_f) (.int .i64 b_t) (.int .i64 b_b) (.bool b_hf) (.bool b_ht)
  have hne2 : w.heap.size ≠ w.heap.size + 1 := by omega
  have hA2 := ((((hA1.far (p := ⟨w.heap.size + 1, 0, none⟩) hne2 (.int .i64 b_f)).far (p := ⟨w.heap.size + 1, 1, none⟩) hne2 (.int .i64 b_t)).far (p := ⟨w.heap.size + 1, 2, none⟩) hne2 (.int .i64 b_b)).far (p := ⟨w.heap.size + 1, 3, none⟩) hne2 (.bool b_hf)).far (p := ⟨w.heap.size + 1, 4, none⟩) hne2 (.bool b_ht)
  obtain ⟨⟨s0, s1, s2⟩, -⟩ := id hA2.all3
  obtain ⟨⟨t0, t1, t2, t3, t4⟩, -⟩ := id hB2.all5
  clear hA hB hA1 hB1 hA2 hB2
  go_wp2
  refine bodyPost_ret (v := .tuple #[.agg #[.int .i64 ra, .int .i64 rb, .int .i64 rs], .agg #[.int .i64 b_f, .int .i64 b_t, .int .i64 b_b, .bool b_hf, .bool b_ht]]) (by simp [results, Try.results44, go_sem, s0, s1, s2, t0, t1, t2, t3, t4]) rfl ?_
  exact ⟨⟨ra, rb, rs⟩, ⟨b_f, b_t, b_b, b_hf, b_ht⟩, rfl, HBA.out, HBB.out, below5 (below3 HM5.out.2.2.1 (Nat.le_refl _) _ _ _) (by omega) _ _ _ _ _⟩

set_option maxRecDepth 100000 in
set_option maxHeartbeats 6400000 in
theorem NormalRange_any (r : RL) (w : World) (h : okRg r = true) (hk : r.ok) (hl : (numsR r).length ≤ 1000) :
    Calls Try.prog 50 #[r.val] w fun e w' => e = .returned (normL (numsR r)).val ∧ Below w.heap.size w w' := by
  have HR := hid h
  have HK := hid hk
  have hb := okRg_and h
  have HIN := hid (nums_in h)
  have HL := hid hl
  obtain ⟨NR, hNR⟩ : ∃ NR, normL (numsR r) = NR := ⟨_, rfl⟩
  rw [hNR]
  have HNR := hid hNR
  clear hNR
  obtain ⟨xa, xb, xs⟩ := NR
  obtain ⟨a, b, s⟩ := r
  simp only at hb
  simp only [RL.val]
  have hA := (Blk.new w 56 #[.int .i64 a, .int .i64 b, .int .i64 s]).alloc (.cells #[.int .i64 0, .int .i64 0, .int .i64 0] 56)
  have hZ := Blk.new (w.alloc (.cells #[.int .i64 a, .int .i64 b, .int .i64 s] 56)) 56 #[.int .i64 0, .int .i64 0, .int .i64 0]
  have hW : Below w.heap.size w ((w.alloc (.cells #[.int .i64 a, .int .i64 b, .int .i64 s] 56)).alloc (.cells #[.int .i64 0, .int .i64 0, .int .i64 0] 56)) := ((Below.refl _ _).alloc (Nat.le_refl _) _).alloc (by simp) _
  simp only [World.size_alloc] at hZ
  clear h hk hl
  go_enter Try.func50, Try.ntmps50
  go_upto_region 1 with fail
  generalize ((w.alloc (.cells #[.int .i64 a, .int .i64 b, .int .i64 s] 56)).alloc (.cells #[.int .i64 0, .int .i64 0, .int .i64 0] 56)) = w0 at *
  obtain ⟨⟨q0, q1, q2⟩, -⟩ := id hA.all3
  go_wp2_with fail
  refine (isRange_any ⟨a, b, s⟩ _ HK.out).mono ?_; rintro e w1 ⟨rfl, hb1⟩
  rw [HR.out]
  have hA := hA.nx hb1
  have hZ := hZ.nx hb1
  have hW := hW.nx hb1 hW.size
  clear hb1 q0 q1 q2
  obtain ⟨⟨q0, q1, q2⟩, -⟩ := id hA.all3
  go_wp2_with fail
  refine (numbersOf_any ⟨a, b, s⟩ _ (by simp only; omega) (by simp only; omega) hb.2.2.1 hb.2.2.2).mono ?_; rintro e w2 ⟨u, rfl, ho, hb2⟩
  have hZ := hZ.nx hb2
  have hW := hW.nx hb2 hW.size
  clear hb2 q0 q1 q2 hA
  go_wp2_with fail
  refine (normalOf_any _ _ _ ho.ints (by have := HL.out; omega) (fun x hx => by have := HIN.out x hx; omega)).mono ?_; rintro e w3 ⟨rfl, hb3⟩
  have hZ := hZ.nx hb3
  have hW := hW.nx hb3 hW.size
  clear hb3 ho
  rw [HNR.out]
  simp only [RL.val]
  obtain ⟨⟨z0, z1, z2⟩, zf0, zf1, zf2⟩ := id hZ.all3
  obtain ⟨⟨t0, t1, t2⟩, -⟩ := (hZ.store3 (.int .i64 xa) (.int .i64 xb) (.int .i64 xs)).all3
  clear hZ
  go_wp2
  refine bodyPost_ret (v := .agg #[.int .i64 xa, .int .i64 xb, .int .i64 xs]) (by simp [results, Try.results50, go_sem, t0, t1, t2]) rfl ?_
  exact ⟨rfl, below3 hW (by omega) _ _ _⟩

set_option maxRecDepth 100000 in
set_option maxHeartbeats 6400000 in
theorem coversFn_any (x : Int) (g : Nat) (v : Value) (xs : List Int) (w : World) (hc : w.cell? ⟨g, 0, none⟩ = some v) (hv : Ints w v xs) :
    Calls Try.prog 125 #[.int .i64 x, .pointer (some ⟨g, 0, none⟩)] w fun e w' => e = .returned (.bool (!xs.contains x)) ∧ w = w' := by
  obtain ⟨A, c, e⟩ := hv.form
  subst e
  go_enter Try.func125, Try.ntmps125
  go_wp2_with fail
  refine (Contains_any _ xs x _ hv).mono ?_; rintro e w' ⟨rfl, rfl⟩
  go_wp2
  go_ret
  exact ⟨ret_bool (by simp), rfl⟩
theorem cf_covers (ar : Array Value) (w : World) : (callFunc 125 ar).run Try.prog w = .ok (.enter 125 ar) w := by kernel_rfl

set_option maxRecDepth 100000 in
set_option maxHeartbeats 6400000 in
theorem CoversRange_yes (r q : RL) (w : World) (h : okRg r = true) (hk : r.ok) (h2 : okRg q = true) (hk2 : q.ok) (hin : ∀ x ∈ numsR q, x ∈ numsR r) :
    Calls Try.prog 49 #[r.val, q.val] w fun e w' => e = .returned (.bool true) ∧ Below w.heap.size w w' := by
  have HR := hid h
  have HK := hid hk
  have HR2 := hid h2
  have HK2 := hid hk2
  have hb := okRg_and h
  have hb2 := okRg_and h2
  have HAN := hid (show ((numsR q).any fun x => !(numsR r).contains x) = false by
    rw [List.any_eq_false]
    intro x hx
    simp [hin x hx])
  obtain ⟨a, b, s⟩ := r
  obtain ⟨a2, b2, s2⟩ := q
  simp only at hb hb2
  simp only [RL.val]
  have hA := (Blk.new w 56 #[.int .i64 a, .int .i64 b, .int .i64 s]).alloc (.cells #[.int .i64 a2, .int .i64 b2, .int .i64 s2] 56)
  have hB := Blk.new (w.alloc (.cells #[.int .i64 a, .int .i64 b, .int .i64 s] 56)) 56 #[.int .i64 a2, .int .i64 b2, .int .i64 s2]
  have hW : Below w.heap.size w ((w.alloc (.cells #[.int .i64 a, .int .i64 b, .int .i64 s] 56)).alloc (.cells #[.int .i64 a2, .int .i64 b2, .int .i64 s2] 56)) := ((Below.refl _ _).alloc (Nat.le_refl _) _).alloc (by simp) _
  simp only [World.size_alloc] at hB
  clear h hk h2 hk2 hin
  go_enter Try.func49, Try.ntmps49
  go_upto_region 1 with fail
  generalize ((w.alloc (.cells #[.int .i64 a, .int .i64 b, .int .i64 s] 56)).alloc (.cells #[.int .i64 a2, .int .i64 b2, .int .i64 s2] 56)) = w0 at *
  obtain ⟨⟨q0, q1, q2⟩, -⟩ := id hA.all3
  obtain ⟨⟨p0, p1, p2⟩, -⟩ := id hB.all3
  go_wp2_with fail
  refine (isRange_any ⟨a, b, s⟩ _ HK.out).mono ?_; rintro e w1 ⟨rfl, hb1⟩
  rw [HR.out]
  have hA := hA.nx hb1
  have hB := hB.nx hb1
  have hW := hW.nx hb1 hW.size
  clear hb1 q0 q1 q2 p0 p1 p2
  obtain ⟨⟨q0, q1, q2⟩, -⟩ := id hA.all3
  obtain ⟨⟨p0, p1, p2⟩, -⟩ := id hB.all3
  go_wp2_with fail
  refine (isRange_any ⟨a2, b2, s2⟩ _ HK2.out).mono ?_; rintro e w2 ⟨rfl, hb1⟩
  rw [HR2.out]
  have hA := hA.nx hb1
  have hB := hB.nx hb1
  have hW := hW.nx hb1 hW.size
  clear hb1 q0 q1 q2 p0 p1 p2
  obtain ⟨⟨q0, q1, q2⟩, -⟩ := id hA.all3
  go_wp2_with fail
  refine (numbersOf_any ⟨a, b, s⟩ _ (by simp only; omega) (by simp only; omega) hb.2.2.1 hb.2.2.2).mono ?_; rintro e w3 ⟨u, rfl, ho, hb2'⟩
  obtain ⟨A1, c1, e1⟩ := ho.form
  subst e1
  have hB := hB.nx hb2'
  have hW := hW.nx hb2' hW.size
  have hb3 := below_alloc w3 (.cells #[.slice A1 (numsR ⟨a, b, s⟩).length c1] 23)
  have hX := Blk.new w3 23 #[.slice A1 (numsR ⟨a, b, s⟩).length c1]
  have ho := ho.nx hb3
  have hB := hB.nx hb3
  have hW := hW.nx hb3 hW.size
  clear hb2' hb3 q0 q1 q2 hA
  go_upto_region 4 with fail
  generalize w3.alloc (.cells #[.slice A1 (numsR ⟨a, b, s⟩).length c1] 23) = w4 at *
  obtain ⟨⟨p0, p1, p2⟩, -⟩ := id hB.all3
  go_wp2_with fail
  refine (numbersOf_any ⟨a2, b2, s2⟩ _ (by simp only; omega) (by simp only; omega) hb2.2.2.1 hb2.2.2.2).mono ?_; rintro e w5 ⟨u2, rfl, ho2, hb5⟩
  have hX := hX.nx hb5
  have ho := ho.nx hb5
  have hW := hW.nx hb5 hW.size
  clear hb5 p0 p1 p2 hB
  go_wp2_with fail
  refine (ContainsFuncP_anyF 125 w3.heap.size cf_covers (fun x => !(numsR ⟨a, b, s⟩).contains x) _ (numsR ⟨a2, b2, s2⟩) _ (fun x => coversFn_any x w3.heap.size _ _ _ (hX.cell 0) ho.ints) ho2.ints).mono ?_; rintro e w' ⟨rfl, rfl⟩
  rw [HAN.out]
  go_wp2
  go_ret
  exact ⟨rfl, hW⟩

end Go.Proofs.Ytldblcolnjkcaaa
