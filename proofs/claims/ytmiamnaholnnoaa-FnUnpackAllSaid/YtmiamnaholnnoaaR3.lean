/- Contract: unpacked, the reference's. No conditions. -/
import Derived.Test.YtmiamnaholnnoaaR1
import Derived.Test.YtmiamnaholnnoaaGr
import Derived.Test.YtmiamnaholnnoaaHp
namespace Go.Proofs.Ytmiamnaholnnoaa
open Go.RowKit

theorem fieldL_ints {w : World} {b off n c p s : Nat} {bs : List Int} (h : Ints w (.slice (some ⟨b, off, none⟩) n c) bs) (hps : p + s ≤ n) : Ints w (.slice (some ⟨b, off + p, none⟩) s (c - p)) (fieldL bs p s) :=
  (h.drop p (by omega)).take s (by omega)

set_option maxRecDepth 100000 in
set_option maxHeartbeats 6400000 in
theorem unpacked_any (v vb : Value) (F : FL) (bs : List Int) (w : World) (hv : FormatV w v F) (hbs : Ints w vb bs) (hok : isFormatL F = true) (hlen : (bs.length : Int) = sizeF F) (hby : ∀ b ∈ bs, 0 ≤ b ∧ b ≤ 255) :
    Calls Try.prog 56 #[v, vb] w (RetOwn w (unpackL F bs)) := by
  obtain ⟨A, c, rfl, hk, hm, h0⟩ := hv.form
  have hsb := size_bd hok
  obtain ⟨Ab, cb, rfl, hkb, hmb, hb3⟩ := id hbs
  obtain ⟨bb, bo, rfl, -, -⟩ := hb3 (by omega)
  unfold maxLen at hmb
  have HB := FBox.new h0
  have hpl := psF_length hok
  have hin := hid (psF_in hok)
  have hl5 := (isFormat_iff.1 hok).2.1
  have HBY := hid hby
  have HOK := hid hok
  have HLEN := hid hlen
  have hb38 : bs.length ≤ 38 := by omega
  have HPL := hid hpl
  clear hpl
  go_enter Try.func56, Try.ntmps56
  go_wp2_with fail
  generalize w.alloc (.cells #[.slice A F.sizes.length c, .bool F.big, .bool F.aligned] 25) = W1 at *
  refine (places_any _ F _ HB.format HOK.out).mono ?_; rintro e w2 ⟨v1, rfl, hP, hb2⟩
  have HB2 := HB.nx hb2
  obtain ⟨A1, c1, e1⟩ := hP.form
  subst e1
  have hPI := hid hP.ints
  have hz1 := HB.size
  have hz2 := hb2.size
  clear hv hok hby hlen hP HB hb2 h0
  go_upto_region 4 with fail
  go_loopg [7, 8] F.sizes.length (fun g out i wr => ∃ k : Nat, k ≤ F.sizes.length ∧ g = F.sizes.length - k ∧ i = .int .i64 k ∧ Own wr w2.heap.size out (unpackTo (psF F) F.sizes bs F.big k) ∧ Below w2.heap.size w2 wr)
  case atStart => exact ⟨0, Nat.zero_le _, rfl, rfl, Own.empty w2 rfl (Nat.le_refl _), below_alloc w2 _⟩
  case round =>
    obtain ⟨k, hk1, rfl, rfl, hown, hbw⟩ := hrel
    have HBr := HB2.nx hbw
    by_cases hlt : k < F.sizes.length
    · have hlp : k < (psF F).length := by rw [HPL.out]; exact hlt
      obtain ⟨b, off, rfl, hx⟩ := HBr.elem k hlt
      obtain ⟨b1, off1, rfl, hy⟩ := (hPI.out.ext hbw).elem k hlp
      have hbd := hin.out k hlt
      have e1 : (psF F).getD k 0 = (psF F)[k] := by simp [hlp]
      have e2 : F.sizes.getD k 0 = F.sizes[k] := by simp [hlt]
      have HS := hid (unpackTo_succ (psF F) F.sizes bs F.big k)
      rw [e1, e2] at HS
      rw [e1] at hbd
      obtain ⟨s, hs⟩ : ∃ s : Nat, F.sizes[k] = s := ⟨F.sizes[k].toNat, by omega⟩
      obtain ⟨p, hp⟩ : ∃ p : Nat, (psF F)[k] = p := ⟨((psF F)[k]).toNat, by omega⟩
      rw [hs] at hx hbd HS
      rw [hp] at hy hbd HS
      have hpn : p + s ≤ bs.length := by have := HLEN.out; omega
      have hs4 : s ≤ 4 := by omega
      simp only [Int.toNat_natCast] at HS
      clear hs hp e1 e2
      have HLN := hid (show (unpackTo (psF F) F.sizes bs F.big k).length + [numF F.big (fieldL bs p s)].length ≤ 1000000000000 by simp [unpackTo]; omega)
      obtain ⟨N, hNN⟩ : ∃ N, N = numF F.big (fieldL bs p s) := ⟨_, rfl⟩
      have HNN := hid hNN
      rw [← hNN] at HS HLN
      clear hNN
      have HX := hid hown
      have HBS := hid (fun (W : World) (h : Below w.heap.size w W) => fieldL_ints (hbs.ext h) hpn)
      have HFL := hid (fieldL_length (bs := bs) (p := p) (s := s) hpn)
      have HFB := hid (show ∀ b ∈ fieldL bs p s, 0 ≤ b ∧ b ≤ 255 from fun b h => HBY.out b (List.mem_of_mem_drop (List.mem_of_mem_take h)))
      obtain ⟨⟨q1, q2, q3⟩, r1, r2, r3⟩ := HBr.blk.all3
      have hki : (k : Int) < (F.sizes.length : Int) := by omega
      have hkp : (k : Int) < ((psF F).length : Int) := by omega
      have hw1 : IntKind.i64.wrap ((p : Int) + (s : Int)) = (p : Int) + (s : Int) := IntWalk.i64_in _ (by omega)
      have htn : ((p : Int) + (s : Int)).toNat = p + s := by omega
      have hps0 : (0 : Int) ≤ (p : Int) + (s : Int) := by omega
      have hps1 : (p : Int) + (s : Int) ≤ (cb : Int) := by omega
      have hps2 : (p : Int) ≤ (p : Int) + (s : Int) := by omega
      have hps3 : ¬ cb = p := by omega
      clear hown
      go_upto_region 6 with fail
      have qb := fun x : ExtW wr => (HBr.nx x.h).blk.all3.1
      have qx := fun x : ExtW wr => (x.h.cell (p := ⟨b, off + k, none⟩) (World.block_lt_of_cell? wr _ hx)).trans hx
      have qy := fun x : ExtW wr => (x.h.cell (p := ⟨b1, off1 + k, none⟩) (World.block_lt_of_cell? wr _ hy)).trans hy
      clear q1 q2 q3 r1 r2 r3
      refine region_mk 21 (by kernel_rfl) (by kernel_rfl) ?_
      apply Exists.intro
      simp only [List.take_succ_cons, List.take_zero, List.drop_succ_cons, List.drop_zero]
      repeat (first
        | (apply grow_val (by rfl); (focus (intro x; (go_simp; try with_reducible rfl); done)); simp only [Act.put, List.setIfInBounds_toArray, List.set_cons_zero, List.set_cons_succ])
        | (apply grow_skip (by rfl); simp only [Act.put, List.setIfInBounds_toArray, List.set_cons_zero, List.set_cons_succ]))
      apply grow_call (by rfl)
      · intro x K Q hK
        go_simp
        (go_at_call 74; refine (numberOf_any _ (fieldL bs p s) F.big _ (HBS.out _ (HBr.nx x.h).below) (by rw [HFL.out]; exact hs4) HFB.out).mono ?_; rintro e w' ⟨rfl, hb⟩; rw [← HNN.out]; exact hK _ hb)
      simp only [Act.put, List.setIfInBounds_toArray, List.set_cons_zero, List.set_cons_succ]
      repeat (first
        | (apply grow_val (by rfl); (focus (intro x; (go_simp; try with_reducible rfl); done)); simp only [Act.put, List.setIfInBounds_toArray, List.set_cons_zero, List.set_cons_succ])
        | (apply grow_skip (by rfl); simp only [Act.put, List.setIfInBounds_toArray, List.set_cons_zero, List.set_cons_succ]))
      apply grow_lit1 (.tmp 40) N rfl (by rfl) (by rfl)
      intro g20 c20 hg20 F20 O20 hF20 hO20
      simp only [Act.put, List.setIfInBounds_toArray, List.set_cons_zero, List.set_cons_succ]
      refine grow_nil ?_
      rintro ⟨w5, hb5⟩ hF hS
      have h20 := hF20 _ (hF 20 (by omega))
      have hb5 : Below wr.heap.size wr w5 := hb5
      have hX5 := hid (HX.out.ext hb5)
      have hbw5 := hbw.trans (hb5.mono hbw.size)
      have hsz5 := hbw5.size
      have h20i := hid h20.ints
      clear hF hS hF20 hO20 qb qx qy hx hy
      go_wp2_with (at_builtin; refine appI _ rfl _ _ rfl w2.heap.size _ (unpackTo (psF F) F.sizes bs F.big k) rfl hX5.out _ _ _ [N] rfl h20i.out HLN.out hsz5 ?_)
      intro v1 w6 ho1 hg1 hat1
      rw [← HS.out] at ho1
      have hq := hbw5.trans (hX5.out.under hg1 hsz5)
      clear hat1 hg1
      go_wp2
      go_roundg (F.sizes.length - (k + 1))
      case rel => exact ⟨k + 1, by omega, rfl, by go_num, ho1, hq⟩
      case measure => omega
    · obtain rfl : F.sizes.length = k := by omega
      have HX := hid hown
      have hb := HBr.below
      have hnl : ¬ F.sizes.length < (psF F).length := by rw [HPL.out]; exact Nat.lt_irrefl _
      clear hown
      go_wp2
      go_ret
      exact ⟨_, rfl, HX.out.mono (by omega), hb⟩

end Go.Proofs.Ytmiamnaholnnoaa
