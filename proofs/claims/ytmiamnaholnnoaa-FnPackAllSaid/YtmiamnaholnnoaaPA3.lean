/- Contracts: PackAll, the reference's. No conditions. -/
import Derived.Test.YtmiamnaholnnoaaPA1
import Derived.Test.YtmiamnaholnnoaaS6
import Derived.Test.YtmiamnaholnnoaaGr
import Derived.Deep.Cut
namespace Go.Proofs.Ytmiamnaholnnoaa
open Go.RowKit

set_option maxRecDepth 100000 in
set_option maxHeartbeats 6400000 in
theorem sPackAll_any (v vb : Value) (F : FL) (xss : List (List Int)) (w : World) (hv : FormatV w v F) (hbs : IntsS w vb xss) :
    Calls Try.prog 27 #[v, vb] w (RetOwn w (packAllL F xss)) := by
  obtain ⟨A, c, rfl, hk, hm, h0⟩ := hv.form
  have hbs0 := hbs
  obtain ⟨Ab, cb, rfl, hkb, hmb⟩ := hbs.form
  have HB := FBox.new h0
  cases hok : isFormatL F
  · have HOK := hid hok
    have HQ := hid (show packAllL F xss = [] by simp [packAllL, hok])
    clear hok
    go_enter Try.func27, Try.ntmps27
    go_wp2_with fail
    generalize w.alloc (.cells #[.slice A F.sizes.length c, .bool F.big, .bool F.aligned] 25) = W1 at *
    refine (validFormat_any _ F _ HB.format).mono ?_; rintro e w1 ⟨rfl, hb1⟩
    have HB1 := HB.nx hb1
    rw [HOK.out]
    have hb := HB1.below
    go_wp2
    go_ret
    rw [HQ.out]
    exact ⟨_, rfl, Own.nil _ _, hb⟩
  have HOK := hid hok
  have HQ := hid (show packAllL F xss = if okPk F xss xss.length then outTo F xss xss.length else [] by simp [packAllL, hok])
  have HPK := hid (fun vs => packL_length hok vs)
  clear hok
  go_enter Try.func27, Try.ntmps27
  go_wp2_with fail
  generalize w.alloc (.cells #[.slice A F.sizes.length c, .bool F.big, .bool F.aligned] 25) = W1 at *
  refine (validFormat_any _ F _ HB.format).mono ?_; rintro e w1 ⟨rfl, hb1⟩
  have HB1 := HB.nx hb1
  rw [HOK.out]
  have hz1 := HB1.size
  clear HB hb1 h0 hv
  go_upto_region 5 with fail
  go_loopg [5, 6] xss.length (fun g out i wr => ∃ k : Nat, k ≤ xss.length ∧ g = xss.length - k ∧ i = .int .i64 k ∧ okPk F xss k = true ∧ Own wr w1.heap.size out (outTo F xss k) ∧ Below w1.heap.size w1 wr)
  case atStart => exact ⟨0, Nat.zero_le _, rfl, rfl, rfl, Own.empty w1 rfl (Nat.le_refl _), below_alloc w1 _⟩
  case round =>
    obtain ⟨k, hk1, rfl, rfl, hokk, hown, hbw⟩ := hrel
    have HBr := HB1.nx hbw
    have HKK := hid hokk
    have HO := hid hown
    clear hokk hown
    by_cases hlt : k < xss.length
    · obtain ⟨b, off, u, rfl, hx, hu⟩ := (hbs0.ext HBr.below).elem k hlt
      have HUU := hid hu
      have HS := hid (outTo_succ F xss k hlt)
      have HOS := hid (okPk_succ F xss k hlt)
      have HBD := hid (okPk_bad (F := F) hlt)
      have hl60 := okPk_len HKK.out
      obtain ⟨a1, c1, e1⟩ := hu.form
      subst e1
      have hki : (k : Int) < (xss.length : Int) := by omega
      obtain ⟨⟨q1, q2, q3⟩, r1, r2, r3⟩ := HBr.blk.all3
      go_upto_region 7 with fail
      have qb := fun x : ExtW wr => (HBr.nx x.h).blk.all3.1
      have qx := fun x : ExtW wr => (x.h.cell (p := ⟨b, off + k, none⟩) (World.block_lt_of_cell? _ _ hx)).trans hx
      have HFx := hid (fun x : ExtW wr => (HBr.nx x.h).format)
      have HUx := hid (fun x : ExtW wr => HUU.out.ext x.h)
      clear q1 q2 q3 r1 r2 r3
      refine region_mk 7 (by kernel_rfl) (by kernel_rfl) ?_
      apply Exists.intro
      simp only [List.take_succ_cons, List.take_zero, List.drop_succ_cons, List.drop_zero]
      repeat (first
        | (apply grow_val (by rfl); (focus (intro x; (go_simp; try with_reducible rfl); done)); simp only [Act.put, List.setIfInBounds_toArray, List.set_cons_zero, List.set_cons_succ])
        | (apply grow_skip (by rfl); simp only [Act.put, List.setIfInBounds_toArray, List.set_cons_zero, List.set_cons_succ])
        | (apply grow_call (by rfl); (focus (intro x K Q hK; go_simp; (first | (go_at_call 48; (with_reducible refine (validItem_any _ _ F xss[k] _ (HFx.out x) (HUx.out x) HOK.out).mono ?_); rintro e w' ⟨rfl, hb⟩; exact hK _ hb)); done)); simp only [Act.put, List.setIfInBounds_toArray, List.set_cons_zero, List.set_cons_succ]))
      refine grow_nil ?_
      rintro ⟨w2, hb2⟩ - -
      have hb2 : Below wr.heap.size wr w2 := hb2
      clear qb qx HFx HUx
      have hx2 := (hb2.cell (p := ⟨b, off + k, none⟩) (World.block_lt_of_cell? _ _ hx)).trans hx
      have HB2 := HBr.nx hb2
      have hb2w := hbw.trans (hb2.mono hbw.size)
      clear hx
      cases hit : okItem F xss[k]
      · have HN := hid (show packAllL F xss = [] by rw [HQ.out, HBD.out (by rw [hit]; rfl)]; rfl)
        have hb := HB2.below
        clear hit hx2
        go_wp2
        go_ret
        rw [HN.out]
        exact ⟨_, rfl, Own.nil _ _, hb⟩
      · have HIT := hid hit
        obtain ⟨⟨q1, q2, q3⟩, r1, r2, r3⟩ := HB2.blk.all3
        clear hit
        go_upto_region 9 with fail
        have qb := fun x : ExtW w2 => (HB2.nx x.h).blk.all3.1
        have qx := fun x : ExtW w2 => (x.h.cell (p := ⟨b, off + k, none⟩) (World.block_lt_of_cell? _ _ hx2)).trans hx2
        have HFx := hid (fun x : ExtW w2 => (HB2.nx x.h).format)
        have HUx := hid (fun x : ExtW w2 => (HUU.out.ext hb2).ext x.h)
        clear q1 q2 q3 r1 r2 r3
        refine region_mk 7 (by kernel_rfl) (by kernel_rfl) ?_
        apply Exists.intro
        simp only [List.take_succ_cons, List.take_zero, List.drop_succ_cons, List.drop_zero]
        repeat (first
          | (apply grow_val (by rfl); (focus (intro x; (go_simp; try with_reducible rfl); done)); simp only [Act.put, List.setIfInBounds_toArray, List.set_cons_zero, List.set_cons_succ])
          | (apply grow_skip (by rfl); simp only [Act.put, List.setIfInBounds_toArray, List.set_cons_zero, List.set_cons_succ]))
        apply grow_ints (packL F xss[k]) (by rfl)
        · intro x hF K Q hK
          go_simp
          (go_at_call 49; refine (packed_any _ _ F xss[k] _ (HFx.out x) (HUx.out x) HOK.out HIT.out).mono ?_; rintro e w' ⟨v', rfl, ho, hb⟩; exact hK _ _ hb ho)
        intro A6 c6 F6 O6 hF6 hO6
        simp only [Act.put, List.setIfInBounds_toArray, List.set_cons_zero, List.set_cons_succ]
        repeat (first
          | (apply grow_val (by rfl); (focus (intro x; (go_simp; try with_reducible rfl); done)); simp only [Act.put, List.setIfInBounds_toArray, List.set_cons_zero, List.set_cons_succ])
          | (apply grow_skip (by rfl); simp only [Act.put, List.setIfInBounds_toArray, List.set_cons_zero, List.set_cons_succ]))
        refine grow_nil ?_
        rintro ⟨w3, hb3⟩ hF hS
        have ho3 := hF6 _ (hF 6 (by omega))
        have hb3 : Below w2.heap.size w2 w3 := hb3
        clear hF hS hF6 hO6 qb qx HFx HUx hx2
        have HB3 := HB2.nx hb3
        have hb3w := hb2w.trans (hb3.mono hb2w.size)
        have hO3 := hid ((HO.out.ext hb2).ext hb3)
        have hP3 := HPK.out xss[k]
        have h3i := hid ho3.ints
        have HLN := hid (show (outTo F xss k).length + (packL F xss[k]).length ≤ 1000000000000 by omega)
        have hsz := hb3w.size
        clear ho3
        go_wp2_with (at_builtin; refine appI _ rfl _ _ rfl w1.heap.size _ (outTo F xss k) rfl hO3.out _ _ _ (packL F xss[k]) rfl h3i.out HLN.out hsz ?_)
        intro v4 w4 ho4 hg4 hat4
        rw [← HS.out] at ho4
        have hq := hb3w.trans (hO3.out.under hg4 hsz)
        have hlo : (outTo F xss (k + 1)).length ≤ 1000 := by rw [HS.out, List.length_append]; omega
        obtain ⟨a4, c4, e4⟩ := ho4.form
        subst e4
        have HB4 := HB1.nx hq
        have HO4 := hid ho4
        clear hat4 hg4 ho4
        generalize hL : (outTo F xss (k + 1)).length = L at *
        have HL := hid hL
        clear hL
        by_cases hbig : 60 < L
        · have HN := hid (show packAllL F xss = [] by rw [HQ.out, HBD.out (by rw [HIT.out]; simp; omega)]; rfl)
          have hb := HB4.below
          go_wp2
          go_ret
          rw [HN.out]
          exact ⟨_, rfl, Own.nil _ _, hb⟩
        · have HK2 := hid (show okPk F xss (k + 1) = true by rw [HOS.out, HKK.out, HIT.out]; simp; omega)
          go_wp2
          go_roundg (xss.length - (k + 1))
          case rel => exact ⟨k + 1, by omega, rfl, by go_num, HK2.out, HO4.out, hq⟩
          case measure => omega
    · obtain rfl : xss.length = k := by omega
      have HN := hid (show packAllL F xss = outTo F xss xss.length by rw [HQ.out, HKK.out]; rfl)
      have hb := HBr.below
      go_wp2
      go_ret
      exact ⟨_, rfl, by rw [HN.out]; exact HO.out.mono (by omega), hb⟩

end Go.Proofs.Ytmiamnaholnnoaa
