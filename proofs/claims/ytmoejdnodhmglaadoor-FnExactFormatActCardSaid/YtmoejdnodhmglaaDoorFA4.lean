/- Contracts: valid acts and their text, by the reference. No conditions. -/
import Derived.Test.YtmoejdnodhmglaaDoorFA3
import Derived.Deep.RegionLaw
namespace Go.Proofs.YtmoejdnodhmglaaDoor
open Go.RowKit

theorem blk2 {w : World} {g : Nat} {t : TypeId} {a b : Value} (h : Blk w g t #[a, b]) : (w.cell? ⟨g, 0, none⟩ = some a ∧ w.cell? ⟨g, 1, none⟩ = some b) ∧ w.frozen? ⟨g, 0, none⟩ = false ∧ w.frozen? ⟨g, 1, none⟩ = false :=
  ⟨⟨h.cell 0, h.cell 1⟩, h.free 0, h.free 1⟩
/-- An act that lies in memory. -/
def ActV (w : World) (v : Value) (k : Int) (ns : List Int) : Prop := ∃ s, v = .agg #[.int .i64 k, s] ∧ Ints w s ns
theorem ActV.ext {w w' : World} {v : Value} {k : Int} {ns : List Int} (h : ActV w v k ns) (hb : Below w.heap.size w w') : ActV w' v k ns := by
  obtain ⟨s, e, h1⟩ := h
  exact ⟨s, e, h1.ext hb⟩
theorem callsBel {P : Program} {f : FuncId} {a : Array Value} {w : World} {v : Value} (h : Calls P f a w fun e w' => e = .returned v ∧ w = w') : Calls P f a w fun e w' => e = .returned v ∧ Below w.heap.size w w' :=
  h.mono fun _ _ h => ⟨h.1, h.2 ▸ Below.refl _ _⟩

set_option maxRecDepth 100000 in
set_option maxHeartbeats 6400000 in
theorem validAct_any (v : Value) (k : Int) (ns : List Int) (w : World) (hv : ActV w v k ns) :
    Calls Tryd.prog 10 #[v] w fun e w' => e = .returned (.bool (okA k ns)) ∧ Below w.heap.size w w' := by
  obtain ⟨s, rfl, hs⟩ := hv
  obtain ⟨A, c, rfl, -⟩ := hs.form
  have hb0 := below_alloc w (.cells #[.int .i64 k, .slice A ns.length c] 27)
  have hZ := Blk.new w 27 #[.int .i64 k, .slice A ns.length c]
  have HI := hid (hs.ext hb0)
  have HB0 := hid hb0
  go_enter Tryd.func10, Tryd.ntmps10
  go_upto_region 1 with fail
  clear hs hb0
  generalize (w.alloc (.cells #[.int .i64 k, .slice A ns.length c] 27)) = w0 at *
  have HIR := hid (fun x : ExtW w0 => callsBel (inRange_any k 0 7 x.v))
  have HAL := hid (fun x : ExtW w0 => callsBel (allIn_any _ ns (-100) 100 x.v (HI.out.ext x.h)))
  have qq := fun x : ExtW w0 => (blk2 (Blk.ext hZ x.h hZ.lt)).1
  have HOK := hid (show okA k ns = (inR k 0 7 && decide ((ns.length : Int) = counts.getD k.toNat 0) && ns.all (inR · (-100) 100)) from rfl)
  obtain ⟨b3, h3⟩ : ∃ b, ns.all (inR · (-100) 100) = b := ⟨_, rfl⟩
  rw [h3] at HAL HOK
  clear h3
  cases h1 : inR k 0 7
  · rw [h1] at HIR HOK
    clear h1
    refine region_mk 18 (by kernel_rfl) (by kernel_rfl) ?_
    apply Exists.intro
    simp only [List.take_succ_cons, List.take_zero, List.drop_succ_cons, List.drop_zero]
    repeat (first
      | (apply grow_val (by rfl); (focus (intro x; (go_simp; try with_reducible rfl); done)); simp only [Act.put, List.setIfInBounds_toArray, List.set_cons_zero, List.set_cons_succ])
      | (apply grow_skip (by rfl); simp only [Act.put, List.setIfInBounds_toArray, List.set_cons_zero, List.set_cons_succ])
      | (apply grow_call (by rfl); (focus (intro x K Q hK; go_simp; (first | (go_at_call 17; (with_reducible refine (HIR.out x).mono ?_); rintro e w' ⟨rfl, hb⟩; exact hK _ hb)); done)); simp only [Act.put, List.setIfInBounds_toArray, List.set_cons_zero, List.set_cons_succ]))
    refine grow_nil ?_
    rintro ⟨wa, hba⟩ hF hS
    have HF := hid (HB0.out.trans (hba.mono HB0.out.size))
    clear hF hS
    go_wp2
    go_ret
    exact ⟨by rw [HOK.out]; rfl, HF.out⟩
  · have h1' := inR_iff.1 h1
    rw [h1] at HIR HOK
    obtain ⟨m, hm⟩ : ∃ m : Nat, k = m := ⟨k.toNat, by omega⟩
    subst hm
    have HND := hid (fun x : ExtW w0 => needs_any m (by omega) x.v)
    rw [Int.toNat_natCast] at HOK
    obtain ⟨N, hN⟩ : ∃ N, counts.getD m 0 = N := ⟨_, rfl⟩
    rw [hN] at HND HOK
    clear hN h1
    by_cases h2 : (ns.length : Int) = N
    · have h2i : ((ns.length : Int) == N) = true := by simp [h2]
      have h2d : decide ((ns.length : Int) = N) = true := by simp [h2]
      rw [h2d] at HOK
      clear h2 h2d
      refine region_mk 18 (by kernel_rfl) (by kernel_rfl) ?_
      apply Exists.intro
      simp only [List.take_succ_cons, List.take_zero, List.drop_succ_cons, List.drop_zero]
      repeat (first
        | (apply grow_val (by rfl); (focus (intro x; (go_simp; try with_reducible rfl); done)); simp only [Act.put, List.setIfInBounds_toArray, List.set_cons_zero, List.set_cons_succ])
        | (apply grow_skip (by rfl); simp only [Act.put, List.setIfInBounds_toArray, List.set_cons_zero, List.set_cons_succ])
        | (apply grow_call (by rfl); (focus (intro x K Q hK; go_simp; (first | (go_at_call 17; (with_reducible refine (HIR.out x).mono ?_); rintro e w' ⟨rfl, hb⟩; exact hK _ hb) | (go_at_call 18; (with_reducible refine (HND.out x).mono ?_); rintro e w' ⟨rfl, hb⟩; exact hK _ hb) | (go_at_call 19; (with_reducible refine (HAL.out x).mono ?_); rintro e w' ⟨rfl, hb⟩; exact hK _ hb)); done)); simp only [Act.put, List.setIfInBounds_toArray, List.set_cons_zero, List.set_cons_succ]))
      refine grow_nil ?_
      rintro ⟨wa, hba⟩ hF hS
      have HF := hid (HB0.out.trans (hba.mono HB0.out.size))
      clear hF hS
      go_wp2
      go_ret
      exact ⟨by rw [HOK.out]; simp, HF.out⟩
    · have h2i : ((ns.length : Int) == N) = false := by simp [h2]
      have h2d : decide ((ns.length : Int) = N) = false := by simp [h2]
      rw [h2d] at HOK
      clear h2d
      refine region_mk 18 (by kernel_rfl) (by kernel_rfl) ?_
      apply Exists.intro
      simp only [List.take_succ_cons, List.take_zero, List.drop_succ_cons, List.drop_zero]
      repeat (first
        | (apply grow_val (by rfl); (focus (intro x; (go_simp; try with_reducible rfl); done)); simp only [Act.put, List.setIfInBounds_toArray, List.set_cons_zero, List.set_cons_succ])
        | (apply grow_skip (by rfl); simp only [Act.put, List.setIfInBounds_toArray, List.set_cons_zero, List.set_cons_succ])
        | (apply grow_call (by rfl); (focus (intro x K Q hK; go_simp; (first | (go_at_call 17; (with_reducible refine (HIR.out x).mono ?_); rintro e w' ⟨rfl, hb⟩; exact hK _ hb) | (go_at_call 18; (with_reducible refine (HND.out x).mono ?_); rintro e w' ⟨rfl, hb⟩; exact hK _ hb)); done)); simp only [Act.put, List.setIfInBounds_toArray, List.set_cons_zero, List.set_cons_succ]))
      refine grow_nil ?_
      rintro ⟨wa, hba⟩ hF hS
      have HF := hid (HB0.out.trans (hba.mono HB0.out.size))
      clear hF hS
      go_wp2
      go_ret
      exact ⟨by rw [HOK.out]; rfl, HF.out⟩

theorem wantedA {ops : Array Oper} {o : Oper} {a : Act} (hgd : o.guard = none) : Region.wanted o (yielded ops a.tmps) = true := by simp [Region.wanted, hgd]
theorem word_cell {m : Nat} (hm : m < 8) (w : World) : (w.alloc (.cells wordV.toArray 9)).cell? ⟨w.heap.size, m, none⟩ = some (.string (words.getD m ⟨#[]⟩)) := by
  rw [(Blk.new w 9 wordV.toArray).cell m]
  rcases eight hm with rfl | rfl | rfl | rfl | rfl | rfl | rfl | rfl <;> rfl
theorem word_size {m : Nat} (hm : m < 8) : (words.getD m ⟨#[]⟩).size = 4 := by
  rcases eight hm with rfl | rfl | rfl | rfl | rfl | rfl | rfl | rfl <;> rfl

set_option maxRecDepth 100000 in
set_option maxHeartbeats 6400000 in
theorem sFormatAct_any (v : Value) (k : Int) (ns : List Int) (w : World) (hv : ActV w v k ns) :
    Calls Tryd.prog 5 #[v] w fun e w' => e = .returned (.string (textA k ns)) ∧ Below w.heap.size w w' := by
  have hv0 := hv
  obtain ⟨s, rfl, hs⟩ := hv
  obtain ⟨A, c, rfl, -⟩ := hs.form
  have hb0 := below_alloc w (.cells #[.int .i64 k, .slice A ns.length c] 27)
  have hZ := Blk.new w 27 #[.int .i64 k, .slice A ns.length c]
  have HI := hid (hs.ext hb0)
  have HV := hid (hv0.ext hb0)
  have HB0 := hid hb0
  go_enter Tryd.func5, Tryd.ntmps5
  go_upto_region 1 with fail
  clear hs hb0 hv0
  generalize (w.alloc (.cells #[.int .i64 k, .slice A ns.length c] 27)) = w0 at *
  obtain ⟨⟨q0, q1⟩, -⟩ := blk2 hZ
  have HZ := hid hZ
  clear hZ
  go_wp2_with fail
  refine (validAct_any _ k ns _ HV.out).mono ?_; rintro e w1 ⟨rfl, hb⟩
  have HB1 := hid hb
  have HW1 := hid (HB0.out.trans (hb.mono HB0.out.size))
  have HZ1 := hid (Blk.ext HZ.out hb HZ.out.lt)
  have HI1 := hid (HI.out.ext hb)
  clear hb q0 q1
  cases hk : okA k ns
  · have HT := hid (show textA k ns = ⟨#[]⟩ by rw [textA, hk]; rfl)
    clear hk
    go_wp2
    go_ret
    exact ⟨congrArg (fun b => Ending.returned (.string b)) HT.out.symm, HW1.out⟩
  · obtain ⟨⟨hk0, hk7⟩, hlen, hl4, hns⟩ := okA_and hk
    obtain ⟨m, hm⟩ : ∃ m : Nat, k = m := ⟨k.toNat, by omega⟩
    subst hm
    have HNS := hid hns
    have hm8 : m < 8 := by omega
    have hmi : (m : Int) < 8 := by omega
    have HT := hid (show textA (m : Int) ns = words.getD m ⟨#[]⟩ ++ bs (txt ns) by rw [textA, hk, Int.toNat_natCast]; rfl)
    have HTL := hid (txt_len hns)
    have HWS := hid (word_size hm8)
    obtain ⟨WD, hWD⟩ : ∃ WD, words.getD m ⟨#[]⟩ = WD := ⟨_, rfl⟩
    rw [hWD] at HT HWS
    have HWC := hid (fun w : World => (word_cell hm8 w).trans (by rw [hWD]))
    have hsz : WD.size + (bs (txt ns)).size ≤ 9223372036854775807 := by rw [bs_size, HWS.out]; have := HTL.out; omega
    have hszn : ¬ 9223372036854775807 < WD.size + (bs (txt ns)).size := by omega
    clear hk hlen hns hWD hk0 hk7 hsz
    obtain ⟨⟨q0, q1⟩, -⟩ := blk2 HZ1.out
    go_upto_region 3 with fail
    have HZd := hid (Blk.ext HZ1.out (below_drew w1) HZ1.out.lt)
    have HId := hid (HI1.out.ext (below_drew w1))
    go_region_law (first
      | (rw [if_pos (wantedA (by rfl))]; go_simp; go_at_call 11; refine (actWords_any _).mono ?_; rintro e w5 ⟨rfl, h5⟩
         have x5 : w5.cell? ⟨w1.heap.size, m, none⟩ = some (.string WD) := by rw [h5]; exact HWC.out w1.drew
         have hb5 : Below w1.heap.size w1 w5 := by rw [h5]; exact (below_drew w1).trans (below_alloc w1.drew _)
         have HB5 := hid hb5
         have HI5 := hid (HI1.out.ext hb5)
         obtain ⟨⟨z0, z1⟩, -⟩ := blk2 (Blk.ext HZ1.out hb5 HZ1.out.lt)
         clear h5 hb5
         go_simp)
      | (rw [if_pos (wantedA (by rfl))]; go_simp; go_at_call 12; refine (numbersText_any _ ns _ (by first | exact HId.out | exact HI5.out) HNS.out (by omega)).mono ?_; rintro e w6 ⟨rfl, rfl⟩
         go_simp))
    all_goals
      have HF := hid (HW1.out.trans (HB5.out.mono HW1.out.size))
      go_wp2
      go_ret
      exact ⟨congrArg (fun b => Ending.returned (.string b)) HT.out.symm, HF.out⟩

end Go.Proofs.YtmoejdnodhmglaaDoor
