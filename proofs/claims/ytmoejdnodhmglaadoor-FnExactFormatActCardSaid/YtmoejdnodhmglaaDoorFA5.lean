/- Contracts: valid acts and their text, by the program. No conditions. -/
import Derived.Test.YtmoejdnodhmglaaDoorFA4
namespace Go.Proofs.YtmoejdnodhmglaaDoor
open Go.RowKit

/-- What the tables hold, here and in each later world. -/
def Tabs (w : World) : Prop := ∀ w', Below w.heap.size w w' → Lib.TabIs Tryd.prog w' "internal/strconv.uint64pow10" .u64 Lib.pow10Tab ∧
  (∀ m, m < 8 → w'.cell? ⟨0, m, none⟩ = some (.string (words.getD m ⟨#[]⟩))) ∧ ∀ m, m < 8 → w'.cell? ⟨1, m, none⟩ = some (.int .i64 (counts.getD m 0))
theorem Tabs.ext {w w' : World} (h : Tabs w) (hb : Below w.heap.size w w') : Tabs w' := fun w2 h2 => h w2 (hb.trans (h2.mono hb.size))

set_option maxRecDepth 100000 in
set_option maxHeartbeats 6400000 in
theorem isAct1_any (x : Int) (w : World) :
    Calls Tryd.prog 22 #[.int .i64 x] w fun e w' => e = .returned (.bool (!inR x (-100) 100)) ∧ w = w' := by
  by_cases h1 : x < -100
  · have H := hid (inR_no (n := x) (lo := -100) (hi := 100) (by omega))
    go_enter Tryd.func22, Tryd.ntmps22
    go_wp2
    go_ret
    exact ⟨by rw [H.out]; rfl, rfl⟩
  · by_cases h2 : 100 < x
    · have H := hid (inR_no (n := x) (lo := -100) (hi := 100) (by omega))
      go_enter Tryd.func22, Tryd.ntmps22
      go_wp2
      go_ret
      exact ⟨by rw [H.out]; rfl, rfl⟩
    · have H := hid (inR_yes (n := x) (lo := -100) (hi := 100) (by omega) (by omega))
      go_enter Tryd.func22, Tryd.ntmps22
      go_wp2
      go_ret
      exact ⟨by rw [H.out]; rfl, rfl⟩
theorem cf_isAct1 (ar : Array Value) (w : World) : (callFunc 22 ar).run Tryd.prog w = .ok (.enter 22 ar) w := by kernel_rfl

set_option maxRecDepth 100000 in
set_option maxHeartbeats 6400000 in
theorem isAct_any (v : Value) (k : Int) (ns : List Int) (w : World) (hv : ActV w v k ns) (ht : Tabs w) :
    Calls Tryd.prog 14 #[v] w fun e w' => e = .returned (.bool (okA k ns)) ∧ Below w.heap.size w w' := by
  obtain ⟨s, rfl, hs⟩ := hv
  obtain ⟨A, c, rfl, -⟩ := hs.form
  have hb0 := below_alloc w (.cells #[.int .i64 k, .slice A ns.length c] 27)
  have hZ := Blk.new w 27 #[.int .i64 k, .slice A ns.length c]
  have HI := hid (hs.ext hb0)
  have HT := hid (ht.ext hb0)
  have HB0 := hid hb0
  go_enter Tryd.func14, Tryd.ntmps14
  go_upto_region 1 with fail
  clear hs hb0 ht
  generalize (w.alloc (.cells #[.int .i64 k, .slice A ns.length c] 27)) = w0 at *
  have qq := fun x : ExtW w0 => (blk2 (Blk.ext hZ x.h hZ.lt)).1
  have HZ := hid hZ
  clear hZ
  have HOK := hid (show okA k ns = (inR k 0 7 && decide ((ns.length : Int) = counts.getD k.toNat 0) && ns.all (inR · (-100) 100)) from rfl)
  by_cases h1 : k < 0
  · have H1 := hid (inR_no (n := k) (lo := 0) (hi := 7) (by omega))
    rw [H1.out] at HOK
    refine region_mk 18 (by kernel_rfl) (by kernel_rfl) ?_
    apply Exists.intro
    simp only [List.take_succ_cons, List.take_zero, List.drop_succ_cons, List.drop_zero]
    repeat (first
      | (apply grow_val (by rfl); (focus (intro x; (go_simp; try with_reducible rfl); done)); simp only [Act.put, List.setIfInBounds_toArray, List.set_cons_zero, List.set_cons_succ])
      | (apply grow_skip (by rfl); simp only [Act.put, List.setIfInBounds_toArray, List.set_cons_zero, List.set_cons_succ]))
    refine grow_nil ?_
    rintro ⟨wa, hba⟩ hF hS
    have HF := hid (HB0.out.trans (hba.mono HB0.out.size))
    clear hF hS
    go_wp2
    go_ret
    exact ⟨by rw [HOK.out]; rfl, HF.out⟩
  · by_cases h7 : 7 < k
    · have H1 := hid (inR_no (n := k) (lo := 0) (hi := 7) (by omega))
      rw [H1.out] at HOK
      refine region_mk 18 (by kernel_rfl) (by kernel_rfl) ?_
      apply Exists.intro
      simp only [List.take_succ_cons, List.take_zero, List.drop_succ_cons, List.drop_zero]
      repeat (first
        | (apply grow_val (by rfl); (focus (intro x; (go_simp; try with_reducible rfl); done)); simp only [Act.put, List.setIfInBounds_toArray, List.set_cons_zero, List.set_cons_succ])
        | (apply grow_skip (by rfl); simp only [Act.put, List.setIfInBounds_toArray, List.set_cons_zero, List.set_cons_succ]))
      refine grow_nil ?_
      rintro ⟨wa, hba⟩ hF hS
      have HF := hid (HB0.out.trans (hba.mono HB0.out.size))
      clear hF hS
      go_wp2
      go_ret
      exact ⟨by rw [HOK.out]; rfl, HF.out⟩
    · have H1 := hid (inR_yes (n := k) (lo := 0) (hi := 7) (by omega) (by omega))
      rw [H1.out] at HOK
      obtain ⟨m, hm⟩ : ∃ m : Nat, k = m := ⟨k.toNat, by omega⟩
      subst hm
      rw [Int.toNat_natCast] at HOK
      have hm0 : (0 : Int) ≤ (m : Int) := by omega
      have hm8 : (m : Int) < 8 := by omega
      have qg := fun x : ExtW w0 => (HT.out x.v x.h).2.2 m (by omega)
      obtain ⟨N, hN⟩ : ∃ N, counts.getD m 0 = N := ⟨_, rfl⟩
      rw [hN] at HOK
      simp only [hN] at qg
      clear hN
      by_cases h2 : (ns.length : Int) = N
      · have h2i : ((ns.length : Int) != N) = false := by simp [h2]
        have h2d : decide ((ns.length : Int) = N) = true := by simp [h2]
        rw [h2d] at HOK
        clear h2 h2d
        refine region_mk 18 (by kernel_rfl) (by kernel_rfl) ?_
        apply Exists.intro
        simp only [List.take_succ_cons, List.take_zero, List.drop_succ_cons, List.drop_zero]
        repeat (first
          | (apply grow_val (by rfl); (focus (intro x; (go_simp; try with_reducible rfl); done)); simp only [Act.put, List.setIfInBounds_toArray, List.set_cons_zero, List.set_cons_succ])
          | (apply grow_skip (by rfl); simp only [Act.put, List.setIfInBounds_toArray, List.set_cons_zero, List.set_cons_succ]))
        refine grow_nil ?_
        rintro ⟨wa, hba⟩ hF hS
        have hba : Below w0.heap.size w0 wa := hba
        obtain ⟨⟨q0, q1⟩, -⟩ := blk2 (Blk.ext HZ.out hba HZ.out.lt)
        have HF := hid (HB0.out.trans (hba.mono HB0.out.size))
        have HIa := hid (HI.out.ext hba)
        clear hF hS qq qg
        go_wp2_with fail
        refine (ContainsFunc_any 22 cf_isAct1 (fun x => !inR x (-100) 100) isAct1_any _ ns _ HIa.out).mono ?_; rintro e w' ⟨rfl, rfl⟩
        have HA := hid (any_not_all ns (inR · (-100) 100))
        go_wp2
        go_ret
        exact ⟨by rw [HOK.out, ← HA.out]; simp, HF.out⟩
      · have h2i : ((ns.length : Int) != N) = true := by simp [h2]
        have h2d : decide ((ns.length : Int) = N) = false := by simp [h2]
        rw [h2d] at HOK
        clear h2d
        refine region_mk 18 (by kernel_rfl) (by kernel_rfl) ?_
        apply Exists.intro
        simp only [List.take_succ_cons, List.take_zero, List.drop_succ_cons, List.drop_zero]
        repeat (first
          | (apply grow_val (by rfl); (focus (intro x; (go_simp; try with_reducible rfl); done)); simp only [Act.put, List.setIfInBounds_toArray, List.set_cons_zero, List.set_cons_succ])
          | (apply grow_skip (by rfl); simp only [Act.put, List.setIfInBounds_toArray, List.set_cons_zero, List.set_cons_succ]))
        refine grow_nil ?_
        rintro ⟨wa, hba⟩ hF hS
        have HF := hid (HB0.out.trans (hba.mono HB0.out.size))
        clear hF hS
        go_wp2
        go_ret
        exact ⟨by rw [HOK.out]; rfl, HF.out⟩

end Go.Proofs.YtmoejdnodhmglaaDoor
