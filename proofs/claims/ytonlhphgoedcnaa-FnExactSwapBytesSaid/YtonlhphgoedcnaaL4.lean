/- Contracts of the laws' own helpers over formats. No conditions. -/
import Derived.Test.YtonlhphgoedcnaaL1
import Derived.Test.YtonlhphgoedcnaaT0
namespace Go.Proofs.Ytonlhphgoedcnaa
open Go.RowKit

/-- What a function that returns a new format leaves. -/
def RetFormat (w : World) (F : FL) (e : Ending) (w' : World) : Prop := ∃ sv, e = .returned (.agg #[sv, .bool F.big, .bool F.aligned]) ∧ Own w' w.heap.size sv F.sizes ∧ Below w.heap.size w w'

set_option maxHeartbeats 400000 in
theorem szFormat_ok (v : Value) (F : FL) (left : Nat) (w : World) (h : FormatV w v F) (hl : F.sizes.length ≤ left) (h2 : left ≤ 1048576) :
    Calls Try.prog 15 #[v, .int .i64 left] w fun e w' => e = .returned (.int .i64 ((left - F.sizes.length : Nat) : Int)) ∧ Below w.heap.size w w' := by
  obtain ⟨sv, rfl, hs⟩ := h
  go_enter Try.func15, Try.ntmps15
  go_wp2_with fail
  refine (szIntS_ok _ F.sizes left _ (hs.ext (below_alloc _ _)) (by omega) h2).mono ?_; rintro e w' ⟨rfl, rfl⟩
  go_wp2
  go_ret
  exact ⟨rfl, below_alloc _ _⟩

set_option maxHeartbeats 400000 in
theorem szFormat_no (v : Value) (F : FL) (left : Nat) (w : World) (h : FormatV w v F) (hl : left < F.sizes.length) (h2 : left ≤ 1048576) :
    Calls Try.prog 15 #[v, .int .i64 left] w fun e w' => e = .returned (.int .i64 (-1)) ∧ Below w.heap.size w w' := by
  obtain ⟨sv, rfl, hs⟩ := h
  go_enter Try.func15, Try.ntmps15
  go_wp2_with fail
  refine (szIntS_no _ F.sizes left _ (hs.ext (below_alloc _ _)) (by omega) (by omega)).mono ?_; rintro e w' ⟨rfl, rfl⟩
  go_wp2
  go_ret
  exact ⟨rfl, below_alloc _ _⟩

set_option maxHeartbeats 400000 in
theorem toFormat_any (v : Value) (F : FL) (w : World) (h : FormatV w v F) (hl : F.sizes.length ≤ 1048576) :
    Calls Try.prog 17 #[v] w (RetFormat w F) := by
  obtain ⟨xs, bg, al⟩ := F
  obtain ⟨sv, rfl, hs⟩ := h
  simp only at hs hl ⊢
  go_enter Try.func17, Try.ntmps17
  go_wp2_with fail
  have hb0 : Below w.heap.size w (((w.alloc (.cells #[sv, .bool bg, .bool al] 24)).alloc (.cells #[.slice none 0 0, .bool false, .bool false] 30)).alloc (.cells #[.slice none 0 0, .bool false, .bool false] 30)) := (((Below.refl _ _).alloc (Nat.le_refl _) _).alloc (by simp) _).alloc (by simp; omega) _
  refine (toIntS_any _ xs _ (hs.ext hb0) hl).mono ?_; rintro e w1 ⟨s1, rfl, ho1, hb1⟩
  have hA1 := (((Blk.new w 24 #[sv, .bool bg, .bool al]).alloc _).alloc _).ext hb1 (by simp; omega)
  have hR1 := ((Blk.new (w.alloc (.cells #[sv, .bool bg, .bool al] 24)) 30 #[.slice none 0 0, .bool false, .bool false]).alloc _).ext hb1 (by simp)
  have hO1 := (Blk.new ((w.alloc (.cells #[sv, .bool bg, .bool al] 24)).alloc (.cells #[.slice none 0 0, .bool false, .bool false] 30)) 30 #[.slice none 0 0, .bool false, .bool false]).ext hb1 (by simp)
  simp only [World.size_alloc] at hR1 hO1
  have hn1 : w.heap.size + 3 ≤ w1.heap.size := by have := hb1.size; simp at this; omega
  have ho1 := ho1.mono (B' := w.heap.size + 3) (by simp)
  have hbw1 : Below w.heap.size w w1 := hb0.trans (hb1.mono (by simp; omega))
  obtain ⟨A1, c1, rfl⟩ := ho1.form
  clear hb0 hb1
  obtain ⟨⟨qa0, qa1, qa2⟩, -⟩ := hA1.all3
  obtain ⟨⟨qr0, qr1, qr2⟩, qrf0, qrf1, qrf2⟩ := hR1.all3
  obtain ⟨⟨qo0, qo1, qo2⟩, qof0, qof1, qof2⟩ := hO1.all3
  go_wp2
  refine bodyPost_ret (v := .agg #[.slice A1 xs.length c1, .bool bg, .bool al]) (by simp [results, Try.results17, go_sem, qr0, qr1, qr2]) rfl ⟨_, rfl, ?_, ?_⟩
  · refine Own.mono (B := w.heap.size + 3) ?_ (by omega)
    repeat (refine Own.far ?_ (by simp <;> omega) _)
    exact ho1
  · repeat (refine Below.setCell ?_ (by simp <;> omega) _)
    exact hbw1

set_option maxHeartbeats 400000 in
theorem eqFormat_yes (v v' : Value) (F : FL) (w : World) (h : FormatV w v F) (h' : FormatV w v' F) :
    Calls Try.prog 20 #[v, v'] w fun e w' => e = .returned (.bool true) ∧ Below w.heap.size w w' := by
  obtain ⟨xs, bg, al⟩ := F
  obtain ⟨sv, rfl, hs⟩ := h
  obtain ⟨sv', rfl, hs'⟩ := h'
  simp only at hs hs' ⊢
  go_enter Try.func20, Try.ntmps20
  have hb : Below w.heap.size w ((w.alloc (.cells #[sv, .bool bg, .bool al] 30)).alloc (.cells #[sv', .bool bg, .bool al] 30)) := ((Below.refl _ _).alloc (Nat.le_refl _) _).alloc (by simp) _
  have hA := (Blk.new w 30 #[sv, .bool bg, .bool al]).alloc (.cells #[sv', .bool bg, .bool al] 30)
  have hA2 := Blk.new (w.alloc (.cells #[sv, .bool bg, .bool al] 30)) 30 #[sv', .bool bg, .bool al]
  simp only [World.size_alloc] at hA2
  go_wp2_with fail
  refine (eqIntS_yes _ _ xs _ (hs.ext hb) (hs'.ext hb)).mono ?_; rintro e w1 ⟨rfl, hb1⟩
  obtain ⟨⟨q0, q1, q2⟩, -⟩ := (hA.ext hb1 hA.lt).all3
  obtain ⟨⟨r0, r1, r2⟩, -⟩ := (hA2.ext hb1 (by simp)).all3
  have hbt := hb.trans (hb1.mono (by simp; omega))
  cases bg <;> cases al
  all_goals
    go_wp2
    go_ret
    exact ⟨rfl, hbt⟩

set_option maxHeartbeats 400000 in
theorem markFormat_any (sv : Value) (F : FL) (k0 B lo hi : Nat) (w : World) (hs : Own w B sv F.sizes) (g1 : Seg sv lo hi) (hl : F.sizes.length ≤ 1048576) (hk0 : k0 ≤ 10000000) :
    Calls Try.prog 21 #[.agg #[sv, .bool F.big, .bool F.aligned], .int .i64 k0] w fun e w' => e = .returned (.int .i64 ((k0 + F.sizes.length : Nat) : Int)) ∧ Own w' B sv (marks k0 F.sizes.length) ∧ Chg lo hi w w' := by
  go_enter Try.func21, Try.ntmps21
  go_wp2_with fail
  refine (markIntS_any _ F.sizes k0 B _ (hs.alloc _) hl (by omega)).mono ?_; rintro e w1 ⟨rfl, ho1, hg1⟩
  have hc1 : Chg lo hi w w1 := (Chg.of_below (below_alloc w _) lo hi).trans (Chg.of_grown hg1 g1)
  go_wp2
  go_ret
  exact ⟨rfl, ho1, hc1⟩

end Go.Proofs.Ytonlhphgoedcnaa
