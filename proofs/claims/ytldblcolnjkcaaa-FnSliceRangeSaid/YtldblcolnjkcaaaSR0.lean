/- Contracts: small functions on ranges. No conditions. -/
import Derived.Test.YtldblcolnjkcaaaMSp
import Derived.Test.YtldblcolnjkcaaaY2
import Derived.Test.YtldblcolnjkcaaaYB
import Derived.Test.YtldblcolnjkcaaaSR
import Derived.Test.YtldblcolnjkcaaaHp
import Derived.Test.YtldblcolnjkcaaaGw
import Derived.BigGuardPart
import Derived.Deep.Cut
namespace Go.Proofs.Ytldblcolnjkcaaa
open Go.RowKit

def okRg (r : RL) : Bool := inR r.a (-100) 100 && inR r.b (-101) 101 && inR r.s (-200) 200 && !(r.s == 0)
def RL.ok (r : RL) : Prop := inI64 r.a ∧ inI64 r.b ∧ inI64 r.s
theorem okRg_and {r : RL} (h : okRg r = true) : (-100 ≤ r.a ∧ r.a ≤ 100) ∧ (-101 ≤ r.b ∧ r.b ≤ 101) ∧ (-200 ≤ r.s ∧ r.s ≤ 200) ∧ r.s ≠ 0 := by
  simp only [okRg, Bool.and_eq_true, inR_iff, Bool.not_eq_true', beq_eq_false_iff_ne] at h
  exact ⟨h.1.1.1, h.1.1.2, h.1.2, h.2⟩

set_option maxRecDepth 100000 in
set_option maxHeartbeats 6400000 in
theorem isRange_any (r : RL) (w : World) (hok : r.ok) :
    Calls Try.prog 120 #[r.val] w fun e w' => e = .returned (.bool (okRg r)) ∧ Below w.heap.size w w' := by
  obtain ⟨a, b, s⟩ := r
  obtain ⟨h1, h2, h3⟩ := hok
  simp only [inI64] at h1 h2 h3
  simp only [RL.val]
  by_cases h0 : s = 0
  · have h0i : (s != 0) = false := by simp [h0]
    have HQ := hid (show okRg ⟨a, b, s⟩ = false by simp [okRg, h0])
    clear h0
    go_enter Try.func120, Try.ntmps120
    go_wp2
    all_goals
      go_ret
      exact ⟨ret_bool (by rw [HQ.out]), below_alloc _ _⟩
  · have h0i : (s != 0) = true := by simpa using h0
    have HQ := hid (show okRg ⟨a, b, s⟩ = (inR a (-100) 100 && inR b (-101) 101 && inR s (-200) 200) by simp [okRg, h0])
    clear h0
    go_enter Try.func120, Try.ntmps120
    go_wp2
    all_goals
      go_ret
      exact ⟨ret_bool (by rw [HQ.out]; simp [inR, *] <;> omega), below_alloc _ _⟩

set_option maxRecDepth 100000 in
set_option maxHeartbeats 6400000 in
theorem validRange_any (r : RL) (w : World) :
    Calls Try.prog 122 #[r.val] w fun e w' => e = .returned (.bool (okRg r)) ∧ Below w.heap.size w w' := by
  obtain ⟨a, b, s⟩ := r
  simp only [RL.val]
  cases h1 : inR a (-100) 100 <;> cases h2 : inR b (-101) 101 <;> cases h3 : inR s (-200) 200
  all_goals
    have H1 := hid h1
    have H2 := hid h2
    have H3 := hid h3
    clear h1 h2 h3
    go_enter Try.func122, Try.ntmps122
    go_wp2_with (go_at_call 104; first
      | ((with_reducible refine (inRange_any a (-100) 100 _).mono ?_); rintro e w' ⟨rfl, rfl⟩; rw [H1.out])
      | ((with_reducible refine (inRange_any b (-101) 101 _).mono ?_); rintro e w' ⟨rfl, rfl⟩; rw [H2.out])
      | ((with_reducible refine (inRange_any s (-200) 200 _).mono ?_); rintro e w' ⟨rfl, rfl⟩; rw [H3.out]))
    all_goals
      go_ret
      exact ⟨ret_bool (by simp [okRg, H1.out, H2.out, H3.out, *]; try rfl), below_alloc _ _⟩

set_option maxRecDepth 100000 in
set_option maxHeartbeats 6400000 in
theorem equalRange_same (r : RL) (w : World) :
    Calls Try.prog 46 #[r.val, r.val] w fun e w' => e = .returned (.bool true) ∧ Below w.heap.size w w' := by
  obtain ⟨a, b, s⟩ := r
  simp only [RL.val]
  have hA := (Blk.new w 56 #[.int .i64 a, .int .i64 b, .int .i64 s]).alloc (.cells #[.int .i64 a, .int .i64 b, .int .i64 s] 56)
  have hB := Blk.new (w.alloc (.cells #[.int .i64 a, .int .i64 b, .int .i64 s] 56)) 56 #[.int .i64 a, .int .i64 b, .int .i64 s]
  simp only [World.size_alloc] at hB
  have hW : Below w.heap.size w ((w.alloc (.cells #[.int .i64 a, .int .i64 b, .int .i64 s] 56)).alloc (.cells #[.int .i64 a, .int .i64 b, .int .i64 s] 56)) := ((Below.refl _ _).alloc (Nat.le_refl _) _).alloc (by simp) _
  go_enter Try.func46, Try.ntmps46
  go_upto_region 1 with fail
  generalize ((w.alloc (.cells #[.int .i64 a, .int .i64 b, .int .i64 s] 56)).alloc (.cells #[.int .i64 a, .int .i64 b, .int .i64 s] 56)) = W1 at *
  obtain ⟨⟨q0, q1, q2⟩, -⟩ := id hA.all3
  obtain ⟨⟨r0, r1, r2⟩, -⟩ := id hB.all3
  go_wp2
  go_ret
  exact ⟨by simp, hW⟩

set_option maxRecDepth 100000 in
set_option maxHeartbeats 6400000 in
theorem NumbersOf_any (r : RL) (w : World) (h : okRg r = true) (hk : r.ok) :
    Calls Try.prog 48 #[r.val] w (RetOwn w (numsR r)) := by
  have HR := hid h
  have HK := hid hk
  have hb := okRg_and h
  obtain ⟨a, b, s⟩ := r
  simp only at hb
  simp only [RL.val]
  have hb0 := below_alloc w (.cells #[.int .i64 a, .int .i64 b, .int .i64 s] 56)
  have hA := Blk.new w 56 #[.int .i64 a, .int .i64 b, .int .i64 s]
  clear h hk
  go_enter Try.func48, Try.ntmps48
  go_upto_region 1 with fail
  generalize w.alloc (.cells #[.int .i64 a, .int .i64 b, .int .i64 s] 56) = w0 at *
  obtain ⟨⟨q0, q1, q2⟩, -⟩ := id hA.all3
  go_wp2_with fail
  refine (isRange_any ⟨a, b, s⟩ _ HK.out).mono ?_; rintro e w1 ⟨rfl, hb1⟩
  rw [HR.out]
  have hA := hA.nx hb1
  have hb0 := hb0.nx hb1 hb0.size
  clear hb1 q0 q1 q2
  obtain ⟨⟨q0, q1, q2⟩, -⟩ := id hA.all3
  go_wp2_with fail
  refine (numbersOf_any ⟨a, b, s⟩ _ (by simp only; omega) (by simp only; omega) hb.2.2.1 hb.2.2.2).mono ?_; rintro e w2 ⟨u, rfl, ho, hb2⟩
  go_wp2
  go_ret
  exact ⟨u, rfl, ho.mono hb0.size, hb0.nx hb2 hb0.size⟩

end Go.Proofs.Ytldblcolnjkcaaa
