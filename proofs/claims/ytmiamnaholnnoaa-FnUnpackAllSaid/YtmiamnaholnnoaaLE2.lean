/- Contract: the laws' own comparison of lists of lists. No conditions. -/
import Derived.Test.YtmiamnaholnnoaaLE
import Derived.Test.YtmiamnaholnnoaaLL
namespace Go.Proofs.Ytmiamnaholnnoaa
open Go.RowKit

set_option maxRecDepth 100000 in
set_option maxHeartbeats 6400000 in
theorem equalLists_same (v u : Value) (xss : List (List Int)) (w : World) (h : IntsS w v xss) (k : IntsS w u xss) :
    Calls Try.prog 29 #[v, u] w fun e w' => e = .returned (.bool true) ∧ Below w.heap.size w w' := by
  obtain ⟨A, c, rfl, h1, h2⟩ := h.form
  obtain ⟨A', c', rfl, k1, k2⟩ := k.form
  have HS := hid h
  have KS := hid k
  clear h k
  go_enter Try.func29, Try.ntmps29
  go_wp2_with fail
  go_loopg [5] xss.length (fun m i wr => ∃ k : Nat, k ≤ xss.length ∧ m = xss.length - k ∧ i = .int .i64 k ∧ Below w.heap.size w wr)
  case atStart => exact ⟨0, Nat.zero_le _, rfl, rfl, Below.refl _ _⟩
  case round =>
    obtain ⟨k, hk, hm, rfl, hB⟩ := hrel
    have HM := hid hm
    clear hm
    by_cases hlt : k < xss.length
    · obtain ⟨b, off, u1, e1, hx, hi⟩ := (HS.out.ext hB).elem k hlt
      obtain ⟨b', off', u2, e2, hy, hj⟩ := (KS.out.ext hB).elem k hlt
      subst e1 e2
      have hki : (k : Int) < (xss.length : Int) := by omega
      have HB := hid hB
      have HI := hid (fun x : ExtW wr => hi.ext x.h)
      have HJ := hid (fun x : ExtW wr => hj.ext x.h)
      have qx := fun x : ExtW wr => (x.h.cell (p := ⟨b, off + k, none⟩) (World.block_lt_of_cell? _ _ hx)).trans hx
      have qy := fun x : ExtW wr => (x.h.cell (p := ⟨b', off' + k, none⟩) (World.block_lt_of_cell? _ _ hy)).trans hy
      obtain ⟨As, cs, es⟩ := hi.form
      obtain ⟨At, ct, et⟩ := hj.form
      subst es et
      clear hx hy hi hj hB
      go_upto_region 6 with fail
      refine region_ext (by kernel_rfl) (by kernel_rfl) ?_
      repeat (quiet_step (first
        | ((go_at_call 11); with_reducible exact ext_call (equalInts_same _ _ _ _ (HI.out _) (HJ.out _)))))
      refine wpQuiet_nil ?_
      rintro _ ⟨⟨w1, hb1⟩, rfl⟩
      clear qx qy
      go_wp2
      go_roundg (xss.length - (k + 1))
      case measure => have := HM.out; omega
      case rel => exact ⟨k + 1, by omega, rfl, by go_num, HB.out.trans (hb1.mono HB.out.size)⟩
    · have hki : ¬ (k : Int) < (xss.length : Int) := by omega
      go_wp2
      go_ret
      exact ⟨rfl, hB⟩

end Go.Proofs.Ytmiamnaholnnoaa
