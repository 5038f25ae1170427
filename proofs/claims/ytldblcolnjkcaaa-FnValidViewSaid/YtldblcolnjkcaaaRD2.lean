/- Contracts: a new reader; one of some numbers. No conditions. -/
import Derived.Test.YtldblcolnjkcaaaRD1
namespace Go.Proofs.Ytldblcolnjkcaaa
open Go.RowKit

/-- The value v reads as n bytes. -/
def BytesV (w : World) (v : Value) (n : Nat) : Prop :=
  ∃ A c, v = .slice A n c ∧ n ≤ c ∧ c ≤ 9223372036854775807 ∧ (0 < n → ∃ b off, A = some ⟨b, off, none⟩ ∧ b < w.heap.size ∧ ∀ j, j < n → ∃ x : Int, 0 ≤ x ∧ x ≤ 255 ∧ w.cell? ⟨b, off + j, none⟩ = some (.int .u8 x))
theorem BytesV.ext {w w' : World} {v : Value} {n : Nat} (h : BytesV w v n) (hb : Below w.heap.size w w') : BytesV w' v n := by
  obtain ⟨A, c, e, h1, h2, h3⟩ := h
  refine ⟨A, c, e, h1, h2, fun hn => ?_⟩
  obtain ⟨b, off, e, hlt, hc⟩ := h3 hn
  refine ⟨b, off, e, Nat.lt_of_lt_of_le hlt hb.size, fun j hj => ?_⟩
  obtain ⟨x, hx0, hx1, hx⟩ := hc j hj
  exact ⟨x, hx0, hx1, (hb.cell (p := ⟨b, off + j, none⟩) hlt).trans hx⟩
theorem Rd.new {w : World} {A : Option Addr} {n c : Nat} (h1 : n ≤ 2000) (h2 : n ≤ c) (h3 : c ≤ 9223372036854775807)
    (h : 0 < n → ∃ b off, A = some ⟨b, off, none⟩ ∧ b < w.heap.size ∧ ∀ j, j < n → ∃ x : Int, 0 ≤ x ∧ x ≤ 255 ∧ w.cell? ⟨b, off + j, none⟩ = some (.int .u8 x)) :
    Rd w.heap.size (w.alloc (.cells #[.slice A n c, .int .i64 0] 129)) w.heap.size 0 := by
  refine ⟨Nat.le_refl _, A, n, c, Blk.new w _ _, h1, h2, h3, fun hn => ?_⟩
  obtain ⟨b, off, e, hlt, hc⟩ := h hn
  refine ⟨b, off, e, hlt, fun j hj => ?_⟩
  obtain ⟨x, hx0, hx1, hx⟩ := hc j hj
  exact ⟨x, hx0, hx1, ((below_alloc w _).cell (p := ⟨b, off + j, none⟩) hlt).trans hx⟩

set_option maxRecDepth 100000 in
set_option maxHeartbeats 6400000 in
theorem newReader_any (v : Value) (n : Nat) (w : World) (h : BytesV w v n) :
    Calls Try.prog 86 #[v] w fun e w' => e = .returned (.pointer (some ⟨w.heap.size, 0, none⟩)) ∧ Rd w.heap.size w' w.heap.size 0 ∧ Below w.heap.size w w' ∧ w.heap.size < w'.heap.size := by
  obtain ⟨A, c, rfl, h1, h2, h3⟩ := h
  by_cases hn : 2000 < n
  · have HR := hid (Rd.new (w := w) (A := A) (n := 2000) (c := c) (by omega) (by omega) h2 (fun _ => by
      obtain ⟨b, off, e, hlt, hc⟩ := h3 (by omega)
      exact ⟨b, off, e, hlt, fun j hj => hc j (by omega)⟩))
    have hc2 : (2000 : Int) ≤ (c : Int) := by omega
    clear h3
    go_enter Try.func86, Try.ntmps86
    go_wp2
    go_ret
    exact ⟨rfl, HR.out, below_alloc _ _, by simp⟩
  · have HR := hid (Rd.new (w := w) (A := A) (n := n) (c := c) (by omega) h1 h2 h3)
    clear h3
    go_enter Try.func86, Try.ntmps86
    go_wp2
    go_ret
    exact ⟨rfl, HR.out, below_alloc _ _, by simp⟩

set_option maxRecDepth 100000 in
set_option maxHeartbeats 6400000 in
theorem one_any (N g p B : Nat) (vl : Value) (xs : List Int) (w : World) (h : Rd N w g p) (hp : p ≤ 1000000) (hl : Own w B vl xs) (hn : 1 ≤ xs.length ∧ xs.length ≤ 1000) (hne : ∀ k, vl.ownBlock = some k → k ≠ g) :
    Calls Try.prog 88 #[.pointer (some ⟨g, 0, none⟩), vl] w fun e w' =>
      ∃ r : Nat, ∃ hr : r < xs.length, e = .returned (.int .i64 xs[r]) ∧ Rd N w' g (p + 1) ∧ w.grownBy w' (some g) := by
  obtain ⟨b, c, e, hb1, hb2⟩ := hl.row (by omega)
  subst e
  go_enter Try.func88, Try.ntmps88
  go_wp2_with fail
  refine (pick_any N g p xs.length _ h hp (by omega)).mono ?_; rintro e w1 ⟨r, rfl, hr, hR, hG⟩
  have hl1 := hl.grown hG (.inr (fun e => by injection e with e; exact hne b rfl e))
  have hx := hl1.cell r hr
  have hri : (r : Int) < (xs.length : Int) := by omega
  go_wp2
  go_ret
  exact ⟨r, hr, rfl, hR, hG⟩

end Go.Proofs.Ytldblcolnjkcaaa
