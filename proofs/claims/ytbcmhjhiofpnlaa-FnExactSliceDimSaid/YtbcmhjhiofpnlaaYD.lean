/- Conversion of a slice's plain fields. No conditions. -/
import Derived.Test.YtbcmhjhiofpnlaaT0
import Derived.Deep.Cut
namespace Go.Proofs.Ytbcmhjhiofpnlaa
open Go.RowKit

set_option maxRecDepth 100000 in
set_option maxHeartbeats 800000 in
theorem toSlice_any (v : Value) (s : SL) (w : World) (hs : SliceV w v s) :
    Calls Try.prog 18 #[v] w fun e w' => e = .returned s.val ∧ Below w.heap.size w w' := by
  obtain ⟨rfl, -⟩ := hs
  obtain ⟨f, t, b, hf, ht⟩ := s
  simp only [SL.val]
  go_enter Try.func18, Try.ntmps18
  go_wp2
  refine bodyPost_ret (v := .agg #[.int .i64 f, .int .i64 t, .int .i64 b, .bool hf, .bool ht]) (by simp [results, Try.results18, go_sem]) rfl ?_
  exact ⟨rfl, (((Below.refl w.heap.size w).alloc (Nat.le_refl _) _).alloc (by simp) _).alloc (by simp <;> omega) _⟩

end Go.Proofs.Ytbcmhjhiofpnlaa
