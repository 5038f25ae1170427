/- Contract: the reference's load of cells that are there. No conditions. -/
import Derived.Test.YtldblcolnjkcaaaC4
import Derived.Test.YtldblcolnjkcaaaS2
import Derived.Outline
namespace Go.Proofs.Ytldblcolnjkcaaa
open Go.RowKit

set_option maxRecDepth 100000 in
set_option maxHeartbeats 800000 in
theorem loadG_any (m v : Value) (mem : List Int) (V : VL) (w : World) (hm : Ints w m mem) (hv : ViewV w v V) (hs : isShapeL V.shape = true) (hle : V.shape.length = V.strides.length) (hin : ∀ x ∈ offs V, 0 ≤ x ∧ x < mem.length) :
    Calls Try.prog 138 #[m, v] w (RetOwn w (takenL mem (offs V))) := by
  have hv0 := hv
  have hm0 := hm
  obtain ⟨sv, tv, rfl, hsv, htv⟩ := hv
  have HV := hid (And.intro hs (And.intro hle trivial))
  have HB := hid hin
  clear hin hle hs
  have HL := hid (show (offs V).length ≤ 1000000 by have := shape_prod HV.out.1; simp [offs]; omega)
  have hl : (offs V).length ≤ 1000000 := HL.out
  have hW : Below w.heap.size w ((w.alloc (.cells #[.int .i64 V.base, sv, tv] 43)).alloc (.cells #[] 3)) := ((Below.refl _ _).alloc (Nat.le_refl _) _).alloc (by simp) _
  have hE := Own.empty (w.alloc (.cells #[.int .i64 V.base, sv, tv] 43)) (B := w.heap.size + 1) rfl (by simp)
  simp only [World.size_alloc] at hE
  obtain ⟨A, c, rfl, h1, h2, h3⟩ := hm
  unfold maxLen at h2
  go_enter Try.func138, Try.ntmps138
  go_wp2_with fail
  refine (offsets_any _ V _ (hv0.ext hW) HV.out.1 HV.out.2.1).mono ?_; rintro e w1 ⟨r, rfl, ho, hb1⟩
  have hb01 := bstep hW hb1 hW.size
  have hE1 := hE.ext hb1
  have hz1 : w.heap.size + 2 ≤ w1.heap.size := by have := hb1.size; simp at this; omega
  have hseg := ho.seg
  obtain ⟨Ar, cr, er⟩ := ho.form
  subst er
  have hsep0 : Sep (.slice (some ⟨w.heap.size + 1, 0, none⟩) 0 0) (.slice Ar (offs V).length cr) := fun k e1 e2 => by
    have h1 := hseg k e2
    simp only [Value.ownBlock, Option.some.injEq] at e1
    simp at h1
    omega
  have ho' := ho.mono (B' := w.heap.size + 1) (by simp)
  have hlc : (offs V).length ≤ 1000000 := HL.out
  go_wp2
  go_loopw [5, 7] (fun out i wr => ∃ (k : Nat), k ≤ (offs V).length ∧ i = .int .i64 k ∧ Own wr (w.heap.size + 1) out (takenL mem ((offs V).take k)) ∧ Own wr (w.heap.size + 1) (.slice Ar (offs V).length cr) (offs V) ∧
      Sep out (.slice Ar (offs V).length cr) ∧ Below w.heap.size w wr ∧ Hid (w.heap.size + 2 ≤ wr.heap.size)) (fun _ i _ => (offs V).length - (intOf i).toNat)
  case atStart => exact ⟨0, Nat.zero_le _, rfl, hE1, ho', hsep0, hb01, hid hz1⟩
  case round =>
    obtain ⟨k, hk, rfl, hown, hr, hsep, hb, hzz⟩ := hrel
    have hsz : w.heap.size + 1 ≤ wr.heap.size := by have := hzz.out; omega
    by_cases hlt : k < (offs V).length
    · obtain ⟨A', c', e', h1', h2', h3'⟩ := hr.ints
      simp only [Value.slice.injEq] at e'
      obtain ⟨rfl, -, rfl⟩ := e'
      obtain ⟨b', off', rfl, hltb', hc'⟩ := h3' (by omega)
      obtain ⟨hb0, hb1⟩ := HB.out (offs V)[k] (List.getElem_mem hlt)
      obtain ⟨j, hj⟩ : ∃ j : Nat, (offs V)[k] = j := ⟨((offs V)[k]).toNat, by omega⟩
      have hjl : j < mem.length := by omega
      obtain ⟨b, off, rfl, hltb, hc⟩ := h3 (by omega)
      unfold maxLen at h2'
      have hx' := hc' k j (by rw [List.getElem?_eq_getElem hlt, hj])
      have hx := (hb.cell (p := ⟨b, off + j, none⟩) hltb).trans (hc j mem[j] (by simp [hjl]))
      have HT := hid (show takenL mem ((offs V).take (k + 1)) = takenL mem ((offs V).take k) ++ [mem[j]] by rw [takenL_snoc mem (offs V) k hlt, hj]; simp [hjl])
      have HL1 := hid (show (takenL mem ((offs V).take k)).length ≤ 1000000000000 by simp [takenL]; omega)
      clear hc hc' h3 h3' hj hb0 hb1
      go_wp2_with (at_builtin; refine app1 _ rfl _ _ rfl (w.heap.size + 1) _ (takenL mem ((offs V).take k)) rfl (hown.alloc _) ⟨wr.heap.size, 0, none⟩ 1 mem[j] rfl (cell_new1 _ _ _) HL1.out (le_alloc hsz _) ?_)
      intro v1 w1' ho1 hg1 hat1
      have hq := hb.trans (((below_alloc wr (.cells #[.int .i64 mem[j]] 3)).mono (by omega)).trans (((hown.alloc _).under hg1 (le_alloc hsz _)).mono (by omega)))
      have hr1 := (hr.alloc (.cells #[.int .i64 mem[j]] 3)).grown hg1 hsep.symm.ne
      have hs1 := hsep.app hat1 (fun k e => Nat.lt_of_lt_of_le (hr.lt k e).2 (by simp))
      have hz4 := hid (show w.heap.size + 2 ≤ w1'.heap.size by have := hg1.size; have := hzz.out; simp at *; omega)
      go_wp2
      go_roundw
      case rel => exact ⟨k + 1, by omega, by go_num, by rw [HT.out]; exact ho1, hr1, hs1, hq, hz4⟩
      case measure => simp [intOf]; omega
    · have HE := hid (show takenL mem ((offs V).take k) = takenL mem (offs V) by rw [List.take_of_length_le (by omega)])
      go_wp2
      go_ret
      exact ⟨_, rfl, by rw [← HE.out]; exact hown.mono (by omega), hb⟩


end Go.Proofs.Ytldblcolnjkcaaa
