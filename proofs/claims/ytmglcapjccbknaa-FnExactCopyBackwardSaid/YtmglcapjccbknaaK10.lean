/- Contracts: copies one by one. No conditions. -/
import Derived.Test.YtmglcapjccbknaaK8
import Derived.Outline
import Derived.StillTailTactics
import Derived.Deep.RegionHeld3
namespace Go.Proofs.Ytmglcapjccbknaa
open Go.RowKit

def stepS (ys : List Int) (a b : Int) : List Int := ys.set a.toNat (ys.getD b.toNat 0)
def stepK (mem to fr ord : List Int) (k : Nat) : List Int := (ord.take k).foldl (fun ys i => stepS ys (to.getD i.toNat 0) (fr.getD i.toNat 0)) mem
theorem stepK_snoc (mem to fr ord : List Int) (k : Nat) (h : k < ord.length) : stepK mem to fr ord (k + 1) = stepS (stepK mem to fr ord k) (to.getD (ord[k]).toNat 0) (fr.getD (ord[k]).toNat 0) := by
  unfold stepK
  rw [take_snocI ord k h, List.foldl_append]
  rfl
theorem stepK_all (mem to fr ord : List Int) (k : Nat) (h : ord.length ≤ k) : stepK mem to fr ord k = stepK mem to fr ord ord.length := by
  unfold stepK
  rw [List.take_of_length_le h, List.take_of_length_le (Nat.le_refl _)]
theorem stepK_length (mem to fr ord : List Int) (k : Nat) : (stepK mem to fr ord k).length = mem.length := by
  unfold stepK
  generalize ord.take k = ps
  induction ps generalizing mem with
  | nil => rfl
  | cons i is ih => rw [List.foldl_cons, ih]; simp [stepS]
def upL (n : Nat) : List Int := (List.range n).map fun (i : Nat) => (i : Int)
theorem upL_length (n : Nat) : (upL n).length = n := by simp [upL]
theorem upL_snoc (n : Nat) : upL (n + 1) = upL n ++ [(n : Int)] := by simp [upL, List.range_succ]

set_option maxHeartbeats 800000 in
theorem upTo_any (n : Nat) (w : World) (hn : n ≤ 1000000) :
    Calls Try.prog 73 #[.int .i64 n] w (RetOwn w (upL n)) := by
  go_enter Try.func73, Try.ntmps73
  go_wp2
  go_loopw [3, 4] (fun out i wr => ∃ (k : Nat), k ≤ n ∧ i = .int .i64 k ∧ Own wr w.heap.size out (upL k) ∧ Below w.heap.size w wr) (fun _ i _ => n - (intOf i).toNat)
  case atStart => exact ⟨0, Nat.zero_le _, rfl, Own.empty w rfl (Nat.le_refl _), below_alloc w _⟩
  case round =>
    obtain ⟨k, hk, rfl, hown, hb⟩ := hrel
    by_cases hlt : k < n
    · have HT := hid (upL_snoc k)
      have HL1 := hid (show (upL k).length ≤ 1000000000000 by rw [upL_length]; omega)
      have hsz : w.heap.size ≤ wr.heap.size := hb.size
      go_wp2_with (at_builtin; refine app1 _ rfl _ _ rfl w.heap.size _ (upL k) rfl (hown.alloc _) ⟨wr.heap.size, 0, none⟩ 1 (k : Int) rfl (cell_new1 _ _ _) HL1.out (le_alloc hsz _) ?_)
      intro v1 w1 ho1 hg1 hat1
      have hq := hb.trans (((below_alloc wr (.cells #[.int .i64 (k : Int)] 3)).mono hsz).trans ((hown.alloc _).under hg1 (le_alloc hsz _)))
      go_wp2
      go_roundw
      case rel => exact ⟨k + 1, by omega, by go_num, by rw [HT.out]; exact ho1, hq⟩
      case measure => simp [intOf]; omega
    · have HE := hid (show k = n by omega)
      go_wp2
      go_ret
      exact ⟨_, rfl, by rw [← HE.out]; exact hown, hb⟩

set_option maxRecDepth 100000 in
set_option maxHeartbeats 1600000 in
theorem stepped_any (m t f o : Value) (mem to fr ord : List Int) (w : World) (hm : Ints w m mem) (ht : Ints w t to) (hf : Ints w f fr) (ho : Ints w o ord) (hml : mem.length ≤ 60)
    (hto : ∀ x ∈ to, 0 ≤ x ∧ x < mem.length) (hfr : ∀ x ∈ fr, 0 ≤ x ∧ x < mem.length) (hord : ∀ x ∈ ord, 0 ≤ x ∧ x < to.length ∧ x < fr.length) :
    Calls Try.prog 72 #[m, t, f, o] w (RetOwn w (stepK mem to fr ord ord.length)) := by
  have HT := hid hto; clear hto
  have HF := hid hfr; clear hfr
  have HO := hid hord; clear hord
  have hm0 := hm
  obtain ⟨A, cc, em⟩ := hm0.form
  subst em
  obtain ⟨At, ct, rfl, ht1, ht2, ht3⟩ := ht
  obtain ⟨Af, cf, rfl, hf1, hf2, hf3⟩ := hf
  obtain ⟨Ao, co, rfl, ho1, ho2, ho3⟩ := ho
  unfold maxLen at ht2 hf2 ho2
  go_enter Try.func72, Try.ntmps72
  go_wp2_with fail
  refine (copyInts_any _ mem _ hm (by omega)).mono ?_; rintro e w2 ⟨v', rfl, hown0, hb2⟩
  obtain ⟨A2, c2, e2⟩ := hown0.form
  subst e2
  have hc2 : c2 ≤ 9223372036854775807 := by obtain ⟨_, _, e, _, h, _⟩ := hown0.ints; simp only [Value.slice.injEq] at e; obtain ⟨-, -, rfl⟩ := e; unfold maxLen at h; omega
  go_wp2
  go_loopw [10] (fun i wr => ∃ (k : Nat) (ys : List Int), k ≤ ord.length ∧ i = .int .i64 k ∧ Hid (ys.length = mem.length) ∧ Hid (ys = stepK mem to fr ord k) ∧ Own wr w.heap.size (.slice A2 mem.length c2) ys ∧ Below w.heap.size w wr) (fun i _ => ord.length - (intOf i).toNat)
  case atStart => exact ⟨0, _, Nat.zero_le _, rfl, hid rfl, hid rfl, hown0, hb2⟩
  case round =>
    obtain ⟨k, ys, hk, rfl, hyl, hyt, hown, hb⟩ := hrel
    by_cases hlt : k < ord.length
    · obtain ⟨j0, j1, j2⟩ := HO.out ord[k] (List.getElem_mem hlt)
      obtain ⟨i, hi⟩ : ∃ i : Nat, ord[k] = i := ⟨(ord[k]).toNat, by omega⟩
      have hit : i < to.length := by omega
      have hif : i < fr.length := by omega
      obtain ⟨a0, a1⟩ := HT.out to[i] (List.getElem_mem hit)
      obtain ⟨b0, b1⟩ := HF.out fr[i] (List.getElem_mem hif)
      obtain ⟨a, ha⟩ : ∃ a : Nat, to[i] = a := ⟨(to[i]).toNat, by omega⟩
      obtain ⟨b, hbb⟩ : ∃ b : Nat, fr[i] = b := ⟨(fr[i]).toNat, by omega⟩
      have ham : a < mem.length := by omega
      have hbm : b < mem.length := by omega
      have hyl' := hyl.out
      have hay : a < ys.length := by omega
      have hby : b < ys.length := by omega
      clear hyl'
      obtain ⟨g, cap, eg, hg1, hg2⟩ := hown.row (by omega)
      simp only [Value.slice.injEq] at eg
      obtain ⟨rfl, -, rfl⟩ := eg
      obtain ⟨bt, ot, rfl, hlt1, hct⟩ := ht3 (by omega)
      obtain ⟨bf, of, rfl, hlf1, hcf⟩ := hf3 (by omega)
      obtain ⟨bo, oo, rfl, hlo1, hco⟩ := ho3 (by omega)
      have hxo := (hb.cell (p := ⟨bo, oo + k, none⟩) hlo1).trans (hco k i (by rw [List.getElem?_eq_getElem hlt, hi]))
      have hxt := (hb.cell (p := ⟨bt, ot + i, none⟩) hlt1).trans (hct i a (by rw [List.getElem?_eq_getElem hit, ha]))
      have hxf := (hb.cell (p := ⟨bf, of + i, none⟩) hlf1).trans (hcf i b (by rw [List.getElem?_eq_getElem hif, hbb]))
      have hya := hown.cell a hay
      have hyb := hown.cell b hby
      have hfz := hown.free a
      have HQ := hid (hown.put a ys[b])
      have HB := hid (hb.setCell (p := ⟨g, a, none⟩) hg1 (.int .i64 ys[b]))
      have HS := hid (show ys.set a ys[b] = stepK mem to fr ord (k + 1) by
        rw [stepK_snoc mem to fr ord k hlt, hi, ← hyt.out]; simp [stepS, hit, hif, ha, hbb, hby])
      have HL1 := hid (show (ys.set a ys[b]).length = mem.length by rw [List.length_set]; exact hyl.out)
      clear hown hb j0 j1 j2 hi a0 a1 b0 b1 ha hbb hyt hct hcf hco ht3 hf3 ho3
      go_wp2
      go_still_tail 19, (by kernel_rfl)
      all_goals (go_wp2; go_roundw)
      all_goals first
        | (case rel => exact ⟨k + 1, _, by omega, by go_num, HL1, HS, HQ.out.drew, HB.out.drew⟩)
        | (case measure => simp [intOf]; omega)
    · have HE := hid (show ys = stepK mem to fr ord ord.length by rw [hyt.out, stepK_all _ _ _ _ _ (by omega)])
      go_wp2
      go_ret
      exact ⟨_, rfl, by rw [← HE.out]; exact hown, hb⟩

end Go.Proofs.Ytmglcapjccbknaa
