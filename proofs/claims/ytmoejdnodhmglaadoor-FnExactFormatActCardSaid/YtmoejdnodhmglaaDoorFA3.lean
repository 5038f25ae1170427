/- Contracts: numbers' text, words, needs, valid acts, by the reference. No conditions. -/
import Derived.Test.YtmoejdnodhmglaaDoorFA2
import Derived.Test.YtmoejdnodhmglaaDoorSRva
import Derived.Test.YtmoejdnodhmglaaDoorC4va
import Derived.Test.YtmoejdnodhmglaaDoorGw
import Derived.Test.YtmoejdnodhmglaaDoorIE
import Derived.Deep.Cut
import Derived.Deep.LoopGhost
namespace Go.Proofs.YtmoejdnodhmglaaDoor
open Go.RowKit

/-- Numbers with spaces before them. -/
def txt (ns : List Int) : List UInt8 := ns.flatMap fun n => 32 :: Lib.itoa n
def bs (l : List UInt8) : ByteArray := ⟨l.toArray⟩
theorem bs_add (l m : List UInt8) : bs l ++ bs m = bs (l ++ m) := ByteArray.mk_append_mk l m
theorem bs_size (l : List UInt8) : (bs l).size = l.length := by simp [bs, ByteArray.size]
theorem txt_snoc (ns : List Int) (k : Nat) (h : k < ns.length) : txt (ns.take (k + 1)) = txt (ns.take k) ++ (32 :: Lib.itoa ns[k]) := by
  rw [txt, take_snocI ns k h, List.flatMap_append]; simp only [List.flatMap_cons, List.flatMap_nil, List.append_nil]; rfl
theorem itoa_len {n : Int} (h : -100 ≤ n ∧ n ≤ 100) : (Lib.itoa n).length ≤ 102 := by
  unfold Lib.itoa
  split
  · have := dec_len n.natAbs n.natAbs (Nat.le_refl _)
    simp only [List.length_cons]; omega
  · have := dec_len n.toNat n.toNat (Nat.le_refl _)
    omega
theorem txt_len {ns : List Int} (h : ∀ n ∈ ns, -100 ≤ n ∧ n ≤ 100) : (txt ns).length ≤ 103 * ns.length := by
  induction ns with
  | nil => simp [txt]
  | cons n ns ih =>
    have := ih fun x hx => h x (List.mem_cons_of_mem _ hx)
    have := itoa_len (h n List.mem_cons_self)
    simp only [txt, List.flatMap_cons, List.length_append, List.length_cons] at *
    omega

set_option maxRecDepth 100000 in
set_option maxHeartbeats 6400000 in
theorem numbersText_any (v : Value) (ns : List Int) (w : World) (h : Ints w v ns) (hb : ∀ n ∈ ns, -100 ≤ n ∧ n ≤ 100) (hl : ns.length ≤ 1000) :
    Calls Tryd.prog 12 #[v] w fun e w' => e = .returned (.string (bs (txt ns))) ∧ w = w' := by
  have HB := hid hb
  obtain ⟨A, c, rfl, -⟩ := h.form
  have HI := hid h
  clear h hb
  go_enter Tryd.func12, Tryd.ntmps12
  go_upto_region 3 with fail
  go_loop [3, 4] (fun s i => ∃ k : Nat, k ≤ ns.length ∧ i = .int .i64 k ∧ s = .string (bs (txt (ns.take k)))) (fun _ i => ns.length - (intOf i).toNat)
  case atStart => exact ⟨0, Nat.zero_le _, rfl, rfl⟩
  case round =>
    obtain ⟨k, hk, rfl, rfl⟩ := hrel
    by_cases hlt : k < ns.length
    · have hki : (k : Int) < (ns.length : Int) := by omega
      obtain ⟨b, off, rfl, x0⟩ := HI.out.elem k hlt
      have HN := hid (HB.out _ (List.getElem_mem hlt))
      have HS := hid (txt_snoc ns k hlt)
      have HL := hid (txt_len (ns := ns.take k) fun n hn => HB.out n (List.mem_of_mem_take hn))
      have hlk : (ns.take k).length ≤ 1000 := by rw [List.length_take]; omega
      obtain ⟨X, hX⟩ : ∃ X, ns[k] = X := ⟨_, rfl⟩
      obtain ⟨S, hS⟩ : ∃ S, txt (ns.take k) = S := ⟨_, rfl⟩
      rw [hX] at x0 HN HS
      rw [hS] at HS HL
      have HX := hid (itoa_len HN.out)
      rw [hS]
      clear hX hS
      have hs1 : (bs S).size + 1 ≤ 9223372036854775807 := by rw [bs_size]; have := HL.out; omega
      go_wp2_with fail
      refine (number_any X HN.out _).mono ?_; rintro e w' ⟨rfl, rfl⟩
      have hs2 : (bs S).size + 1 + (Lib.itoa X).length ≤ 9223372036854775807 := by rw [bs_size]; have := HL.out; have := HX.out; omega
      have hwk : IntKind.i64.wrap ((k : Int) + 1) = (k : Int) + 1 := IntWalk.i64_in _ (by omega)
      have HE := hid (show bs S ++ ⟨#[32]⟩ ++ ⟨(Lib.itoa X).toArray⟩ = bs (txt (ns.take (k + 1))) by
        rw [HS.out]
        show bs S ++ bs [32] ++ bs (Lib.itoa X) = _
        rw [bs_add, bs_add]; simp)
      go_wp2
      go_round
      case rel => exact ⟨k + 1, by omega, by go_num, congrArg Value.string HE.out⟩
      case measure => simp [intOf]; omega
    · obtain rfl : k = ns.length := by omega
      go_wp2
      go_ret
      exact ⟨by first | rfl | rw [List.take_length], rfl⟩

/-- The words, the counts. -/
def words : List ByteArray := [bs [115, 105, 122, 101], bs [118, 105, 101, 119], bs [112, 97, 114, 116], bs [102, 108, 105, 112], bs [102, 105, 108, 108], bs [99, 111, 112, 121], bs [108, 111, 97, 100], bs [102, 114, 101, 101]]
def counts : List Int := [1, 3, 4, 1, 2, 2, 1, 1]
def wordV : List Value := words.map Value.string
theorem eight {k : Nat} (h : k < 8) : k = 0 ∨ k = 1 ∨ k = 2 ∨ k = 3 ∨ k = 4 ∨ k = 5 ∨ k = 6 ∨ k = 7 := by omega
/-- Whether an act is valid; its text. -/
def okA (k : Int) (ns : List Int) : Bool := inR k 0 7 && decide ((ns.length : Int) = counts.getD k.toNat 0) && ns.all (inR · (-100) 100)
def textA (k : Int) (ns : List Int) : ByteArray := if okA k ns then words.getD k.toNat ⟨#[]⟩ ++ bs (txt ns) else ⟨#[]⟩
theorem okA_and {k : Int} {ns : List Int} (h : okA k ns = true) : (0 ≤ k ∧ k ≤ 7) ∧ (ns.length : Int) = counts.getD k.toNat 0 ∧ ns.length ≤ 4 ∧ ∀ n ∈ ns, -100 ≤ n ∧ n ≤ 100 := by
  simp only [okA, Bool.and_eq_true, decide_eq_true_eq, List.all_eq_true] at h
  obtain ⟨⟨h1, h2⟩, h3⟩ := h
  have h1 := inR_iff.1 h1
  refine ⟨h1, h2, ?_, fun n hn => inR_iff.1 (h3 n hn)⟩
  obtain ⟨m, rfl⟩ : ∃ m : Nat, k = m := ⟨k.toNat, by omega⟩
  rw [Int.toNat_natCast] at h2
  rcases eight (k := m) (by omega) with rfl | rfl | rfl | rfl | rfl | rfl | rfl | rfl <;> simp [counts] at h2 <;> omega

set_option maxRecDepth 100000 in
set_option maxHeartbeats 6400000 in
theorem needs_any (k : Nat) (hk : k < 8) (w : World) :
    Calls Tryd.prog 18 #[.int .i64 k] w fun e w' => e = .returned (.int .i64 (counts.getD k 0)) ∧ Below w.heap.size w w' := by
  rcases eight hk with rfl | rfl | rfl | rfl | rfl | rfl | rfl | rfl
  all_goals
    clear hk
    have hb := below_alloc w (.cells #[.int .i64 1, .int .i64 3, .int .i64 4, .int .i64 1, .int .i64 2, .int .i64 2, .int .i64 1, .int .i64 1] 3)
    go_enter Tryd.func18, Tryd.ntmps18
    go_wp2
    go_ret
    exact ⟨rfl, hb⟩

set_option maxRecDepth 100000 in
set_option maxHeartbeats 6400000 in
theorem actWords_any (w : World) :
    Calls Tryd.prog 11 #[] w fun e w' => e = .returned (.slice (some ⟨w.heap.size, 0, none⟩) 8 8) ∧ w' = w.alloc (.cells wordV.toArray 9) := by
  go_enter Tryd.func11, Tryd.ntmps11
  go_wp2
  go_ret
  exact ⟨rfl, rfl⟩

end Go.Proofs.YtmoejdnodhmglaaDoor
