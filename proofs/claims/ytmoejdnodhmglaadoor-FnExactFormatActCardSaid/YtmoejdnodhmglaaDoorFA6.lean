/- Contract: an act's text, by the program. No conditions. -/
import Derived.Test.YtmoejdnodhmglaaDoorFA5
import Derived.Lib.AppendIntMem
namespace Go.Proofs.YtmoejdnodhmglaaDoor
open Go.RowKit

theorem itoa_any (n : Int) (hn : -100 ≤ n ∧ n ≤ 100) (w : World) (ht : Tabs w) :
    Calls Tryd.prog 15 #[.int .i64 n] w fun e w' => e = .returned (.string (bs (Lib.itoa n))) ∧ Below w.heap.size w w' :=
  (Any.strconv_Itoa itoL n (by omega) (by omega) w (ht w (Below.refl _ _)).1).mono fun e w' ⟨he, k, os, hw⟩ => ⟨he, by rw [hw]; exact Lib.below_grow _ w (Nat.le_refl _) k os⟩

set_option maxRecDepth 100000 in
set_option maxHeartbeats 6400000 in
theorem FormatAct_any (v : Value) (k : Int) (ns : List Int) (w : World) (hv : ActV w v k ns) (ht : Tabs w) :
    Calls Tryd.prog 7 #[v] w fun e w' => e = .returned (.string (textA k ns)) ∧ Below w.heap.size w w' := by
  have hv0 := hv
  obtain ⟨s, rfl, hs⟩ := hv
  obtain ⟨A, c, rfl, -⟩ := hs.form
  have hb0 := below_alloc w (.cells #[.int .i64 k, .slice A ns.length c] 27)
  have hZ := Blk.new w 27 #[.int .i64 k, .slice A ns.length c]
  have HI := hid (hs.ext hb0)
  have HV := hid (hv0.ext hb0)
  have HT := hid (ht.ext hb0)
  have HB0 := hid hb0
  go_enter Tryd.func7, Tryd.ntmps7
  go_upto_region 1 with fail
  clear hs hb0 hv0 ht
  generalize (w.alloc (.cells #[.int .i64 k, .slice A ns.length c] 27)) = w0 at *
  obtain ⟨⟨q0, q1⟩, -⟩ := blk2 hZ
  have HZ := hid hZ
  clear hZ
  go_wp2_with fail
  refine (isAct_any _ k ns _ HV.out HT.out).mono ?_; rintro e w1 ⟨rfl, hb⟩
  have HB1 := hid (HB0.out.trans (hb.mono HB0.out.size))
  have HZ1 := hid (Blk.ext HZ.out hb HZ.out.lt)
  have HI1 := hid (HI.out.ext hb)
  have HT1 := hid (HT.out.ext hb)
  clear hb q0 q1
  cases hk : okA k ns
  · have HX := hid (show textA k ns = ⟨#[]⟩ by rw [textA, hk]; rfl)
    clear hk
    go_wp2
    go_ret
    exact ⟨congrArg (fun b => Ending.returned (.string b)) HX.out.symm, HB1.out⟩
  · obtain ⟨⟨hk0, hk7⟩, hlen, hl4, hns⟩ := okA_and hk
    obtain ⟨m, hm⟩ : ∃ m : Nat, k = m := ⟨k.toNat, by omega⟩
    subst hm
    have HNS := hid hns
    have hm0 : (0 : Int) ≤ (m : Int) := by omega
    have hmi : (m : Int) < 8 := by omega
    have HX := hid (show textA (m : Int) ns = words.getD m ⟨#[]⟩ ++ bs (txt ns) by rw [textA, hk, Int.toNat_natCast]; rfl)
    have HWS := hid (word_size (m := m) (by omega))
    have x5 := (HT1.out w1 (Below.refl _ _)).2.1 m (by omega)
    obtain ⟨WD, hWD⟩ : ∃ WD, words.getD m ⟨#[]⟩ = WD := ⟨_, rfl⟩
    rw [hWD] at HX HWS x5
    clear hk hlen hns hWD hk0 hk7
    obtain ⟨⟨q0, q1⟩, -⟩ := blk2 HZ1.out
    go_upto_region 5 with fail
    go_loopg [3, 16] ns.length (fun d s i wr => ∃ j : Nat, j ≤ ns.length ∧ d = ns.length - j ∧ i = .int .i64 j ∧ s = .string (WD ++ bs (txt (ns.take j))) ∧ Below w1.heap.size w1 wr)
    case atStart => exact ⟨0, Nat.zero_le _, rfl, rfl, congrArg Value.string (ByteArray.append_empty (b := WD)).symm, Below.refl _ _⟩
    case round =>
      obtain ⟨j, hj, rfl, rfl, rfl, hb⟩ := hrel
      have HBR := hid hb
      clear hb x5 q0 q1
      by_cases hlt : j < ns.length
      · have hji : (j : Int) < (ns.length : Int) := by omega
        obtain ⟨b, off, rfl, x0⟩ := (HI1.out.ext HBR.out).elem j hlt
        have HN := hid (HNS.out _ (List.getElem_mem hlt))
        have HS := hid (txt_snoc ns j hlt)
        have HL := hid (txt_len (ns := ns.take j) fun n hn => HNS.out n (List.mem_of_mem_take hn))
        have hlk : (ns.take j).length ≤ 4 := by rw [List.length_take]; omega
        obtain ⟨X, hX⟩ : ∃ X, ns[j] = X := ⟨_, rfl⟩
        obtain ⟨S, hS⟩ : ∃ S, txt (ns.take j) = S := ⟨_, rfl⟩
        rw [hX] at x0 HN HS
        rw [hS] at HS HL
        have HXL := hid (itoa_len HN.out)
        rw [hS]
        have HTR := hid (HT1.out.ext HBR.out)
        clear hX hS
        go_wp2_with fail
        refine (itoa_any X HN.out _ HTR.out).mono ?_; rintro e w' ⟨rfl, hb⟩
        have HBS := hid (HBR.out.trans (hb.mono HBR.out.size))
        clear hb
        have hs1 : 1 + (bs (Lib.itoa X)).size ≤ 9223372036854775807 := by rw [bs_size]; have := HXL.out; omega
        have hs2 : WD.size + (bs S).size + (1 + (bs (Lib.itoa X)).size) ≤ 9223372036854775807 := by rw [bs_size, bs_size, HWS.out]; have := HXL.out; have := HL.out; omega
        have hwk : IntKind.i64.wrap ((j : Int) + 1) = (j : Int) + 1 := IntWalk.i64_in _ (by omega)
        have HE := hid (show WD ++ bs S ++ (⟨#[32]⟩ ++ bs (Lib.itoa X)) = WD ++ bs (txt (ns.take (j + 1))) by
          rw [HS.out]
          show WD ++ bs S ++ (bs [32] ++ bs (Lib.itoa X)) = _
          rw [bs_add, ByteArray.append_assoc, bs_add]; rfl)
        go_wp2
        go_roundg (ns.length - (j + 1))
        case measure => omega
        case rel => exact ⟨j + 1, by omega, rfl, by congr 1, congrArg Value.string HE.out, HBS.out⟩
      · have hji : ¬ (j : Int) < (ns.length : Int) := by omega
        have HE := hid (show textA (m : Int) ns = WD ++ bs (txt (ns.take j)) by rw [HX.out, List.take_of_length_le (by omega)])
        have HF := hid (HB1.out.trans (HBR.out.mono HB1.out.size))
        go_wp2
        go_ret
        exact ⟨congrArg (fun b => Ending.returned (.string b)) HE.out.symm, HF.out⟩

end Go.Proofs.YtmoejdnodhmglaaDoor
