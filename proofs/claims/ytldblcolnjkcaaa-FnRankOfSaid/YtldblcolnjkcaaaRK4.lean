/- The law on ranks: the walk. No conditions. -/
import Derived.Test.YtldblcolnjkcaaaSH2
import Derived.Test.YtldblcolnjkcaaaRK1
import Derived.Test.YtldblcolnjkcaaaLEa
namespace Go.Proofs.Ytldblcolnjkcaaa
open Go.RowKit

theorem rank_dot {s i : List Int} (hs : isShapeL s = true) (hi : isIndexL s i = true) : rankOfL s i = dotI i (rowS s) := by
  have hb := index_box hi
  have hx := shape_ext hs
  have hp := box_pos hb
  have e : rankOfL s i = rankW s i := by simp [rankOfL, hs, hi]
  rw [e, rankW_eq hx.1 hx.2.1 (box_le hb fun x h => (hx.2.1 x h).2), rankF_dot s i 0 (index_len hi)]
  omega

set_option maxRecDepth 100000 in
set_option maxHeartbeats 6400000 in
theorem FnRankOf_walk (v : Value) (n : Nat) (w : World) (h : BytesV w v n) :
    Calls Try.prog 3 #[v] w fun e w' => e = .returned (.bool true) ∧ Below w.heap.size w w' := by
  have hv := h
  obtain ⟨A, c, rfl, h1, h2, -⟩ := h
  by_cases hn : 1048576 < n
  · have hni : (1048576 : Int) < (n : Int) := by omega
    go_enter Try.func3, Try.ntmps3
    go_wp2
    go_ret
    exact ⟨rfl, Below.refl _ _⟩
  have hni : ¬ (1048576 : Int) < (n : Int) := by omega
  go_enter Try.func3, Try.ntmps3
  go_wp2_with fail
  refine (DrawRankOf_any _ n _ hv).mono ?_; rintro e w1 ⟨u, v, s, i, rfl, hS, hI, hl, hl2, hz⟩
  obtain ⟨A1, c1, rfl⟩ := hS.form
  obtain ⟨A2, c2, rfl⟩ := hI.form
  have HL := hid (And.intro hl hl2)
  clear hl hl2 hv h1 h2
  go_wp2_with fail
  refine (RankOf_any _ _ s i _ hS hI).mono ?_; rintro e w' ⟨rfl, rfl⟩
  go_wp2_with fail
  refine (sRankOf_any _ _ s i _ hS hI).mono ?_; rintro e w2 ⟨rfl, hb⟩
  have hS := hS.nx hb
  have hI := hI.nx hb
  have hz := hz.nx hb hz.size
  clear hb
  cases hok : (isShapeL s && isIndexL s i)
  · have hR := rankOf_no hok
    rw [hR]
    clear hok
    go_wp2_with fail
    refine (sRankOf_any _ _ s i _ hS hI).mono ?_; rintro e w3 ⟨rfl, hb⟩
    rw [hR]
    go_wp2
    go_ret
    exact ⟨rfl, hz.nx hb hz.size⟩
  · simp only [Bool.and_eq_true] at hok
    obtain ⟨hs, hi⟩ := hok
    have hbx := index_box hi
    have hd := dot_row hbx
    have hp := shape_prod hs
    have HR := hid (rank_dot hs hi)
    have HU := hid hd.2.2
    have HS := hid hs
    have HPT := hid (fun k => dot_part hbx k)
    have HIL := hid (index_len hi)
    have HSL := hid (shape_ext hs).1
    have HC := hid (show countL s = prodI s by simp [countL, hs])
    rw [HR.out]
    have hil := index_len hi
    rw [hil] at hI ⊢
    clear hs hi hbx hil
    obtain ⟨R, hRR⟩ : ∃ R, dotI i (rowS s) = R := ⟨_, rfl⟩
    have HRR := hid hRR
    rw [hRR] at hd ⊢
    have hr0 : ¬ R < 0 := by omega
    have hrb : 0 ≤ R ∧ R < prodI s := ⟨hd.1, hd.2.1⟩
    clear hRR hd
    go_wp2_with fail
    refine (RowStrides_any _ s _ hS HS.out).mono ?_; rintro e w3 ⟨st, rfl, hst, hb⟩
    have hS := hS.nx hb
    have hI := hI.nx hb
    have hz := hz.nx hb hz.size
    obtain ⟨A3, c3, rfl⟩ := hst.form
    have HRL := hid (rowS_length s)
    rw [HRL.out] at hst ⊢
    have hsl := HSL.out
    have hrw : IntKind.i64.wrap R = R := IntWalk.i64_in _ (by omega)
    clear hb
    go_wp2_with fail
    go_loopg [6, 8] s.length (fun m x z wr => ∃ k : Nat, k ≤ s.length ∧ m = s.length - k ∧ z = .int .i64 k ∧ x = .int .i64 (dotI (i.take k) (rowS s)) ∧ Below w3.heap.size w3 wr)
    case atStart => exact ⟨0, Nat.zero_le _, rfl, rfl, by simp [dotI], Below.refl _ _⟩
    case round =>
      obtain ⟨k, hk, hm, rfl, rfl, hB⟩ := hrel
      have HM := hid hm
      have HB := hid hB
      have hS := hS.nx hB
      have hI := hI.nx hB
      have hst := hst.nx hB
      clear hm hB
      by_cases hlt : k < s.length
      · have hki : (k : Int) < (s.length : Int) := by omega
        have hlt2 : k < i.length := by rw [HIL.out]; exact hlt
        have hlt3 : k < (rowS s).length := by rw [HRL.out]; exact hlt
        obtain ⟨b1, off1, rfl, hx⟩ := hI.elem k hlt2
        obtain ⟨b2, off2, rfl, hy⟩ := hst.ints.elem k hlt3
        have hsn := dot_snoc i (rowS s) k hlt2 hlt3
        have HSN := hid hsn
        have hp0 := HPT.out k
        have hp1 := HPT.out (k + 1)
        rw [HRR.out] at hp0 hp1
        generalize i[k] = I at *
        generalize (rowS s)[k] = S at *
        generalize dotI (i.take k) (rowS s) = D at *
        have hw1 : IntKind.i64.wrap (I * S) = I * S := IntWalk.i64_in _ (by omega)
        have hw2 : IntKind.i64.wrap (D + I * S) = D + I * S := IntWalk.i64_in _ (by omega)
        clear hsn hlt2 hlt3
        go_upto_region 12 with fail
        go_quiet (fail)
        go_wp2
        go_roundg (s.length - (k + 1))
        case measure => have := HM.out; omega
        case rel => exact ⟨k + 1, by omega, rfl, by go_num, by rw [HSN.out], HB.out.trans ((below_drewN _ _).mono HB.out.size)⟩
      · have hki : ¬ (k : Int) < (s.length : Int) := by omega
        have he : dotI (i.take k) (rowS s) = R := by rw [List.take_of_length_le (by rw [HIL.out]; omega), HRR.out]
        have hz := hz.nx HB.out hz.size
        rw [he]
        clear he
        go_wp2_with fail
        refine (IndexAt_any _ s R _ hS HS.out hrb).mono ?_; rintro e w4 ⟨x, rfl, hx, hb⟩
        have hx2 := hx.ints
        rw [← HRR.out, HU.out] at hx2
        have hS := hS.nx hb
        have hI := hI.nx hb
        have hz := hz.nx hb hz.size
        clear hb hx
        go_wp2_with fail
        refine (equalInts_same _ _ i _ hx2 hI).mono ?_; rintro e w5 ⟨rfl, hb⟩
        have hS := hS.nx hb
        have hz := hz.nx hb hz.size
        clear hb
        go_wp2_with fail
        refine (CountOf_any _ s _ hS).mono ?_; rintro e w' ⟨rfl, rfl⟩
        rw [HC.out]
        have hlast := hrb.2
        go_wp2
        go_ret
        exact ⟨rfl, hz⟩

end Go.Proofs.Ytldblcolnjkcaaa
