/- The law on unpacked lists of items: the walk. No conditions. -/
import Derived.Test.YtmiamnaholnnoaaUA3
import Derived.Test.YtmiamnaholnnoaaU2
import Derived.Test.YtmiamnaholnnoaaFL2
import Derived.Test.YtmiamnaholnnoaaFLp
import Derived.Test.YtmiamnaholnnoaaKN
import Derived.Test.YtmiamnaholnnoaaLE2
import Derived.Deep.Cut
namespace Go.Proofs.Ytmiamnaholnnoaa
open Go.RowKit

theorem pow4 {n : Nat} (h : n ≤ 4) : (256 : Int) ^ n ≤ 4294967296 := by
  have : n = 0 ∨ n = 1 ∨ n = 2 ∨ n = 3 ∨ n = 4 := by omega
  rcases this with rfl | rfl | rfl | rfl | rfl <;> decide
set_option maxRecDepth 100000 in
set_option maxHeartbeats 6400000 in
theorem FnUnpackAll_walk (v : Value) (n : Nat) (w : World) (h : BytesV w v n) :
    Calls Try.prog 7 #[v] w fun e w' => e = .returned (.bool true) ∧ Below w.heap.size w w' := by
  have hv := h
  obtain ⟨A, c, rfl, h1, h2, -⟩ := h
  by_cases hn : 1048576 < n
  · have hni : (1048576 : Int) < (n : Int) := by omega
    go_enter Try.func7, Try.ntmps7
    go_wp2
    go_ret
    exact ⟨rfl, Below.refl _ _⟩
  have hni : ¬ (1048576 : Int) < (n : Int) := by omega
  go_enter Try.func7, Try.ntmps7
  go_wp2_with fail
  refine (DrawUnpackAll_any _ n _ hv).mono ?_; rintro e w1 ⟨F, sv, vv, bs, rfl, hl, hS, hV, hvl, -, hb1⟩
  obtain ⟨A1, c1, rfl⟩ := hS.form
  obtain ⟨A2, c2, rfl⟩ := hV.form
  have hBx := FBox.new hS
  have hb2 := below_alloc w1 (.cells #[.slice A1 F.sizes.length c1, .bool F.big, .bool F.aligned] 25)
  have hz := hb1.nx hb2 hb1.size
  have hV := hV.nx hb2
  clear hb1 hb2 hS
  have HL := hid (And.intro hl hvl)
  clear hl hvl
  go_wp2_with fail
  generalize w1.alloc (.cells #[.slice A1 F.sizes.length c1, .bool F.big, .bool F.aligned] 25) = w2 at *
  refine (UnpackAll_any _ _ F bs _ hBx.format hV).mono ?_; rintro e w3 ⟨u, us, rfl, hu, hb⟩
  have hu := hu.ints
  obtain ⟨Au, cu, rfl, huc, hum⟩ := hu.form
  have hBx := hBx.nx hb
  have hz := hz.nx hb hz.size
  have hV := hV.nx hb
  clear hb
  obtain ⟨⟨q0, q1, q2⟩, -⟩ := id hBx.blk.all3
  go_wp2_with fail
  refine (sUnpackAll_any _ _ F bs _ hBx.format hV).mono ?_; rintro e w4 ⟨u2, us2, rfl, hu2, hb⟩
  have hu2 := hu2.ints
  obtain ⟨Ax, cx, rfl, -⟩ := hu2.form
  have hBx := hBx.nx hb
  have hz := hz.nx hb hz.size
  have hV := hV.nx hb
  have hu := hu.ext hb
  clear hb q0 q1 q2
  go_wp2_with fail
  refine (equalLists_same _ _ _ _ hu hu2).mono ?_; rintro e w5 ⟨rfl, hb⟩
  have hBx := hBx.nx hb
  have hz := hz.nx hb hz.size
  have hV := hV.nx hb
  have hu := hu.ext hb
  have hu2 := hu2.ext hb
  clear hb
  cases hok : okUA F bs
  · clear hok
    go_wp2_with fail
    refine (equalLists_same _ _ _ _ hu hu2).mono ?_; rintro e w6 ⟨rfl, hb⟩
    go_wp2
    go_ret
    exact ⟨rfl, hz.nx hb hz.size⟩
  · obtain ⟨hF, hbl, hby, hdiv⟩ := okUA_and hok
    have HOK := hid hok
    have HF := hid hF
    obtain ⟨s, hs⟩ : ∃ s : Nat, sizeF F = (s : Int) := ⟨(sizeF F).toNat, by have := size_bd hF; omega⟩
    have hst : (sizeF F).toNat = s := by omega
    have hsb : 1 ≤ s ∧ s ≤ 38 := by have := size_bd hF; omega
    obtain ⟨m, hm⟩ : ∃ m, m = bs.length / (sizeF F).toNat := ⟨_, rfl⟩
    have hml : (unpackAllL F bs).length = m := by unfold unpackAllL; rw [if_pos hok, itemsTo_length, hm]
    have HML := hid hml
    have HMD := hid hm
    have HS := hid hs
    have HST := hid hst
    have HBY := hid hby
    have hm60 : m ≤ 60 := by rw [hm]; exact Nat.le_trans (Nat.div_le_self _ _) hbl
    have hlz := HL.out.1
    rw [hml] at hu huc ⊢
    clear hok hF hdiv hs hst hm hby hu2 hml
    go_wp2_with fail
    go_loopg [9, 10, 11, 12, 13, 14, 15] F.sizes.length (fun g' z v10 v11 v12 v13 v14 v15 wr => ∃ k : Nat, k ≤ F.sizes.length ∧ g' = F.sizes.length - k ∧ z = .int .i64 k ∧ Below w5.heap.size w5 wr)
    case atStart => exact ⟨0, Nat.zero_le _, rfl, rfl, Below.refl _ _⟩
    case round =>
      obtain ⟨k, hk, hm, rfl, hB⟩ := hrel
      have HM := hid hm
      have HB := hid hB
      have hBx := hBx.nx hB
      have hV := hV.nx hB
      have hu := hu.ext hB
      have hz := hz.nx hB hz.size
      clear hm hB
      obtain ⟨⟨q0, q1, q2⟩, -⟩ := id hBx.blk.all3
      by_cases hlt : k < F.sizes.length
      · have hki : (k : Int) < (F.sizes.length : Int) := by omega
        by_cases hm0 : 0 < m
        · have hm0i : (0 : Int) < (m : Int) := by omega
          obtain ⟨hh, hkv⟩ := fv_hold HOK.out hlt HMD.out hm0
          have hfv : fvL F k m = rawFV F k m := by unfold fvL; rw [if_pos hkv]
          obtain ⟨sk, B, hsk, hsk1, hsk4, hall⟩ := fv_all HOK.out hlt HMD.out hm0
          have HALL := hid hall
          clear hall
          go_wp2_with fail
          refine (FieldView_any _ F k m _ hBx.format (by omega) (by omega)).mono ?_; rintro e w6 ⟨sv, tv, rfl, hsv, htv, hsep, hb⟩
          rw [hfv] at hsv htv ⊢
          rw [hkv]
          obtain ⟨As, cs, rfl⟩ := hsv.form
          obtain ⟨At, ct, rfl⟩ := htv.form
          have hW6 := hsv.view htv
          have hBx := hBx.nx hb
          have hV := hV.nx hb
          have hu := hu.ext hb
          have hz6 := HB.out.nx hb HB.out.size
          have hb7 := below_alloc w6 (.cells #[.int .i64 (rawFV F k m).base, .slice As (rawFV F k m).shape.length cs, .slice At (rawFV F k m).strides.length ct] 47)
          have hBx := hBx.nx hb7
          have hV := hV.nx hb7
          have hu := hu.ext hb7
          have hz7 := hz6.nx hb7 hz6.size
          have hW7 := hW6.nx hb7
          clear hb q0 q1 q2 hsep hz6 hb7 hfv hkv hsv htv hh hz
          generalize rawFV F k m = V at *
          go_wp2_with fail
          generalize w6.alloc (.cells #[.int .i64 V.base, .slice As V.shape.length cs, .slice At V.strides.length ct] 47) = w7 at *
          refine (LoadView_anyN _ _ bs V _ hV hW7).mono ?_; rintro e w8 ⟨lv, rfl, hlv, hb⟩
          have hBx := hBx.nx hb
          have hu := hu.ext hb
          have HZ8 := hid (hz7.nx hb hz7.size)
          obtain ⟨Al, cl, rfl⟩ := hlv.form
          clear hb hz7 hV hW7 hW6
          generalize loadL bs V = LD at *
          go_wp2_with fail
          go_loopg [13, 14, 15] m (fun g' z v14 v15 wy => ∃ i : Nat, i ≤ m ∧ g' = m - i ∧ z = .int .i64 i ∧ wy = w8)
          case atStart => exact ⟨0, Nat.zero_le _, rfl, rfl, rfl⟩
          case round =>
            obtain ⟨i, hi, hm2, rfl, rfl⟩ := hrel
            have HM2 := hid hm2
            clear hm2
            obtain ⟨⟨q0, q1, q2⟩, -⟩ := id hBx.blk.all3
            by_cases hlt2 : i < m
            · have hii : (i : Int) < (m : Int) := by omega
              obtain ⟨hbl2, hby2, hld, rw_, hrw1, hrw2⟩ := HALL.out i hlt2
              obtain ⟨bz, oz, ez, hxz⟩ := hBx.elem k hlt
              subst ez
              rw [hsk] at hxz
              obtain ⟨hrl, hrw1⟩ := List.getElem?_eq_some_iff.1 hrw1
              obtain ⟨hrk, hrw2⟩ := List.getElem?_eq_some_iff.1 hrw2
              obtain ⟨b2, off2, u2, e2, hy, hj⟩ := hu.elem i hrl
              subst e2
              rw [hrw1] at hj
              obtain ⟨Ar, cr, er⟩ := hj.form
              subst er
              obtain ⟨b3, off3, e3, hy3⟩ := hj.elem k hrk
              subst e3
              rw [hrw2] at hy3
              have hkr : (k : Int) < (rw_.length : Int) := by omega
              generalize B i = Bi at *
              have HBL := hid hbl2
              have HBY2 := hid hby2
              have HLD := hid hld
              clear hbl2 hby2 hld hrw1 hrw2 hj hrl hrk
              have hw1 : IntKind.i64.wrap ((sk : Int) - 1) = (sk : Int) - 1 := IntWalk.i64_in _ (by omega)
              have hD0 : numLE (Bi.drop sk) = 0 := by rw [List.drop_eq_nil_of_le (by rw [HBL.out]; exact Nat.le_refl _)]; rfl
              have HD0 := hid hD0
              clear hD0
              obtain ⟨wo, rfl⟩ : ∃ wo : World, wo = wr := ⟨_, rfl⟩
              go_wp2_with fail
              go_loopg [14, 15] sk (fun g' z14 z15 wy => ∃ jj : Nat, jj ≤ sk ∧ g' = jj ∧ z15 = .int .i64 ((jj : Int) - 1) ∧ z14 = .int .i64 (numLE (Bi.drop jj)) ∧ wy = wo)
              case atStart => exact ⟨sk, Nat.le_refl _, rfl, rfl, by rw [HD0.out], rfl⟩
              case round =>
                obtain ⟨jj, hjj, hm3, rfl, rfl, rfl⟩ := hrel
                have HM3 := hid hm3
                clear hm3
                by_cases hj0 : 0 < jj
                · obtain ⟨q, rfl⟩ : ∃ q, jj = q + 1 := ⟨jj - 1, by omega⟩
                  have eq1 : ((q + 1 : Nat) : Int) - 1 = (q : Int) := by omega
                  rw [eq1]
                  have hqB : q < Bi.length := by rw [HBL.out]; omega
                  have hld := HLD.out q (by omega)
                  rw [List.getElem?_eq_getElem hqB] at hld
                  obtain ⟨hpq, hld⟩ := List.getElem?_eq_some_iff.1 hld
                  have hXb := HBY2.out Bi[q] (List.getElem_mem hqB)
                  have HND := hid (numLE_drop Bi q hqB)
                  have hNb : 0 ≤ numLE (Bi.drop (q + 1)) ∧ numLE (Bi.drop (q + 1)) ≤ 4294967296 := by
                    have h1 := numLE_bd (Bi.drop (q + 1)) (fun b hb => HBY2.out b (List.mem_of_mem_drop hb))
                    have h2 := pow4 (n := (Bi.drop (q + 1)).length) (by rw [List.length_drop, HBL.out]; omega)
                    omega
                  generalize Bi[q] = X at *
                  generalize numLE (Bi.drop (q + 1)) = N at *
                  obtain ⟨gl, cl', el, hg1, hg2⟩ := hlv.row (by omega)
                  simp only [Value.slice.injEq, true_and] at el
                  obtain ⟨rfl, rfl⟩ := el
                  have hcx := hlv.cell (i * sk + q) hpq
                  rw [hld] at hcx
                  obtain ⟨pp, hpp⟩ : ∃ pp, pp = i * sk := ⟨_, rfl⟩
                  have hw2 : IntKind.i64.wrap ((i : Int) * (sk : Int)) = (pp : Int) := by
                    have e : (i : Int) * (sk : Int) = (pp : Int) := by rw [hpp]; exact (Int.natCast_mul i sk).symm
                    have := hlv.ints
                    obtain ⟨_, _, e9, _, hc9, _⟩ := this
                    have hpl : pp ≤ 3600 := by rw [hpp]; exact Nat.le_trans (Nat.mul_le_mul (show i ≤ 60 by omega) (show sk ≤ 4 by omega)) (by omega)
                    rw [e]; exact IntWalk.i64_in _ (by omega)
                  have hpl : pp ≤ 3600 := by rw [hpp]; exact Nat.le_trans (Nat.mul_le_mul (show i ≤ 60 by omega) (show sk ≤ 4 by omega)) (by omega)
                  rw [← hpp] at hcx hpq
                  have hw3 : IntKind.i64.wrap ((pp : Int) + (q : Int)) = (pp : Int) + (q : Int) := IntWalk.i64_in _ (by omega)
                  have ht3 : ((pp : Int) + (q : Int)).toNat = pp + q := by omega
                  have h03 : (0 : Int) ≤ (pp : Int) + (q : Int) := by omega
                  have hl3 : (pp : Int) + (q : Int) < (LD.length : Int) := by omega
                  have hw4 : IntKind.i64.wrap (256 * N) = 256 * N := IntWalk.i64_in _ (by omega)
                  have hw5 : IntKind.i64.wrap (256 * N + X) = 256 * N + X := IntWalk.i64_in _ (by omega)
                  have hw6 : IntKind.i64.wrap ((q : Int) - 1) = (q : Int) - 1 := IntWalk.i64_in _ (by omega)
                  clear hld hpp
                  go_wp2
                  go_roundg q
                  case measure => have := HM3.out; omega
                  case rel => exact ⟨q, by omega, rfl, rfl, by rw [HND.out]; congr 1; omega, rfl⟩
                · obtain rfl : jj = 0 := by omega
                  rw [List.drop_zero]
                  go_wp2
                  go_roundg (m - (i + 1))
                  case measure => have := HM2.out; omega
                  case rel => exact ⟨i + 1, by omega, rfl, by go_num, rfl⟩
            · have hii : ¬ (i : Int) < (m : Int) := by omega
              go_wp2
              go_roundg (F.sizes.length - (k + 1))
              case measure => have := HM.out; omega
              case rel => exact ⟨k + 1, by omega, rfl, by go_num, HZ8.out⟩
        · have hm0i : ¬ (0 : Int) < (m : Int) := by omega
          go_wp2_with fail
          refine (ItemSize_any _ F _ hBx.format HF.out).mono ?_; rintro e w9 ⟨rfl, hb⟩
          rw [HS.out]
          have hq : IntKind.i64.wrap ((bs.length : Int) / (s : Int)) = (m : Int) := by
            have hd := Nat.div_le_self bs.length s
            have e : (bs.length : Int) / (s : Int) = ((bs.length / s : Nat) : Int) := (Int.natCast_ediv _ _).symm
            rw [HMD.out, HST.out, e]
            clear e
            generalize bs.length / s = D at *
            exact IntWalk.i64_in _ (by omega)
          have hsz : ¬ s = 0 := by omega
          clear q0 q1 q2
          go_wp2
          go_ret
          exact ⟨rfl, hz.nx hb hz.size⟩
      · have hki : ¬ (k : Int) < (F.sizes.length : Int) := by omega
        go_wp2_with fail
        refine (ItemSize_any _ F _ hBx.format HF.out).mono ?_; rintro e w9 ⟨rfl, hb⟩
        rw [HS.out]
        have hq : IntKind.i64.wrap ((bs.length : Int) / (s : Int)) = (m : Int) := by
          have hd := Nat.div_le_self bs.length s
          have e : (bs.length : Int) / (s : Int) = ((bs.length / s : Nat) : Int) := (Int.natCast_ediv _ _).symm
          rw [HMD.out, HST.out, e]
          clear e
          generalize bs.length / s = D at *
          exact IntWalk.i64_in _ (by omega)
        have hsz : ¬ s = 0 := by omega
        clear q0 q1 q2
        go_wp2
        go_ret
        exact ⟨rfl, hz.nx hb hz.size⟩

end Go.Proofs.Ytmiamnaholnnoaa
