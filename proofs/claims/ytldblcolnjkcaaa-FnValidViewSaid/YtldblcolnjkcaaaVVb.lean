/- Gm, SH1, Gv, Gbv, Gb, AD4, Y7v8, Y9v8, GF, TN1, EXp, RKp, NVp, C9a, V4, IE, RK1, SDp, V5, V6, E1a, E1, SD1, G2, E2, DS2 in one text. No conditions. (printed by merge.py) -/
import Derived.Test.YtldblcolnjkcaaaGw
import Derived.Test.YtldblcolnjkcaaaHp
import Derived.Test.YtldblcolnjkcaaaDD
import Derived.Test.YtldblcolnjkcaaaS1
import Derived.Test.YtldblcolnjkcaaaC3
import Derived.Test.YtldblcolnjkcaaaT0
import Derived.Test.YtldblcolnjkcaaaV7
import Derived.Test.YtldblcolnjkcaaaDM
import Derived.Test.YtldblcolnjkcaaaAD1
import Derived.Test.YtldblcolnjkcaaaAD3
import Derived.Test.YtldblcolnjkcaaaGp
import Derived.Test.YtldblcolnjkcaaaS2
import Derived.StillTailTactics
import Derived.Deep.Cut
import Derived.Test.YtldblcolnjkcaaaI1b
import Derived.Test.YtldblcolnjkcaaaY6
import Derived.Test.YtldblcolnjkcaaaY4
import Derived.Test.YtldblcolnjkcaaaV2v8
import Derived.Test.YtldblcolnjkcaaaY5
import Derived.Test.YtldblcolnjkcaaaY8
import Derived.Test.YtldblcolnjkcaaaD2v8
import Derived.Test.YtldblcolnjkcaaaC4
import Derived.Test.YtldblcolnjkcaaaSR
import Derived.Deep.LoopGhost
import Derived.Test.YtldblcolnjkcaaaV3
import Derived.Test.YtldblcolnjkcaaaG1
import Derived.Test.YtldblcolnjkcaaaG3
import Derived.Outline
import Derived.Deep.QuietTactic
import Derived.BigQuiet
import Derived.Test.YtldblcolnjkcaaaBase
import Derived.Test.YtldblcolnjkcaaaC6a
import Derived.Lib.SliceRun
import Derived.Deep.RegionLaw
import Derived.IntWalk
import Derived.Deep.RegionHeld3
import Derived.Test.YtldblcolnjkcaaaD2a
import Derived.Test.YtldblcolnjkcaaaD3m
import Derived.Test.YtldblcolnjkcaaaDS1

/-! ## Gm -/
namespace Go.Proofs.Ytldblcolnjkcaaa
open Go.RowKit

/-- As run_app_lit; a row that is not empty lies in a new block. -/
theorem run_app_lit2 (w : World) (ty : TypeId) (B g : Nat) (hE : Own w B (.slice (some ⟨g, 0, none⟩) 0 0) []) (A : Option Addr) (m c : Nat) (news : List Int) (hx : Ints w (.slice A m c) news)
    (hlen : news.length ≤ 1000000000000) (hB : B ≤ w.heap.size) :
    ∃ v' w', (Builtin.append_ #[23, 23] ty #[.slice (some ⟨g, 0, none⟩) 0 0, .slice A m c]).run Try.prog w = .ok v' w' ∧ Own w' B v' news ∧ Below w.heap.size w w' ∧
      (0 < news.length → v'.ownBlock = some w.heap.size) ∧ (news.length = 0 → v' = .slice (some ⟨g, 0, none⟩) 0 0) := by
  obtain ⟨i0, hi, hz0, hz1, hz2⟩ := info_parts Try.infoInt
  rcases Nat.eq_zero_or_pos news.length with h0 | h0
  · obtain ⟨A', c', hv, h1, h2, h3⟩ := hx
    simp only [Value.slice.injEq] at hv
    obtain ⟨rfl, rfl, rfl⟩ := hv
    have hn : news = [] := List.eq_nil_of_length_eq_zero h0
    subst hn
    refine ⟨.slice (some ⟨g, 0, none⟩) 0 0, w, ?_, hE, Below.refl _ _, fun h => absurd h (by simp), fun _ => rfl⟩
    cases A <;> simp [Builtin.append_, run_underlying Try.underlying23, sizeOf, typeInfo, hi, Builtin.lenOf, Builtin.firstCells, storeCells, loadCells, loadCellsFrom]
  · obtain ⟨A', c', hv, h1, h2, h3⟩ := hx
    simp only [Value.slice.injEq] at hv
    obtain ⟨rfl, rfl, rfl⟩ := hv
    obtain ⟨b, off, e, hlt, hc⟩ := h3 h0
    subst e
    have hby : i0.bytes = 8 := by rw [hz2]
    have hrun := run_append_grow (P := Try.prog) (w := w) 23 ty 3 i0 (.int .i64 0) Try.underlying23 hi hz0 ⟨g, 0, none⟩ 0 0 [] (by simp) (by simp) ⟨b, off, none⟩ news.length c (news.map (Value.int .i64)) (by rw [hz1]; simp)
      (by
        intro j u hj
        have hjl : j < news.length := by have := (List.getElem?_eq_some_iff.1 hj).1; simpa using this
        have e2 : (⟨b, off, none⟩ : Addr).add j = ⟨b, off + j, none⟩ := by unfold Addr.add; split <;> simp_all
        rw [e2]
        rw [List.getElem?_map, List.getElem?_eq_getElem hjl] at hj
        simp at hj
        subst hj
        exact hc j _ (by simp [hjl]))
      (by omega) (by omega) (by rw [nextslicecap_zero (by omega), hby]; omega)
    have hge := grownCap_ge w (0 + news.length) 0 3
    have hcm : grownCap w (0 + news.length) 0 3 ≤ maxLen := grownCap_le_maxLen w (0 + news.length) 0 3 (by unfold maxLen; omega)
    simp only [Nat.zero_add] at hrun hge hcm
    refine ⟨_, _, hrun, ?_, (Below.refl _ _).drew.alloc (by simp) _, fun _ => rfl, fun h => by omega⟩
    refine ⟨by simp, .inr ⟨w.heap.size, _, _, rfl, hB, heap_alloc_new w.drew _, hge, hcm, ?_, ?_⟩⟩
    · simp [size_zeroCells, Value.cells]; omega
    · simp

def Ent.lit (N : Nat) : Ent := ⟨fun _ w v => ∃ g, v = .slice (some ⟨g, 0, none⟩) 0 0 ∧ N ≤ g ∧ Own w N v [], fun v => ∃ g, v = .slice (some ⟨g, 0, none⟩) 0 0 ∧ N ≤ g, fun v b => v = .slice (some ⟨b, 0, none⟩) 0 0⟩
theorem Ent.lit_good (N : Nat) : Good (Ent.lit N) :=
  ⟨fun _ _ _ _ hb ⟨g, h1, h2, h3⟩ => ⟨g, h1, h2, Own.ext h3 hb⟩, fun _ _ _ ⟨g, h1, h2, _⟩ => ⟨g, h1, h2⟩, ⟨_, N, rfl, Nat.le_refl _⟩, fun _ _ _ b ⟨_, _, _, h3⟩ hb => (Own.lt h3 b (by rw [show _ = Value.slice (some ⟨b, 0, none⟩) 0 0 from hb]; rfl)).2⟩
/-- What an append to a literal leaves: where it is empty, the literal itself. -/
def Ent.app (N : Nat) (xs : List Int) : Ent := ⟨fun d w v => Own w N v xs ∧ (xs.length = 0 → v = d.getD 0 undef), fun v => ∃ A c, v = .slice A xs.length c, fun v b => 0 < xs.length ∧ v.ownBlock = some b⟩
theorem Ent.app_good (N : Nat) (xs : List Int) : Good (Ent.app N xs) :=
  ⟨fun _ _ _ _ hb h => ⟨h.1.ext hb, h.2⟩, fun _ _ _ h => h.1.form, ⟨.slice none xs.length 0, none, 0, rfl⟩, fun _ _ _ b h hb => (h.1.lt b hb.2).2⟩
/-- A slice made with n zeros. -/
def Ent.made (N n : Nat) : Ent := ⟨fun _ w v => ∃ g, v = .slice (some ⟨g, 0, none⟩) n n ∧ N ≤ g ∧ Own w N v (List.replicate n 0), fun v => ∃ g, v = .slice (some ⟨g, 0, none⟩) n n ∧ N ≤ g, fun v b => v = .slice (some ⟨b, 0, none⟩) n n⟩
theorem Ent.made_good (N n : Nat) : Good (Ent.made N n) :=
  ⟨fun _ _ _ _ hb ⟨g, h1, h2, h3⟩ => ⟨g, h1, h2, Own.ext h3 hb⟩, fun _ _ _ ⟨g, h1, h2, _⟩ => ⟨g, h1, h2⟩, ⟨_, N, rfl, Nat.le_refl _⟩, fun _ _ _ b ⟨_, _, _, h3⟩ hb => (Own.lt h3 b (by rw [show _ = Value.slice (some ⟨b, 0, none⟩) n n from hb]; rfl)).2⟩

section
variable {ops : Array Oper} {W : World} {R : Act → World → Prop} {k : Nat} {Es : List Ent} {o : Oper} {rest : List Oper} {a : Act} {s : Seen}
theorem grow_lit (hop : o.op = .buildSlice 23 0 #[]) (hw : Region.wanted o (yielded ops a.tmps) = true)
    (hr : ∀ g, W.heap.size ≤ g → ∀ (F : World → Prop) (O : Nat → Prop), (∀ w, F w → Own w W.heap.size (.slice (some ⟨g, 0, none⟩) 0 0) []) → O g → wpGrow Try.prog ops W R (k + 1) Es rest (a.put o.dst (.slice (some ⟨g, 0, none⟩) 0 0)) (s.push (.slice (some ⟨g, 0, none⟩) 0 0) F O)) :
    wpGrow Try.prog ops W R k (Ent.lit W.heap.size :: Es) (o :: rest) a s := by
  refine grow_mk _ (Ent.lit_good _) hw (fun x _ _ K Q hK => ?_) fun v hV F O hF hO => ?_
  · refine wp_lit x.v hop fun g w' ho hg _ hb => hK _ w' hb ⟨g, rfl, Nat.le_trans x.h.size hg, ho.mono x.h.size⟩ fun b hb => ?_
    have e : Value.slice (some ⟨g, 0, none⟩) 0 0 = .slice (some ⟨b, 0, none⟩) 0 0 := hb
    simp only [Value.slice.injEq, Option.some.injEq, Addr.mk.injEq, and_true] at e
    omega
  · obtain ⟨g, rfl, hg⟩ := hV
    exact hr g hg F O (fun w hw => by obtain ⟨_, _, _, h⟩ := hF w hw; exact h) (hO g rfl)
theorem grow_made (n : Nat) (l c : Operand) (hop : o.op = Op.makeSlice 23 l c) (hl : a.eval l = .int .i64 n) (hc : a.eval c = .int .i64 n) (hn : n ≤ 1000000000000) (hw : Region.wanted o (yielded ops a.tmps) = true)
    (hr : ∀ g, W.heap.size ≤ g → ∀ (F : World → Prop) (O : Nat → Prop), (∀ w, F w → Own w W.heap.size (.slice (some ⟨g, 0, none⟩) n n) (List.replicate n 0)) → O g → wpGrow Try.prog ops W R (k + 1) Es rest (a.put o.dst (.slice (some ⟨g, 0, none⟩) n n)) (s.push (.slice (some ⟨g, 0, none⟩) n n) F O)) :
    wpGrow Try.prog ops W R k (Ent.made W.heap.size n :: Es) (o :: rest) a s := by
  refine grow_mk _ (Ent.made_good _ _) hw (fun x _ _ K Q hK => ?_) fun v hV F O hF hO => ?_
  · refine wp_mk x.v l c hop n hl hc hn fun g w' ho hg _ hb => hK _ w' hb ⟨g, rfl, Nat.le_trans x.h.size hg, ho.mono x.h.size⟩ fun b hb => ?_
    have e : Value.slice (some ⟨g, 0, none⟩) n n = .slice (some ⟨b, 0, none⟩) n n := hb
    simp only [Value.slice.injEq, Option.some.injEq, Addr.mk.injEq, and_true] at e
    omega
  · obtain ⟨g, rfl, hg⟩ := hV
    exact hr g hg F O (fun w hw => by obtain ⟨_, _, _, h⟩ := hF w hw; exact h) (hO g rfl)
/-- Append to a literal that the region has made. -/
theorem grow_app (j : Nat) (t x : Operand) (ho : o.op = .call { callee := .builtin .append, args := #[t, x], argTypes := #[23, 23] }) (xs : List Int) (hlen : xs.length ≤ 1000000000000)
    (g : Nat) (ht : a.eval t = .slice (some ⟨g, 0, none⟩) 0 0) (A : Option Addr) (m c : Nat) (hx : a.eval x = .slice A m c) (hw : Region.wanted o (yielded ops a.tmps) = true)
    (hd : ((autoDeps ops k).map s.val).getD 0 undef = .slice (some ⟨g, 0, none⟩) 0 0) (hj : (autoDeps ops k).contains j = true)
    (hlit : ∀ w, s.fact j w → Own w W.heap.size (.slice (some ⟨g, 0, none⟩) 0 0) []) (hn : ∀ x : ExtW W, Ints x.v (.slice A m c) xs)
    (hr : ∀ A c, ∀ (F : World → Prop) (O : Nat → Prop), (∀ w, F w → Own w W.heap.size (.slice A xs.length c) xs ∧ ∀ b, (Value.slice A xs.length c).ownBlock = some b → b = g ∨ O b) →
      wpGrow Try.prog ops W R (k + 1) Es rest (a.put o.dst (.slice A xs.length c)) (s.push (.slice A xs.length c) F O)) :
    wpGrow Try.prog ops W R k (Ent.app W.heap.size xs :: Es) (o :: rest) a s := by
  refine ⟨Ent.app_good _ _, fun w hC hF _ K Q hK => ?_, fun v hV => ?_⟩
  · rw [if_pos hw]
    obtain ⟨v', w', hr', h2, h3, h4, h5⟩ := run_app_lit2 w o.type W.heap.size g (hlit w (hF j hj)) A m c xs (hn ⟨w, hC⟩) hlen hC.size
    unfold Oper.wp execOp
    simp only [ho, resolve, invoke, builtin, Sem.run_bind, Sem.run_pure, Result.andThen_ok, List.map_toArray, List.map_cons, List.map_nil, ht, hx, hr']
    refine hK v' w' ⟨h3, ⟨h2, fun h0 => by rw [h5 h0, hd]⟩, fun b hb => ?_⟩
    have e := h4 hb.1
    rw [hb.2] at e
    injection e with e
    omega
  · obtain ⟨A', c', rfl⟩ := hV
    refine hr A' c' _ _ fun w h => ⟨h.1, fun b hb => ?_⟩
    by_cases h0 : 0 < xs.length
    · exact .inr ⟨h0, hb⟩
    · refine .inl ?_
      rw [h.2 (by omega), hd] at hb
      injection hb with hb
      exact hb.symm
end

end Go.Proofs.Ytldblcolnjkcaaa

/-! ## SH1 -/
namespace Go.Proofs.Ytldblcolnjkcaaa
open Go.RowKit

theorem isShapeL_snoc {xs : List Int} {x : Int} (h : isShapeL xs = true) (hl : xs.length < 4) (hx : 0 ≤ x ∧ x ≤ 60) (hp : prodI xs * x ≤ 60) : isShapeL (xs ++ [x]) = true := by
  obtain ⟨h1, h2, -⟩ := shape_ext h
  have h2' : ∀ y ∈ xs ++ [x], 0 ≤ y ∧ y ≤ 60 := fun y hy => by
    rcases List.mem_append.1 hy with hy | hy
    · exact h2 y hy
    · simp at hy; subst hy; exact hx
  have b := prodW_eq (xs := xs ++ [x]) (by simp; omega) h2'
  simp only [isShapeL, Bool.and_eq_true, decide_eq_true_eq, List.all_eq_true, okExt, inR_iff]
  exact ⟨⟨by simp; omega, h2'⟩, by rw [b.1, prodI_snoc]; exact hp⟩
/-- What drawing a shape leaves. -/
def RetShapeR (N g p : Nat) (w : World) (e : Ending) (w' : World) : Prop := ∃ (u : Value) (xs : List Int) (q : Nat), e = .returned u ∧ isShapeL xs = true ∧ (∀ x ∈ xs, x ≤ 5) ∧ Own w' w.heap.size u xs ∧ q ≤ p + 5 ∧ Rd N w' g q ∧ w.grownBy w' (some g)

set_option maxRecDepth 100000 in
set_option maxHeartbeats 6400000 in
theorem goodShape_any (N g p : Nat) (w : World) (h : Rd N w g p) (hp : p ≤ 900000) :
    Calls Try.prog 150 #[.pointer (some ⟨g, 0, none⟩)] w (RetShapeR N g p w) := by
  have HM0 := hid (DMid.start h)
  go_enter Try.func150, Try.ntmps150
  go_upto_region 2 with fail
  obtain ⟨b0, hb0⟩ : ∃ b, b = w.heap.size := ⟨_, rfl⟩
  rw [← hb0] at HM0 ⊢
  have HB0 := hid hb0
  clear hb0
  generalize w.alloc (.cells #[] 3) = w0 at *
  have hL : Own (w0.alloc (.cells #[.int .i64 2, .int .i64 1, .int .i64 3, .int .i64 2, .int .i64 0, .int .i64 4] 3)) w0.heap.size (.slice (some ⟨w0.heap.size, 0, none⟩) 6 6) [2, 1, 3, 2, 0, 4] := own_lit w0 [2, 1, 3, 2, 0, 4] (by simp)
  have HA := hid (HM0.out.nx (below_alloc w0 (.cells #[.int .i64 2, .int .i64 1, .int .i64 3, .int .i64 2, .int .i64 0, .int .i64 4] 3)))
  have HE := hid (HM0.out.rd.lit 6 6)
  go_wp2_with fail
  refine (one_any _ _ (p) _ _ _ _ HA.out.rd (by omega) hL (by simp) HE.out).mono ?_; rintro e w1 ⟨r, hr, rfl, hR, hG⟩
  have HM1 := hid (HA.out.ate hR hG)
  obtain ⟨n, ey, hn⟩ : ∃ y : Int, [2, 1, 3, 2, 0, 4][r] = y ∧ y ∈ ([2, 1, 3, 2, 0, 4] : List Int) := ⟨_, rfl, List.getElem_mem hr⟩
  rw [ey]
  clear hR hG ey hr hL HA HE
  obtain ⟨k, hk, hk4⟩ : ∃ k : Nat, n = (k : Int) ∧ k ≤ 4 := ⟨n.toNat, by simp at hn; omega⟩
  subst hk
  clear hn
  go_wp2_with fail
  go_loopg [3, 4, 5] k (fun m' out z z5 wr => ∃ (j q : Nat) (xs : List Int), m' = j ∧ z = .int .i64 j ∧ q + j ≤ p + 5 ∧ xs.length + j ≤ 4 ∧ Hid (isShapeL xs = true) ∧ Hid (∀ x ∈ xs, x ≤ 5) ∧ DMid N g w b0 wr q out xs)
  case atStart => exact ⟨k, p + 1, [], rfl, rfl, by omega, by simp; omega, hid (by decide), hid (by simp), HM1.out⟩
  case round =>
    obtain ⟨j, q, xs, hm, rfl, hq, hxl, HS, H5, hM⟩ := hrel
    have HM := hid hm
    obtain ⟨Ao, co, eo⟩ := hM.own.form
    subst eo
    obtain ⟨w2, rfl⟩ : ∃ w2, w2 = wr := ⟨_, rfl⟩
    have HM2 := hid hM
    have HXL := hid hxl
    clear hm hM hxl HM0 HM1
    by_cases hj : 0 < j
    · have hji : (0 : Int) < (j : Int) := by omega
      have hL : Own (w2.alloc (.cells #[.int .i64 2, .int .i64 3, .int .i64 1, .int .i64 4, .int .i64 2, .int .i64 3, .int .i64 5, .int .i64 0] 3)) w2.heap.size (.slice (some ⟨w2.heap.size, 0, none⟩) 8 8) [2, 3, 1, 4, 2, 3, 5, 0] := own_lit w2 [2, 3, 1, 4, 2, 3, 5, 0] (by simp)
      have HA := hid (HM2.out.nx (below_alloc w2 (.cells #[.int .i64 2, .int .i64 3, .int .i64 1, .int .i64 4, .int .i64 2, .int .i64 3, .int .i64 5, .int .i64 0] 3)))
      have HE := hid (HM2.out.rd.lit 8 8)
      go_wp2_with fail
      refine (one_any _ _ (q) _ _ _ _ HA.out.rd (by omega) hL (by simp) HE.out).mono ?_; rintro e w3 ⟨r, hr, rfl, hR, hG⟩
      have HM3 := hid (HA.out.ate hR hG)
      obtain ⟨y, ey, hy⟩ : ∃ y : Int, [2, 3, 1, 4, 2, 3, 5, 0][r] = y ∧ y ∈ ([2, 3, 1, 4, 2, 3, 5, 0] : List Int) := ⟨_, rfl, List.getElem_mem hr⟩
      rw [ey]
      clear hR hG ey hr hL HA HE
      have hyb : 0 ≤ y ∧ y ≤ 5 := by simp at hy; omega
      have hsp := shape_prod HS.out
      go_wp2_with fail
      refine (count_any _ xs _ HM3.out.own.ints).mono ?_; rintro e w' ⟨rfl, rfl⟩
      rw [hsp.1]
      have hpb : 0 ≤ prodI xs * y ∧ prodI xs * y ≤ 300 := by
        have a := Int.mul_nonneg hsp.2.1 hyb.1
        have b := Int.mul_le_mul hsp.2.2 hyb.2 hyb.1 (by omega)
        omega
      have HPS := hid (fun (h1 : xs.length < 4) (h2 : prodI xs * y ≤ 60) => isShapeL_snoc HS.out h1 ⟨hyb.1, by omega⟩ h2)
      have hw : IntKind.i64.wrap (prodI xs * y) = prodI xs * y := IntWalk.i64_in _ (by omega)
      obtain ⟨PR, hPR⟩ : ∃ PR, prodI xs * y = PR := ⟨_, rfl⟩
      have hw := hw.trans hPR
      rw [hPR] at hpb HPS
      generalize prodI xs = P0 at *
      clear hsp hPR
      have hwj : IntKind.i64.wrap ((j : Int) - 1) = (j : Int) - 1 := IntWalk.i64_in _ (by omega)
      by_cases hle : PR ≤ 60
      · have HN := hid (HPS.out (by have := HXL.out; omega) hle)
        have H6 := hid (show ∀ x ∈ xs ++ [y], x ≤ 5 from fun x hx => by
          rcases List.mem_append.1 hx with hx | hx
          · exact H5.out x hx
          · simp at hx; omega)
        have HL1 := hid (show xs.length ≤ 1000000000000 by have := HXL.out; omega)
        go_wp2_with (at_builtin; refine app1 _ rfl _ _ rfl b0 _ xs rfl (HM3.out.own.alloc _) ⟨w3.heap.size, 0, none⟩ 1 y rfl (cell_new1 _ _ _) HL1.out (le_alloc HM3.out.sz _) ?_)
        intro v1 w9 ho9 hg9 hat9
        have HM9 := hid ((HM3.out.nx (below_alloc w3 (.cells #[.int .i64 y] 3))).row ho9 hg9)
        clear hg9 hat9 ho9
        go_wp2
        go_roundg (j - 1)
        case measure => have := HM.out; omega
        case rel => exact ⟨j - 1, q + 1, _, rfl, by congr 1; omega, by omega, by have := HXL.out; simp; omega, HN, H6, HM9.out⟩
      · go_wp2
        go_roundg (j - 1)
        case measure => have := HM.out; omega
        case rel => exact ⟨j - 1, q + 1, _, rfl, by congr 1; omega, by omega, by have := HXL.out; omega, HS, H5, HM3.out⟩
    · have hji : ¬ (0 : Int) < (j : Int) := by omega
      go_wp2
      go_ret
      exact ⟨_, xs, q, rfl, HS.out, H5.out, by rw [← HB0.out]; exact HM2.out.own, by omega, HM2.out.rd, HM2.out.grew⟩

set_option maxRecDepth 100000 in
set_option maxHeartbeats 6400000 in
theorem someShape_any (N g p : Nat) (w : World) (h : Rd N w g p) (hp : p ≤ 900000) :
    Calls Try.prog 87 #[.pointer (some ⟨g, 0, none⟩)] w (RetIntsR N g p 5 8 w) := by
  have hlt := h.lt
  go_enter Try.func87, Try.ntmps87
  go_wp2_with fail
  refine (goodShape_any N g p _ h hp).mono ?_; rintro e w1 ⟨u, xs, q, rfl, hs, -, hO, hq, hR, hG⟩
  have hl4 := (shape_ext hs).1
  have HM1 := hid (show DMid N g w w.heap.size w1 q u xs from ⟨⟨hlt.2, Nat.le_refl _⟩, hR, hG, hO, hG.size⟩)
  clear hs hO hR hG h
  obtain ⟨A, c, e⟩ := HM1.out.own.form
  subst e
  have HL := hid hl4
  obtain ⟨b0, hb0⟩ : ∃ b, b = w.heap.size := ⟨_, rfl⟩
  rw [← hb0] at HM1
  have HG0 := hid (World.grownBy.refl w (some g))
  clear hl4 hb0
  go_wp2_with fail
  refine (pick_any _ _ (q) 24 _ HM1.out.rd (by omega) (by omega)).mono ?_; rintro e w2 ⟨r, rfl, hr, hR, hG⟩
  have HM2 := hid (HM1.out.ate hR hG)
  clear hR hG
  by_cases h0 : r = 0
  · have h0i : ((r : Int) == 0) = true := by simp [h0]
    clear h0
    have hL : Own (w2.alloc (.cells #[.int .i64 (-1), .int .i64 61, .int .i64 40] 3)) w2.heap.size (.slice (some ⟨w2.heap.size, 0, none⟩) 3 3) [-1, 61, 40] := own_lit w2 [-1, 61, 40] (by simp)
    have HA := hid (HM2.out.nx (below_alloc w2 (.cells #[.int .i64 (-1), .int .i64 61, .int .i64 40] 3)))
    have HE := hid (HM2.out.rd.lit 3 3)
    go_wp2_with fail
    refine (one_any _ _ (q + 1) _ _ _ _ HA.out.rd (by omega) hL (by simp) HE.out).mono ?_; rintro e w3 ⟨r, hr, rfl, hR, hG⟩
    have HM3 := hid (HA.out.ate hR hG)
    obtain ⟨y, ey, hy⟩ : ∃ y : Int, [-1, 61, 40][r] = y ∧ y ∈ ([-1, 61, 40] : List Int) := ⟨_, rfl, List.getElem_mem hr⟩
    rw [ey]
    clear hR hG ey hr hL HA HE
    have HL1 := hid (show xs.length ≤ 1000000000000 by have := HL.out; omega)
    go_wp2_with (at_builtin; refine app1 _ rfl _ _ rfl b0 _ xs rfl (HM3.out.own.alloc _) ⟨w3.heap.size, 0, none⟩ 1 y rfl (cell_new1 _ _ _) HL1.out (le_alloc HM3.out.sz _) ?_)
    intro v1 w9 ho9 hg9 hat9
    have HM9 := hid ((HM3.out.nx (below_alloc w3 (.cells #[.int .i64 y] 3))).row ho9 hg9)
    clear hg9 hat9 ho9
    go_wp2
    go_ret
    exact HM9.out.ret HG0.out HM9.out.own.ints (fun k e => (HM9.out.own.lt k e).1) (by have := HL.out; simp; omega) (by omega)
  · have h0i : ((r : Int) == 0) = false := by simp; omega
    by_cases h1 : r = 1
    · have h1i : ((r : Int) == 1) = true := by simp [h1]
      clear h0 h1
      have HL5 := hid (own_lit w2 [1, 1, 1, 1, 1] (by simp))
      have HM5 := hid (HM2.out.nx (below_alloc w2 (.cells #[.int .i64 1, .int .i64 1, .int .i64 1, .int .i64 1, .int .i64 1] 3)))
      have hsz := HM2.out.sz
      go_wp2
      go_ret
      exact HM5.out.ret HG0.out HL5.out.ints (fun k e => by have := (HL5.out.lt k e).1; omega) (by simp) (by omega)
    · have h1i : ((r : Int) == 1) = false := by simp; omega
      clear h0 h1
      go_wp2
      go_ret
      exact HM2.out.ret HG0.out HM2.out.own.ints (fun k e => (HM2.out.own.lt k e).1) (by have := HL.out; omega) (by omega)

end Go.Proofs.Ytldblcolnjkcaaa

/-! ## Gv -/
namespace Go.Proofs.Ytldblcolnjkcaaa
open Go.RowKit

def holds2 (s t : Value) (b : Nat) : Prop := s.ownBlock = some b ∨ t.ownBlock = some b
def viewOk (N : Nat) (V : VL) (w : World) (s t : Value) : Prop := Own w N s V.shape ∧ Own w N t V.strides ∧ Sep s t
theorem viewOk.nx {N : Nat} {V : VL} {w w' : World} {s t : Value} (h : viewOk N V w s t) (hb : Below w.heap.size w w') : viewOk N V w' s t := ⟨h.1.ext hb, h.2.1.ext hb, h.2.2⟩
theorem viewOk.lt {N : Nat} {V : VL} {w : World} {s t : Value} (h : viewOk N V w s t) {b : Nat} (hb : holds2 s t b) : N ≤ b ∧ b < w.heap.size := by
  rcases hb with hb | hb
  · exact h.1.lt b hb
  · exact h.2.1.lt b hb
/-- Between two blocks of the two rows. -/
def within2 (s t : Value) (b : Nat) : Prop := ∃ i j, holds2 s t i ∧ holds2 s t j ∧ i ≤ b ∧ b ≤ j
def Ent.view (f : Value → Value) (N : Nat) (V : VL) : Ent :=
  ⟨fun _ w v => ∃ s t, v = f (.agg #[.int .i64 V.base, s, t]) ∧ viewOk N V w s t,
   fun v => ∃ A c A' c', v = f (.agg #[.int .i64 V.base, .slice A V.shape.length c, .slice A' V.strides.length c']),
   fun v b => ∃ s t, v = f (.agg #[.int .i64 V.base, s, t]) ∧ within2 s t b⟩
theorem Ent.view_good (f : Value → Value) (hf : ∀ a b, f a = f b → a = b) (N : Nat) (V : VL) : Good (Ent.view f N V) := by
  refine ⟨fun _ _ _ _ hb ⟨s, t, h1, h2⟩ => ⟨s, t, h1, h2.nx hb⟩, fun _ _ _ ⟨s, t, h1, h2⟩ => ?_, ⟨_, none, 0, none, 0, rfl⟩, fun _ _ _ b ⟨s, t, h1, h2⟩ ⟨s', t', h3, i, j, _, hj, _, hbj⟩ => ?_⟩
  · obtain ⟨A, c, e⟩ := h2.1.form
    obtain ⟨A', c', e'⟩ := h2.2.1.form
    exact ⟨A, c, A', c', by rw [h1, e, e']⟩
  · have e := hf _ _ (h1.symm.trans h3)
    have e' : s = s' ∧ t = t' := by simpa using e
    obtain ⟨rfl, rfl⟩ := e'
    have := (h2.lt hj).2
    omega

section
variable {P : Program} {ops : Array Oper} {W : World} {R : Act → World → Prop} {k : Nat} {Es : List Ent} {o : Oper} {rest : List Oper} {a : Act} {s : Seen}
theorem grow_viewF (f : Value → Value) (hf : ∀ a b, f a = f b → a = b) (V : VL) (hw : Region.wanted o (yielded ops a.tmps) = true)
    (h : ∀ x : ExtW W, (∀ j, (autoDeps ops k).contains j = true → s.fact j x.v) → ∀ (K : Act → World → Prop) (Q : Exit → Act → World → Prop),
      (∀ s t w', Below x.v.heap.size x.v w' → Own w' x.v.heap.size s V.shape → Own w' x.v.heap.size t V.strides → Sep s t → K (a.put o.dst (f (.agg #[.int .i64 V.base, s, t]))) w') → o.wp P a x.v K Q)
    (hr : ∀ A c A' c', ∀ (F : World → Prop) (O : Nat → Prop), (∀ w, F w → viewOk W.heap.size V w (.slice A V.shape.length c) (.slice A' V.strides.length c')) →
      (∀ b, within2 (.slice A V.shape.length c) (.slice A' V.strides.length c') b → O b) →
      wpGrow P ops W R (k + 1) Es rest (a.put o.dst (f (.agg #[.int .i64 V.base, .slice A V.shape.length c, .slice A' V.strides.length c']))) (s.push (f (.agg #[.int .i64 V.base, .slice A V.shape.length c, .slice A' V.strides.length c'])) F O)) :
    wpGrow P ops W R k (Ent.view f W.heap.size V :: Es) (o :: rest) a s := by
  refine grow_mk _ (Ent.view_good f hf _ _) hw (fun x hF _ K Q hK => h x hF K Q fun s t w' hb h1 h2 h3 => hK _ w' hb ⟨s, t, rfl, h1.mono x.h.size, h2.mono x.h.size, h3⟩ fun b ⟨s', t', e, i, j, hi, _, hib, _⟩ => ?_) fun v hV F O hF hO => ?_
  · have e' := hf _ _ e
    have e2 : s = s' ∧ t = t' := by simpa using e'
    obtain ⟨rfl, rfl⟩ := e2
    have : x.v.heap.size ≤ i := by
      rcases hi with hi | hi
      · exact (h1.lt i hi).1
      · exact (h2.lt i hi).1
    omega
  · obtain ⟨A, c, A', c', rfl⟩ := hV
    refine hr A c A' c' F O (fun w hw => ?_) fun b hb => hO b ⟨_, _, rfl, hb⟩
    obtain ⟨s', t', e, h2⟩ := hF w hw
    have e' := hf _ _ e
    have e2 : .slice A V.shape.length c = s' ∧ .slice A' V.strides.length c' = t' := by simpa using e'
    rw [e2.1, e2.2]
    exact h2
end
def tupB (b : Bool) (v : Value) : Value := .tuple #[v, .bool b]
theorem tupB_inj (b : Bool) (x y : Value) (h : tupB b x = tupB b y) : x = y := by simpa [tupB] using h
theorem id_inj (x y : Value) (h : id x = id y) : x = y := h
def tupAt (i : Nat) : Value → Value
  | .tuple vs => vs.getD i undef
  | _ => undef
/-- An interval that holds the rows and not the block. -/
theorem ival {s t : Value} {N M g : Nat} (hs : Seg s N M) (ht : Seg t N M) (hd : ∀ b, within2 s t b → b ≠ g) (hg : N ≤ g) (hgM : g < M) :
    ∃ lo hi, N ≤ lo ∧ lo ≤ hi ∧ hi ≤ M ∧ Seg s lo hi ∧ Seg t lo hi ∧ (g < lo ∨ hi ≤ g) := by
  by_cases hex : ∃ i, holds2 s t i ∧ i ≤ g
  · obtain ⟨i, hi, hig⟩ := hex
    have hlt : ∀ j, holds2 s t j → j < g := fun j hj => by
      rcases Nat.lt_or_ge j g with h | h
      · exact h
      · exact absurd rfl (hd g ⟨i, j, hi, hj, hig, h⟩)
    exact ⟨N, g, Nat.le_refl _, hg, by omega, fun k hk => ⟨(hs k hk).1, hlt k (.inl hk)⟩, fun k hk => ⟨(ht k hk).1, hlt k (.inr hk)⟩, .inr (Nat.le_refl _)⟩
  · have hgt : ∀ j, holds2 s t j → g < j := fun j hj => by
      rcases Nat.lt_or_ge g j with h | h
      · exact h
      · exact absurd ⟨j, hj, h⟩ hex
    exact ⟨g + 1, M, by omega, by omega, Nat.le_refl _, fun k hk => ⟨hgt k (.inl hk), (hs k hk).2⟩, fun k hk => ⟨hgt k (.inr hk), (ht k hk).2⟩, .inl (by omega)⟩

end Go.Proofs.Ytldblcolnjkcaaa

/-! ## Gbv -/
namespace Go.Proofs.Ytldblcolnjkcaaa
open Go.RowKit

def Ent.vw (V : VL) : Ent :=
  ⟨fun _ w v => (∃ A c A' c', v = .agg #[.int .i64 V.base, .slice A V.shape.length c, .slice A' V.strides.length c']) ∧ ViewV w v V,
   fun v => ∃ A c A' c', v = .agg #[.int .i64 V.base, .slice A V.shape.length c, .slice A' V.strides.length c'], fun _ _ => False⟩
theorem Ent.vw_good (V : VL) : Good (Ent.vw V) :=
  ⟨fun _ _ _ _ hb h => ⟨h.1, h.2.ext hb⟩, fun _ _ _ h => h.1, ⟨_, none, 0, none, 0, rfl⟩, fun _ _ _ _ _ h => h.elim⟩
section
variable {P : Program} {ops : Array Oper} {W : World} {R : Act → World → Prop} {k : Nat} {Es : List Ent} {o : Oper} {rest : List Oper} {a : Act} {s : Seen}
theorem grow_buildV (V : VL) (hw : Region.wanted o (yielded ops a.tmps) = true)
    (h : ∀ x : ExtW W, (∀ j, (autoDeps ops k).contains j = true → s.fact j x.v) → ∃ v, (execOp a.eval o).run P x.v = .ok (.value v) x.v ∧ (∃ A c A' c', v = .agg #[.int .i64 V.base, .slice A V.shape.length c, .slice A' V.strides.length c']) ∧ ViewV x.v v V)
    (hr : ∀ A c A' c', ∀ F : World → Prop, (∀ w, F w → ViewV w (.agg #[.int .i64 V.base, .slice A V.shape.length c, .slice A' V.strides.length c']) V) →
      wpGrow P ops W R (k + 1) Es rest (a.put o.dst (.agg #[.int .i64 V.base, .slice A V.shape.length c, .slice A' V.strides.length c'])) (s.push (.agg #[.int .i64 V.base, .slice A V.shape.length c, .slice A' V.strides.length c']) F (fun _ => False))) :
    wpGrow P ops W R k (Ent.vw V :: Es) (o :: rest) a s := by
  refine ⟨Ent.vw_good V, fun w hC hF _ K Q hK => ?_, fun v hV => ?_⟩
  · rw [if_pos hw]
    obtain ⟨v, h1, h2, h3⟩ := h ⟨w, hC⟩ hF
    unfold Oper.wp
    rw [h1]
    exact hK v w ⟨Below.refl _ _, ⟨h2, h3⟩, fun b hb => hb.elim⟩
  · obtain ⟨A, c, A', c', rfl⟩ := hV
    exact hr A c A' c' _ fun w h => h.2
end

end Go.Proofs.Ytldblcolnjkcaaa

/-! ## Gb -/
namespace Go.Proofs.Ytldblcolnjkcaaa
open Go.RowKit

theorem made_yes (v : Value) (V : VL) (w : World) (hv : ViewV w v V) (h : isViewL V = true) : Calls Try.prog 182 #[v] w (RetViewB w V true) := by
  have := made_any v V w hv
  rw [show madeL V = V by simp [madeL, h], h] at this
  exact this

end Go.Proofs.Ytldblcolnjkcaaa

/-! ## AD4 -/
namespace Go.Proofs.Ytldblcolnjkcaaa
open Go.RowKit

set_option maxRecDepth 100000 in
set_option maxHeartbeats 6400000 in
theorem sAddDim_any (v : Value) (V : VL) (p : Int) (w : World) (hv : ViewV w v V) (_hp : -9223372036854775808 ≤ p ∧ p ≤ 9223372036854775807) :
    Calls Try.prog 174 #[v, .int .i64 p] w (RetViewB w (addL V p) (okAdd V p)) := by
  have hv0 := hv
  obtain ⟨sv, tv, rfl, hsv, htv⟩ := hv
  obtain ⟨As, cs, es, hcs0, hcs, -⟩ := id hsv
  subst es
  obtain ⟨At, ct, et, hct0, hct, -⟩ := id htv
  subst et
  unfold maxLen at hcs hct
  have hA := (Blk.new w 43 #[.int .i64 V.base, .slice As V.shape.length cs, .slice At V.strides.length ct]).alloc (.cells #[.int .i64 0, .slice none 0 0, .slice none 0 0] 43)
  have hR := Blk.new (w.alloc (.cells #[.int .i64 V.base, .slice As V.shape.length cs, .slice At V.strides.length ct] 43)) 43 #[.int .i64 0, .slice none 0 0, .slice none 0 0]
  simp only [World.size_alloc] at hR
  have hW : Below w.heap.size w ((w.alloc (.cells #[.int .i64 V.base, .slice As V.shape.length cs, .slice At V.strides.length ct] 43)).alloc (.cells #[.int .i64 0, .slice none 0 0, .slice none 0 0] 43)) := ((Below.refl _ _).alloc (Nat.le_refl _) _).alloc (by simp <;> omega) _
  have hnA := hA.lt
  have hnR := hR.lt
  generalize hW1 : ((w.alloc (.cells #[.int .i64 V.base, .slice As V.shape.length cs, .slice At V.strides.length ct] 43)).alloc (.cells #[.int .i64 0, .slice none 0 0, .slice none 0 0] 43)) = W1 at *
  have HZ1 := hid (show W1.heap.size = w.heap.size + 2 by rw [← hW1]; simp)
  have HW1 := hid hW1
  clear hW1
  cases cV : isViewL V
  · have HQ := hid (add_no (show okAdd V p = false by simp [okAdd, cV]))
    have HV := hid cV
    clear cV
    go_enter Try.func174, Try.ntmps174
    go_upto_region 1 with fail
    rw [HW1.out]
    clear HW1
    have H0 := Hp.start W1
    obtain ⟨⟨q1_0, q1_1, q1_2⟩, r1_0, r1_1, r1_2⟩ := ((Blk.ext hA H0.below hA.lt)).all3
    go_wp2_with fail
    refine (validView_any _ V _ ((hv0.ext hW).ext H0.below)).mono ?_; rintro e w2 ⟨rfl, hb2⟩
    clear q1_0 q1_1 q1_2 r1_0 r1_1 r1_2
    have H2 := H0.nx hb2
    rw [HV.out]
    obtain ⟨⟨q2_0, q2_1, q2_2⟩, r2_0, r2_1, r2_2⟩ := ((Blk.ext hA H2.below hA.lt)).all3
    obtain ⟨⟨q3_0, q3_1, q3_2⟩, r3_0, r3_1, r3_2⟩ := ((Blk.ext hR H2.below hR.lt)).all3
    go_wp2
    refine bodyPost_ret (v := .tuple #[.agg #[.int .i64 0, .slice none 0 0, .slice none 0 0], .bool false]) (by simp [results, Try.results174, go_sem, q3_0, q3_1, q3_2]) rfl ?_
    rw [HQ.out.1, HQ.out.2]
    exact ⟨_, _, rfl, Own.nil _ _, Own.nil _ _, Sep.none_left _, below3 (hW.trans (H2.below.mono hW.size)) (by omega) _ _ _⟩
  have HV := hid cV
  have hl4 := (lens4 cV).1
  have hl5 : V.strides.length ≤ V.shape.length ∧ V.shape.length ≤ V.strides.length := by have := (lens4 cV).2; omega
  cases cR : inR p 0 V.shape.length
  · have HQ := hid (add_no (show okAdd V p = false by simp [okAdd, cR]))
    have HR := hid cR
    clear cV cR
    go_enter Try.func174, Try.ntmps174
    go_upto_region 1 with fail
    rw [HW1.out]
    clear HW1
    have H0 := Hp.start W1
    obtain ⟨⟨q1_0, q1_1, q1_2⟩, r1_0, r1_1, r1_2⟩ := ((Blk.ext hA H0.below hA.lt)).all3
    go_wp2_with fail
    refine (validView_any _ V _ ((hv0.ext hW).ext H0.below)).mono ?_; rintro e w2 ⟨rfl, hb2⟩
    clear q1_0 q1_1 q1_2 r1_0 r1_1 r1_2
    have H2 := H0.nx hb2
    rw [HV.out]
    obtain ⟨⟨q2_0, q2_1, q2_2⟩, r2_0, r2_1, r2_2⟩ := ((Blk.ext hA H2.below hA.lt)).all3
    go_wp2_with fail
    refine (inRange_any _ _ _ _).mono ?_; rintro e w' ⟨rfl, rfl⟩
    rw [HR.out]
    obtain ⟨⟨q3_0, q3_1, q3_2⟩, r3_0, r3_1, r3_2⟩ := ((Blk.ext hR H2.below hR.lt)).all3
    go_wp2
    refine bodyPost_ret (v := .tuple #[.agg #[.int .i64 0, .slice none 0 0, .slice none 0 0], .bool false]) (by simp [results, Try.results174, go_sem, q3_0, q3_1, q3_2]) rfl ?_
    rw [HQ.out.1, HQ.out.2]
    exact ⟨_, _, rfl, Own.nil _ _, Own.nil _ _, Sep.none_left _, below3 (hW.trans (H2.below.mono hW.size)) (by omega) _ _ _⟩
  have HR := hid cR
  by_cases h4 : V.shape.length = 4
  · have HQ := hid (add_no (show okAdd V p = false by simp [okAdd, h4]))
    have e4 : ((V.shape.length : Int) == 4) = true := by simp [h4]
    clear cV cR h4
    go_enter Try.func174, Try.ntmps174
    go_upto_region 1 with fail
    rw [HW1.out]
    clear HW1
    have H0 := Hp.start W1
    obtain ⟨⟨q1_0, q1_1, q1_2⟩, r1_0, r1_1, r1_2⟩ := ((Blk.ext hA H0.below hA.lt)).all3
    go_wp2_with fail
    refine (validView_any _ V _ ((hv0.ext hW).ext H0.below)).mono ?_; rintro e w2 ⟨rfl, hb2⟩
    clear q1_0 q1_1 q1_2 r1_0 r1_1 r1_2
    have H2 := H0.nx hb2
    rw [HV.out]
    obtain ⟨⟨q2_0, q2_1, q2_2⟩, r2_0, r2_1, r2_2⟩ := ((Blk.ext hA H2.below hA.lt)).all3
    go_wp2_with fail
    refine (inRange_any _ _ _ _).mono ?_; rintro e w' ⟨rfl, rfl⟩
    rw [HR.out]
    obtain ⟨⟨q3_0, q3_1, q3_2⟩, r3_0, r3_1, r3_2⟩ := ((Blk.ext hR H2.below hR.lt)).all3
    go_wp2
    refine bodyPost_ret (v := .tuple #[.agg #[.int .i64 0, .slice none 0 0, .slice none 0 0], .bool false]) (by simp [results, Try.results174, go_sem, q3_0, q3_1, q3_2]) rfl ?_
    rw [HQ.out.1, HQ.out.2]
    exact ⟨_, _, rfl, Own.nil _ _, Own.nil _ _, Sep.none_left _, below3 (hW.trans (H2.below.mono hW.size)) (by omega) _ _ _⟩
  have e4 : ((V.shape.length : Int) == 4) = false := by simp; omega
  have hr := inR_iff.1 cR
  obtain ⟨k, rfl⟩ : ∃ k : Nat, p = k := ⟨p.toNat, by omega⟩
  have hkl : k ≤ V.shape.length := by omega
  have hkt : k ≤ V.strides.length := by omega
  have hok : okAdd V k = true := by simp [okAdd, cV, cR, h4]
  have HQ := hid (show addL V k = insV V k ∧ okAdd V k = true from ⟨(add_yes hok).1, hok⟩)
  have HVI := hid (add_yes hok).2
  have hls : V.shape.length ≤ 1000 := by omega
  have hlt : V.strides.length ≤ 1000 := by omega
  clear cV cR hok
  go_enter Try.func174, Try.ntmps174
  go_upto_region 1 with fail
  rw [HW1.out]
  clear HW1
  have H0 := Hp.start W1
  obtain ⟨⟨q1_0, q1_1, q1_2⟩, r1_0, r1_1, r1_2⟩ := ((Blk.ext hA H0.below hA.lt)).all3
  go_wp2_with fail
  refine (validView_any _ V _ ((hv0.ext hW).ext H0.below)).mono ?_; rintro e w2 ⟨rfl, hb2⟩
  clear q1_0 q1_1 q1_2 r1_0 r1_1 r1_2
  have H2 := H0.nx hb2
  rw [HV.out]
  obtain ⟨⟨q2_0, q2_1, q2_2⟩, r2_0, r2_1, r2_2⟩ := ((Blk.ext hA H2.below hA.lt)).all3
  go_wp2_with fail
  refine (inRange_any _ _ _ _).mono ?_; rintro e w' ⟨rfl, rfl⟩
  rw [HR.out]
  obtain ⟨⟨q3_0, q3_1, q3_2⟩, r3_0, r3_1, r3_2⟩ := ((Blk.ext hA H2.below hA.lt)).all3
  go_upto_region 3 with fail
  clear q2_0 q2_1 q2_2 r2_0 r2_1 r2_2 q3_0 q3_1 q3_2 r3_0 r3_1 r3_2
  have qqA := fun x : ExtW w2 => (Blk.ext (Blk.ext hA H2.below hA.lt) x.h (Blk.lt (Blk.ext hA H2.below hA.lt))).all3.1
  have HS := hid (fun x : ExtW w2 => ((hsv.ext hW).ext H2.below).ext x.h)
  have HT := hid (fun x : ExtW w2 => ((htv.ext hW).ext H2.below).ext x.h)
  refine region_mkL 14 [13] (by kernel_rfl) (by kernel_rfl) (by kernel_rfl) (fun _ _ _ _ _ h => h) ?_
  apply Exists.intro
  simp only [List.take_succ_cons, List.take_zero, List.drop_succ_cons, List.drop_zero]
  repeat (first
    | (apply grow_val (by rfl); (focus (intro x; (go_simp; try with_reducible rfl); done)); simp only [Act.put, List.setIfInBounds_toArray, List.set_cons_zero, List.set_cons_succ])
    | (apply grow_skip (by rfl); simp only [Act.put, List.setIfInBounds_toArray, List.set_cons_zero, List.set_cons_succ]))
  apply grow_ints (insAt V.shape k 1) (by rfl)
  · intro x hF K Q hK
    go_simp
    (go_at_call 144; refine (insert_any _ V.shape k 1 _ (HS.out x) hkl hls).mono ?_; rintro e w' ⟨v', rfl, ho, hb⟩; exact hK _ _ hb ho)
  intro A5 c5 F5 O5 hF5 hO5
  simp only [Act.put, List.setIfInBounds_toArray, List.set_cons_zero, List.set_cons_succ]
  repeat (first
    | (apply grow_val (by rfl); (focus (intro x; (go_simp; try with_reducible rfl); done)); simp only [Act.put, List.setIfInBounds_toArray, List.set_cons_zero, List.set_cons_succ])
    | (apply grow_skip (by rfl); simp only [Act.put, List.setIfInBounds_toArray, List.set_cons_zero, List.set_cons_succ]))
  apply grow_ints (insAt V.strides k 0) (by rfl)
  · intro x hF K Q hK
    go_simp
    (go_at_call 144; refine (insert_any _ V.strides k 0 _ (HT.out x) hkt hlt).mono ?_; rintro e w' ⟨v', rfl, ho, hb⟩; exact hK _ _ hb ho)
  intro A9 c9 F9 O9 hF9 hO9
  simp only [Act.put, List.setIfInBounds_toArray, List.set_cons_zero, List.set_cons_succ]
  repeat (first
    | (apply grow_val (by rfl); (focus (intro x; (go_simp; try with_reducible rfl); done)); simp only [Act.put, List.setIfInBounds_toArray, List.set_cons_zero, List.set_cons_succ])
    | (apply grow_skip (by rfl); simp only [Act.put, List.setIfInBounds_toArray, List.set_cons_zero, List.set_cons_succ]))
  apply grow_buildV (insV V k) (by rfl)
  · intro x hF
    have h5 := hF5 _ (hF 5 (by kernel_rfl))
    have h9 := hF9 _ (hF 9 (by kernel_rfl))
    exact ⟨.agg #[.int .i64 V.base, .slice A5 (insAt V.shape k 1).length c5, .slice A9 (insAt V.strides k 0).length c9], by (go_simp; try with_reducible rfl), ⟨_, _, _, _, rfl⟩, Own.view (V := insV V k) h5 h9⟩
  intro A10 c10 B10 d10 F10 hF10
  simp only [Act.put, List.setIfInBounds_toArray, List.set_cons_zero, List.set_cons_succ]
  apply grow_viewF (tupB true) (tupB_inj true) (insV V k) (by rfl)
  · intro x hF K Q hK
    have hvv := hF10 _ (hF 10 (by kernel_rfl))
    go_simp
    (go_at_call 182; refine (made_yes _ (insV V k) _ hvv HVI.out).mono ?_; rintro e w' ⟨s', t', rfl, ho, hp, hs, hb⟩; exact hK _ _ _ hb ho hp hs)
  intro A11 c11 B11 d11 F11 O11 hF11 hO11
  simp only [tupB, Act.put, List.setIfInBounds_toArray, List.set_cons_zero, List.set_cons_succ]
  apply grow_fn (fun d => tupAt 0 (d.getD 0 undef)) [.tuple #[.agg #[.int .i64 (insV V k).base, .slice A11 (insV V k).shape.length c11, .slice B11 (insV V k).strides.length d11], .bool true]] (by kernel_rfl) (by rfl)
  · intro x hF
    refine ⟨_, by (go_simp; try rfl), rfl⟩
  intro v12 F12 hF12
  simp only [Act.put, List.setIfInBounds_toArray, List.set_cons_zero, List.set_cons_succ]
  apply grow_fn (fun d => tupAt 1 (d.getD 0 undef)) [.tuple #[.agg #[.int .i64 (insV V k).base, .slice A11 (insV V k).shape.length c11, .slice B11 (insV V k).strides.length d11], .bool true]] (by kernel_rfl) (by rfl)
  · intro x hF
    refine ⟨_, by (go_simp; try rfl), rfl⟩
  intro v13 F13 hF13
  simp only [Act.put, List.setIfInBounds_toArray, List.set_cons_zero, List.set_cons_succ]
  refine grow_nil ?_
  intro x hF hS
  have hm := hF11 _ (hF 11 (by omega))
  have e12 : v12 = .agg #[.int .i64 (insV V k).base, .slice A11 (insV V k).shape.length c11, .slice B11 (insV V k).strides.length d11] := hF12 _ (hF 12 (by omega))
  have e13 : v13 = .bool true := hF13 _ (hF 13 (by omega))
  subst e12 e13
  obtain ⟨w8, hb8⟩ := x
  have hb8 : Below w2.heap.size w2 w8 := hb8
  simp only at hm
  have H8 := H2.nx hb8
  clear hF hS hF5 hO5 hF9 hO9 hF10 hF11 hO11 hF12 hF13 qqA HS HT
  obtain ⟨⟨q4_0, q4_1, q4_2⟩, r4_0, r4_1, r4_2⟩ := ((Blk.ext hR H8.below hR.lt)).all3
  go_wp2
  refine bodyPost_ret (v := .tuple #[.agg #[.int .i64 (insV V k).base, .slice A11 (insV V k).shape.length c11, .slice B11 (insV V k).strides.length d11], .bool true]) (by simp [results, Try.results174, go_sem, q4_0, q4_1, q4_2]) rfl ?_
  rw [HQ.out.1, HQ.out.2]
  have hzz := H2.size
  have hz1 := HZ1.out
  obtain ⟨hr1, hr2, hsp⟩ := hm
  exact ⟨_, _, rfl, (own3b hr1 (by omega) _ _ _).mono (by omega), (own3b hr2 (by omega) _ _ _).mono (by omega), hsp, below3 (hW.trans (H8.below.mono hW.size)) (by omega) _ _ _⟩

end Go.Proofs.Ytldblcolnjkcaaa

/-! ## Y7v8 -/
namespace Go.Proofs.Ytldblcolnjkcaaa
open Go.RowKit

end Go.Proofs.Ytldblcolnjkcaaa

/-! ## Y9v8 -/
namespace Go.Proofs.Ytldblcolnjkcaaa
open Go.RowKit

set_option maxRecDepth 100000 in
set_option maxHeartbeats 6400000 in
theorem sSliceDim_any (v vs : Value) (V : VL) (d : Int) (s : SL) (w : World) (hv : ViewV w v V) (wd : -9223372036854775808 ≤ d ∧ d ≤ 9223372036854775807) (hs : SliceV w vs s) :
    Calls Try.prog 169 #[v, .int .i64 d, vs] w (RetViewB w (sliceL V d s) (okCut V d s)) := by
  obtain ⟨rfl, hso⟩ := hs
  obtain ⟨f, t, b, hf, ht⟩ := s
  simp only [SL.val]
  have hv0 := hv
  obtain ⟨sv, tv, rfl, hsv, htv⟩ := hv
  obtain ⟨As, cs, es, -, hcs, -⟩ := id hsv
  subst es
  obtain ⟨At, ct, et, -, hct, -⟩ := id htv
  subst et
  unfold maxLen at hcs hct
  have hA := ((Blk.new w 43 #[.int .i64 V.base, .slice As V.shape.length cs, .slice At V.strides.length ct]).alloc (.cells #[.int .i64 f, .int .i64 t, .int .i64 b, .bool hf, .bool ht] 33)).alloc (.cells #[.int .i64 0, .slice none 0 0, .slice none 0 0] 43)
  have hS := (Blk.new (w.alloc (.cells #[.int .i64 V.base, .slice As V.shape.length cs, .slice At V.strides.length ct] 43)) 33 #[.int .i64 f, .int .i64 t, .int .i64 b, .bool hf, .bool ht]).alloc (.cells #[.int .i64 0, .slice none 0 0, .slice none 0 0] 43)
  simp only [World.size_alloc] at hS
  have hR := Blk.new ((w.alloc (.cells #[.int .i64 V.base, .slice As V.shape.length cs, .slice At V.strides.length ct] 43)).alloc (.cells #[.int .i64 f, .int .i64 t, .int .i64 b, .bool hf, .bool ht] 33)) 43 #[.int .i64 0, .slice none 0 0, .slice none 0 0]
  simp only [World.size_alloc] at hR
  have hW : Below w.heap.size w (((w.alloc (.cells #[.int .i64 V.base, .slice As V.shape.length cs, .slice At V.strides.length ct] 43)).alloc (.cells #[.int .i64 f, .int .i64 t, .int .i64 b, .bool hf, .bool ht] 33)).alloc (.cells #[.int .i64 0, .slice none 0 0, .slice none 0 0] 43)) := (((Below.refl _ _).alloc (Nat.le_refl _) _).alloc (by simp <;> omega) _).alloc (by simp <;> omega) _
  have hnA := hA.lt
  have hnS := hS.lt
  have hnR := hR.lt
  generalize hW1 : (((w.alloc (.cells #[.int .i64 V.base, .slice As V.shape.length cs, .slice At V.strides.length ct] 43)).alloc (.cells #[.int .i64 f, .int .i64 t, .int .i64 b, .bool hf, .bool ht] 33)).alloc (.cells #[.int .i64 0, .slice none 0 0, .slice none 0 0] 43)) = W1 at *
  have HZ1 := hid (show W1.heap.size = w.heap.size + 3 by rw [← hW1]; simp)
  have HW1 := hid hW1
  clear hW1
  have hiS : SliceV W1 (.agg #[.int .i64 f, .int .i64 t, .int .i64 b, .bool hf, .bool ht]) ⟨f, t, b, hf, ht⟩ := ⟨rfl, hso⟩
  cases cV : isViewL V
  · have HQ := hid (show sliceL V d ⟨f, t, b, hf, ht⟩ = VL.zero ∧ okCut V d ⟨f, t, b, hf, ht⟩ = false by
      have h : okCut V d ⟨f, t, b, hf, ht⟩ = false := by simp [okCut, hasDimL, cV]
      exact ⟨slice_no h, h⟩)
    go_enter Try.func169, Try.ntmps169
    go_wp2_with fail
    rw [HW1.out]
    clear HW1
    have H0 := Hp.start W1
    obtain ⟨⟨q1_0, q1_1, q1_2⟩, r1_0, r1_1, r1_2⟩ := ((Blk.ext hA H0.below hA.lt)).all3
    obtain ⟨⟨q2_0, q2_1, q2_2, q2_3, q2_4⟩, r2_0, r2_1, r2_2, r2_3, r2_4⟩ := ((Blk.ext hS H0.below hS.lt)).all5
    go_wp2_with fail
    refine (validView_any _ V _ ((hv0.ext hW).ext H0.below)).mono ?_; rintro e w2 ⟨rfl, hb2⟩
    clear q1_0 q1_1 q1_2 r1_0 r1_1 r1_2 q2_0 q2_1 q2_2 q2_3 q2_4 r2_0 r2_1 r2_2 r2_3 r2_4
    have H2 := H0.nx hb2
    obtain ⟨⟨q3_0, q3_1, q3_2⟩, r3_0, r3_1, r3_2⟩ := ((Blk.ext hR H2.below hR.lt)).all3
    go_wp2
    refine bodyPost_ret (v := .tuple #[.agg #[.int .i64 0, .slice none 0 0, .slice none 0 0], .bool false]) (by simp [results, Try.results169, go_sem, q3_0, q3_1, q3_2]) rfl ?_
    rw [HQ.out.1, HQ.out.2]
    exact ⟨_, _, rfl, Own.nil _ _, Own.nil _ _, Sep.none_left _, below3 (hW.trans (H2.below.mono hW.size)) (by omega) _ _ _⟩
  cases c0 : inR d 0 ((V.shape.length : Int) - 1)
  · have HQ := hid (show sliceL V d ⟨f, t, b, hf, ht⟩ = VL.zero ∧ okCut V d ⟨f, t, b, hf, ht⟩ = false by
      have h : okCut V d ⟨f, t, b, hf, ht⟩ = false := by
        cases h : okCut V d ⟨f, t, b, hf, ht⟩
        · rfl
        · simp only [okCut, hasDimL, Bool.and_eq_true, decide_eq_true_eq] at h
          rw [inR_yes (by omega) (by omega)] at c0; cases c0
      exact ⟨slice_no h, h⟩)
    go_enter Try.func169, Try.ntmps169
    go_wp2_with fail
    rw [HW1.out]
    clear HW1
    have H0 := Hp.start W1
    obtain ⟨⟨q1_0, q1_1, q1_2⟩, r1_0, r1_1, r1_2⟩ := ((Blk.ext hA H0.below hA.lt)).all3
    obtain ⟨⟨q2_0, q2_1, q2_2, q2_3, q2_4⟩, r2_0, r2_1, r2_2, r2_3, r2_4⟩ := ((Blk.ext hS H0.below hS.lt)).all5
    go_wp2_with fail
    refine (validView_any _ V _ ((hv0.ext hW).ext H0.below)).mono ?_; rintro e w2 ⟨rfl, hb2⟩
    clear q1_0 q1_1 q1_2 r1_0 r1_1 r1_2 q2_0 q2_1 q2_2 q2_3 q2_4 r2_0 r2_1 r2_2 r2_3 r2_4
    have H2 := H0.nx hb2
    obtain ⟨⟨q3_0, q3_1, q3_2⟩, r3_0, r3_1, r3_2⟩ := ((Blk.ext hA H2.below hA.lt)).all3
    obtain ⟨⟨q4_0, q4_1, q4_2, q4_3, q4_4⟩, r4_0, r4_1, r4_2, r4_3, r4_4⟩ := ((Blk.ext hS H2.below hS.lt)).all5
    go_wp2_with fail
    refine (isDim_any _ V d _ ((hv0.ext hW).ext H2.below)).mono ?_; rintro e w3 ⟨rfl, hb3⟩
    clear q3_0 q3_1 q3_2 r3_0 r3_1 r3_2 q4_0 q4_1 q4_2 q4_3 q4_4 r4_0 r4_1 r4_2 r4_3 r4_4
    have H3 := H2.nx hb3
    obtain ⟨⟨q5_0, q5_1, q5_2⟩, r5_0, r5_1, r5_2⟩ := ((Blk.ext hR H3.below hR.lt)).all3
    go_wp2
    refine bodyPost_ret (v := .tuple #[.agg #[.int .i64 0, .slice none 0 0, .slice none 0 0], .bool false]) (by simp [results, Try.results169, go_sem, q5_0, q5_1, q5_2]) rfl ?_
    rw [HQ.out.1, HQ.out.2]
    exact ⟨_, _, rfl, Own.nil _ _, Own.nil _ _, Sep.none_left _, below3 (hW.trans (H3.below.mono hW.size)) (by omega) _ _ _⟩
  cases c1 : okSl ⟨f, t, b, hf, ht⟩
  · have HQ := hid (show sliceL V d ⟨f, t, b, hf, ht⟩ = VL.zero ∧ okCut V d ⟨f, t, b, hf, ht⟩ = false by
      have h : okCut V d ⟨f, t, b, hf, ht⟩ = false := by simp [okCut, c1]
      exact ⟨slice_no h, h⟩)
    go_enter Try.func169, Try.ntmps169
    go_wp2_with fail
    rw [HW1.out]
    clear HW1
    have H0 := Hp.start W1
    obtain ⟨⟨q1_0, q1_1, q1_2⟩, r1_0, r1_1, r1_2⟩ := ((Blk.ext hA H0.below hA.lt)).all3
    obtain ⟨⟨q2_0, q2_1, q2_2, q2_3, q2_4⟩, r2_0, r2_1, r2_2, r2_3, r2_4⟩ := ((Blk.ext hS H0.below hS.lt)).all5
    go_wp2_with fail
    refine (validView_any _ V _ ((hv0.ext hW).ext H0.below)).mono ?_; rintro e w2 ⟨rfl, hb2⟩
    clear q1_0 q1_1 q1_2 r1_0 r1_1 r1_2 q2_0 q2_1 q2_2 q2_3 q2_4 r2_0 r2_1 r2_2 r2_3 r2_4
    have H2 := H0.nx hb2
    obtain ⟨⟨q3_0, q3_1, q3_2⟩, r3_0, r3_1, r3_2⟩ := ((Blk.ext hA H2.below hA.lt)).all3
    obtain ⟨⟨q4_0, q4_1, q4_2, q4_3, q4_4⟩, r4_0, r4_1, r4_2, r4_3, r4_4⟩ := ((Blk.ext hS H2.below hS.lt)).all5
    go_wp2_with fail
    refine (isDim_any _ V d _ ((hv0.ext hW).ext H2.below)).mono ?_; rintro e w3 ⟨rfl, hb3⟩
    clear q3_0 q3_1 q3_2 r3_0 r3_1 r3_2 q4_0 q4_1 q4_2 q4_3 q4_4 r4_0 r4_1 r4_2 r4_3 r4_4
    have H3 := H2.nx hb3
    obtain ⟨⟨q5_0, q5_1, q5_2⟩, r5_0, r5_1, r5_2⟩ := ((Blk.ext hA H3.below hA.lt)).all3
    obtain ⟨⟨q6_0, q6_1, q6_2, q6_3, q6_4⟩, r6_0, r6_1, r6_2, r6_3, r6_4⟩ := ((Blk.ext hS H3.below hS.lt)).all5
    go_wp2_with fail
    refine (validSlice_any _ ⟨f, t, b, hf, ht⟩ _ rfl hso).mono ?_; rintro e w4 ⟨rfl, hb4⟩
    clear q5_0 q5_1 q5_2 r5_0 r5_1 r5_2 q6_0 q6_1 q6_2 q6_3 q6_4 r6_0 r6_1 r6_2 r6_3 r6_4
    have H4 := H3.nx hb4
    obtain ⟨⟨q7_0, q7_1, q7_2⟩, r7_0, r7_1, r7_2⟩ := ((Blk.ext hR H4.below hR.lt)).all3
    go_wp2
    refine bodyPost_ret (v := .tuple #[.agg #[.int .i64 0, .slice none 0 0, .slice none 0 0], .bool false]) (by simp [results, Try.results169, go_sem, q7_0, q7_1, q7_2]) rfl ?_
    rw [HQ.out.1, HQ.out.2]
    exact ⟨_, _, rfl, Own.nil _ _, Own.nil _ _, Sep.none_left _, below3 (hW.trans (H4.below.mono hW.size)) (by omega) _ _ _⟩
  have da := inR_iff.1 c0
  have C0 : hasDimL V d = true := by simp [hasDimL, cV]; omega
  obtain ⟨k, rfl⟩ : ∃ k : Nat, d = (k : Int) := ⟨d.toNat, by omega⟩
  have hk : k < V.shape.length := by omega
  have hgd : V.shape.getD k 0 = V.shape[k] := by simp [hk]
  have HQ := hid (show sliceL V k ⟨f, t, b, hf, ht⟩ = cutL V k ⟨f, t, b, hf, ht⟩ ∧ okCut V k ⟨f, t, b, hf, ht⟩ = true by
    have h : okCut V k ⟨f, t, b, hf, ht⟩ = true := by simp [okCut, C0, c1]
    exact ⟨by simp [sliceL, h], h⟩)
  have HV := hid (show isViewL (cutL V k ⟨f, t, b, hf, ht⟩) = true by
    have := cut_valid cV hk (s := ⟨f, t, b, hf, ht⟩) (okSl_and c1).2.2.2
    rw [cutL, hgd]; exact this)
  have HC := hid cV
  have HS := hid c1
  clear da C0 hgd
  go_enter Try.func169, Try.ntmps169
  go_wp2_with fail
  rw [HW1.out]
  clear HW1
  have H0 := Hp.start W1
  obtain ⟨⟨q1_0, q1_1, q1_2⟩, r1_0, r1_1, r1_2⟩ := ((Blk.ext hA H0.below hA.lt)).all3
  obtain ⟨⟨q2_0, q2_1, q2_2, q2_3, q2_4⟩, r2_0, r2_1, r2_2, r2_3, r2_4⟩ := ((Blk.ext hS H0.below hS.lt)).all5
  go_wp2_with fail
  refine (validView_any _ V _ ((hv0.ext hW).ext H0.below)).mono ?_; rintro e w2 ⟨rfl, hb2⟩
  clear q1_0 q1_1 q1_2 r1_0 r1_1 r1_2 q2_0 q2_1 q2_2 q2_3 q2_4 r2_0 r2_1 r2_2 r2_3 r2_4
  have H2 := H0.nx hb2
  obtain ⟨⟨q3_0, q3_1, q3_2⟩, r3_0, r3_1, r3_2⟩ := ((Blk.ext hA H2.below hA.lt)).all3
  obtain ⟨⟨q4_0, q4_1, q4_2, q4_3, q4_4⟩, r4_0, r4_1, r4_2, r4_3, r4_4⟩ := ((Blk.ext hS H2.below hS.lt)).all5
  go_wp2_with fail
  refine (isDim_any _ V k _ ((hv0.ext hW).ext H2.below)).mono ?_; rintro e w3 ⟨rfl, hb3⟩
  clear q3_0 q3_1 q3_2 r3_0 r3_1 r3_2 q4_0 q4_1 q4_2 q4_3 q4_4 r4_0 r4_1 r4_2 r4_3 r4_4
  have H3 := H2.nx hb3
  obtain ⟨⟨q5_0, q5_1, q5_2⟩, r5_0, r5_1, r5_2⟩ := ((Blk.ext hA H3.below hA.lt)).all3
  obtain ⟨⟨q6_0, q6_1, q6_2, q6_3, q6_4⟩, r6_0, r6_1, r6_2, r6_3, r6_4⟩ := ((Blk.ext hS H3.below hS.lt)).all5
  go_wp2_with fail
  refine (validSlice_any _ ⟨f, t, b, hf, ht⟩ _ rfl hso).mono ?_; rintro e w4 ⟨rfl, hb4⟩
  clear q5_0 q5_1 q5_2 r5_0 r5_1 r5_2 q6_0 q6_1 q6_2 q6_3 q6_4 r6_0 r6_1 r6_2 r6_3 r6_4
  have H4 := H3.nx hb4
  obtain ⟨⟨q7_0, q7_1, q7_2⟩, r7_0, r7_1, r7_2⟩ := ((Blk.ext hA H4.below hA.lt)).all3
  obtain ⟨⟨q8_0, q8_1, q8_2, q8_3, q8_4⟩, r8_0, r8_1, r8_2, r8_3, r8_4⟩ := ((Blk.ext hS H4.below hS.lt)).all5
  go_wp2_with fail
  refine (cutDim_any _ _ V k ⟨f, t, b, hf, ht⟩ _ ((hv0.ext hW).ext H4.below) rfl HC.out hk HS.out).mono ?_; rintro e w5 ⟨s4, t4, rfl, ho, hp, hsep, hb5⟩
  clear q7_0 q7_1 q7_2 r7_0 r7_1 r7_2 q8_0 q8_1 q8_2 q8_3 q8_4 r8_0 r8_1 r8_2 r8_3 r8_4
  have H5 := H4.nx hb5
  obtain ⟨A7, c7, e7⟩ := ho.form
  obtain ⟨B7, d7, f7⟩ := hp.form
  subst e7 f7
  go_wp2_with fail
  refine (made_any _ (cutL V k ⟨f, t, b, hf, ht⟩) _ ⟨_, _, rfl, ho.ints, hp.ints⟩).mono ?_; rintro e w6 ⟨s5, t5, rfl, ho, hp, hsep, hb6⟩
  have H6 := H5.nx hb6
  have em : madeL (cutL V k ⟨f, t, b, hf, ht⟩) = cutL V k ⟨f, t, b, hf, ht⟩ := by simp [madeL, HV.out]
  rw [em] at ho hp
  rw [em, HV.out]
  clear em
  generalize cutL V k ⟨f, t, b, hf, ht⟩ = Z at *
  obtain ⟨A8, c8, e8⟩ := ho.form
  obtain ⟨B8, d8, f8⟩ := hp.form
  subst e8 f8
  obtain ⟨⟨q9_0, q9_1, q9_2⟩, r9_0, r9_1, r9_2⟩ := ((Blk.ext hR H6.below hR.lt)).all3
  go_wp2
  refine bodyPost_ret (v := .tuple #[.agg #[.int .i64 Z.base, .slice A8 Z.shape.length c8, .slice B8 Z.strides.length d8], .bool true]) (by simp [results, Try.results169, go_sem, q9_0, q9_1, q9_2]) rfl ?_
  rw [HQ.out.1, HQ.out.2]
  have hzz := H5.size
  exact ⟨_, _, rfl, (own3b ho (by omega) _ _ _).mono (by omega), (own3b hp (by omega) _ _ _).mono (by omega), hsep, below3 (hW.trans (H6.below.mono hW.size)) (by omega) _ _ _⟩

end Go.Proofs.Ytldblcolnjkcaaa

/-! ## GF -/
namespace Go.Proofs.Ytldblcolnjkcaaa
open Go.RowKit

section
variable {P : Program} {ops : Array Oper} {W : World} {R : Act → World → Prop} {k : Nat} {Es : List Ent} {o : Oper} {rest : List Oper} {a : Act} {s : Seen}
/-- A call that yields one value, under the facts of what it looks at. -/
theorem grow_callG {c : Value} (hw : Region.wanted o (yielded ops a.tmps) = true) (h : ∀ x : ExtW W, (∀ j, (autoDeps ops k).contains j = true → s.fact j x.v) → ∀ (K : Act → World → Prop) (Q : Exit → Act → World → Prop), (∀ w', Below x.v.heap.size x.v w' → K (a.put o.dst c) w') → o.wp P a x.v K Q)
    (hr : wpGrow P ops W R (k + 1) Es rest (a.put o.dst c) (s.push c (fun _ => True) (fun _ => False))) : wpGrow P ops W R k (Ent.is c :: Es) (o :: rest) a s := by
  refine ⟨Ent.is_good c, fun w hC hF _ K Q hK => ?_, fun v hv => ?_⟩
  · rw [if_pos hw]
    exact h ⟨w, hC⟩ hF K Q fun w' hb => hK c w' ⟨hb, rfl, fun b h => h.elim⟩
  · cases hv
    have e : (fun _ : World => True) = (fun w => (Ent.is c).Φ ((autoDeps ops k).map s.val) w c) := by funext w; simp [Ent.is]
    rw [e] at hr
    exact hr
end

end Go.Proofs.Ytldblcolnjkcaaa

/-! ## TN1 -/
namespace Go.Proofs.Ytldblcolnjkcaaa
open Go.RowKit

def isEntry (x : Int) : Bool := inR x (-1000000) 1000000
def isTensorL (T : TL) : Bool := isShapeL T.shape && decide ((T.values.length : Int) = prodW T.shape) && T.values.all isEntry
theorem isTensorL_shape {T : TL} (h : isShapeL T.shape = false) : isTensorL T = false := by simp [isTensorL, h]
theorem isTensorL_len {T : TL} (h : (T.values.length : Int) ≠ prodW T.shape) : isTensorL T = false := by simp [isTensorL, h]
theorem isTensorL_rest {T : TL} (h1 : isShapeL T.shape = true) (h2 : (T.values.length : Int) = prodW T.shape) : isTensorL T = T.values.all isEntry := by simp [isTensorL, h1, h2]
theorem isTensorL_and {T : TL} (h : isTensorL T = true) : isShapeL T.shape = true ∧ (T.values.length : Int) = prodW T.shape ∧ ∀ x ∈ T.values, -1000000 ≤ x ∧ x ≤ 1000000 := by
  simp only [isTensorL, Bool.and_eq_true, decide_eq_true_eq, List.all_eq_true, isEntry, inR] at h
  exact ⟨h.1.1, h.1.2, h.2⟩
theorem entry_eq (x : Int) : (decide (x < -1000000) || decide (1000000 < x)) = !isEntry x := by
  rw [Bool.eq_iff_iff]; simp [isEntry, inR]
  try omega

set_option maxRecDepth 100000 in
set_option maxHeartbeats 800000 in
theorem isTensor1_any (x : Int) (w : World) :
    Calls Try.prog 164 #[.int .i64 x] w fun e w' => e = .returned (.bool (!isEntry x)) ∧ w = w' := by
  by_cases h1 : x < -1000000
  · have H := hid (show isEntry x = false by simp [isEntry, inR]; omega)
    go_enter Try.func164, Try.ntmps164
    go_wp2
    go_ret
    exact ⟨ret_bool (by rw [H.out]; rfl), rfl⟩
  · have H := hid (entry_eq x)
    have h2 : decide (x < -1000000) = false := by simp; omega
    go_enter Try.func164, Try.ntmps164
    go_wp2
    go_ret
    exact ⟨ret_bool (by rw [← H.out, h2]; rfl), rfl⟩
theorem cf_isTensor1 (ar : Array Value) (w : World) : (callFunc 164 ar).run Try.prog w = .ok (.enter 164 ar) w := by kernel_rfl

set_option maxRecDepth 100000 in
set_option maxHeartbeats 6400000 in
theorem isTensor_any (v : Value) (T : TL) (w : World) (hv : TensorV w v T) :
    Calls Try.prog 139 #[v] w fun e w' => e = .returned (.bool (isTensorL T)) ∧ Below w.heap.size w w' := by
  obtain ⟨sv, tv, rfl, hs, ht⟩ := hv
  obtain ⟨As, cs, es⟩ := hs.form
  obtain ⟨At, ct, et⟩ := ht.form
  subst es et
  have hb0 := below_alloc w (.cells #[.slice As T.shape.length cs, .slice At T.values.length ct] 75)
  have hZ := Blk.new w 75 #[.slice As T.shape.length cs, .slice At T.values.length ct]
  have hs := hs.nx hb0
  have ht := ht.nx hb0
  cases c1 : isShapeL T.shape
  · have HQ := hid (isTensorL_shape c1)
    go_enter Try.func139, Try.ntmps139
    go_upto_region 1 with fail
    generalize w.alloc (.cells #[.slice As T.shape.length cs, .slice At T.values.length ct] 75) = w0 at *
    have qA := fun x : ExtW w0 => (x.at_ hZ).all2.1
    have HS : ∀ x : ExtW w0, Calls Try.prog 90 #[.slice As T.shape.length cs] x.v fun e w' => e = .returned (.bool false) ∧ Below x.v.heap.size x.v w' := fun x => (isShape_any _ T.shape x.v (hs.nx x.h)).mono fun _ _ h => ⟨by rw [h.1, c1], h.2 ▸ Below.refl _ _⟩
    have HS := hid HS
    clear c1
    refine region_mk 13 (by kernel_rfl) (by kernel_rfl) ?_
    apply Exists.intro
    simp only [List.take_succ_cons, List.take_zero, List.drop_succ_cons, List.drop_zero]
    repeat (first
      | (apply grow_val (by rfl); (focus (intro x; (go_simp; try with_reducible rfl); done)); simp only [Act.put, List.setIfInBounds_toArray, List.set_cons_zero, List.set_cons_succ])
      | (apply grow_skip (by rfl); simp only [Act.put, List.setIfInBounds_toArray, List.set_cons_zero, List.set_cons_succ])
      | (apply grow_call (by rfl); (focus (intro x K Q hK; go_simp; (first | (go_at_call 90; (with_reducible refine (HS.out x).mono ?_); rintro e w' ⟨rfl, hb⟩; exact hK _ hb)); done)); simp only [Act.put, List.setIfInBounds_toArray, List.set_cons_zero, List.set_cons_succ]))
    refine grow_nil ?_
    rintro ⟨w1, hb1⟩ - -
    have hb1 : Below w0.heap.size w0 w1 := hb1
    clear qA
    go_wp2
    go_ret
    exact ⟨ret_bool HQ.out.symm, hb0.nx hb1 hb0.size⟩
  obtain ⟨m, hm⟩ : ∃ m : Nat, prodW T.shape = (m : Int) := ⟨(prodW T.shape).toNat, by have := shape_prod c1; omega⟩
  have HM := hid hm
  have HS : ∀ w0, Ints w0 (.slice As T.shape.length cs) T.shape → Calls Try.prog 90 #[.slice As T.shape.length cs] w0 fun e w' => e = .returned (.bool true) ∧ Below w0.heap.size w0 w' := fun w0 hs => (isShape_any _ T.shape w0 hs).mono fun _ _ h => ⟨by rw [h.1, c1], h.2 ▸ Below.refl _ _⟩
  have HS := hid HS
  have HC : ∀ w0, Ints w0 (.slice As T.shape.length cs) T.shape → Calls Try.prog 96 #[.slice As T.shape.length cs] w0 fun e w' => e = .returned (.int .i64 (m : Int)) ∧ Below w0.heap.size w0 w' := fun w0 hs => (countOf_any _ T.shape w0 hs).mono fun _ _ h => ⟨by rw [h.1, hm], h.2 ▸ Below.refl _ _⟩
  have HC := hid HC
  have H1 := hid c1
  by_cases c2 : T.values.length = m
  case neg =>
    have HQ := hid (isTensorL_len (T := T) (by rw [hm]; omega))
    have hne : (((T.values.length : Nat) : Int) != (m : Int)) = true := by simp; omega
    clear c1 hm c2
    go_enter Try.func139, Try.ntmps139
    go_upto_region 1 with fail
    generalize w.alloc (.cells #[.slice As T.shape.length cs, .slice At T.values.length ct] 75) = w0 at *
    have qA := fun x : ExtW w0 => (x.at_ hZ).all2.1
    refine region_mk 13 (by kernel_rfl) (by kernel_rfl) ?_
    apply Exists.intro
    simp only [List.take_succ_cons, List.take_zero, List.drop_succ_cons, List.drop_zero]
    repeat (first
      | (apply grow_val (by rfl); (focus (intro x; (go_simp; try with_reducible rfl); done)); simp only [Act.put, List.setIfInBounds_toArray, List.set_cons_zero, List.set_cons_succ])
      | (apply grow_skip (by rfl); simp only [Act.put, List.setIfInBounds_toArray, List.set_cons_zero, List.set_cons_succ])
      | (apply grow_call (by rfl); (focus (intro x K Q hK; go_simp; (first | (go_at_call 90; (with_reducible refine (HS.out _ (hs.nx x.h)).mono ?_); rintro e w' ⟨rfl, hb⟩; exact hK _ hb) | (go_at_call 96; (with_reducible refine (HC.out _ (hs.nx x.h)).mono ?_); rintro e w' ⟨rfl, hb⟩; exact hK _ hb)); done)); simp only [Act.put, List.setIfInBounds_toArray, List.set_cons_zero, List.set_cons_succ]))
    refine grow_nil ?_
    rintro ⟨w1, hb1⟩ - -
    have hb1 : Below w0.heap.size w0 w1 := hb1
    clear qA
    go_wp2
    go_ret
    exact ⟨ret_bool HQ.out.symm, hb0.nx hb1 hb0.size⟩
  have HQ := hid (isTensorL_rest c1 (by rw [hm, c2]))
  have HN := hid (any_not_all T.values isEntry)
  have hne : (((T.values.length : Nat) : Int) != (m : Int)) = false := by simp; omega
  clear c1 hm c2
  go_enter Try.func139, Try.ntmps139
  go_upto_region 1 with fail
  generalize w.alloc (.cells #[.slice As T.shape.length cs, .slice At T.values.length ct] 75) = w0 at *
  have qA := fun x : ExtW w0 => (x.at_ hZ).all2.1
  refine region_mk 13 (by kernel_rfl) (by kernel_rfl) ?_
  apply Exists.intro
  simp only [List.take_succ_cons, List.take_zero, List.drop_succ_cons, List.drop_zero]
  repeat (first
    | (apply grow_val (by rfl); (focus (intro x; (go_simp; try with_reducible rfl); done)); simp only [Act.put, List.setIfInBounds_toArray, List.set_cons_zero, List.set_cons_succ])
    | (apply grow_skip (by rfl); simp only [Act.put, List.setIfInBounds_toArray, List.set_cons_zero, List.set_cons_succ])
    | (apply grow_call (by rfl); (focus (intro x K Q hK; go_simp; (first | (go_at_call 90; (with_reducible refine (HS.out _ (hs.nx x.h)).mono ?_); rintro e w' ⟨rfl, hb⟩; exact hK _ hb) | (go_at_call 96; (with_reducible refine (HC.out _ (hs.nx x.h)).mono ?_); rintro e w' ⟨rfl, hb⟩; exact hK _ hb)); done)); simp only [Act.put, List.setIfInBounds_toArray, List.set_cons_zero, List.set_cons_succ]))
  refine grow_nil ?_
  rintro ⟨w1, hb1⟩ - -
  have hb1 : Below w0.heap.size w0 w1 := hb1
  have ht := ht.nx hb1
  obtain ⟨⟨q1, q2⟩, -⟩ := (Blk.ext hZ hb1 hZ.lt).all2
  have hb := hb0.nx hb1 hb0.size
  clear qA
  go_wp2_with fail
  refine (ContainsFunc_any 164 cf_isTensor1 (fun x => !isEntry x) isTensor1_any _ T.values _ ht).mono ?_; rintro e w' ⟨rfl, rfl⟩
  go_wp2
  go_ret
  exact ⟨ret_bool (HN.out.trans HQ.out.symm), hb⟩

set_option maxRecDepth 100000 in
set_option maxHeartbeats 6400000 in
theorem ValidTensor_any (v : Value) (T : TL) (w : World) (hv : TensorV w v T) :
    Calls Try.prog 80 #[v] w fun e w' => e = .returned (.bool (isTensorL T)) ∧ Below w.heap.size w w' := by
  have h0 := hv
  obtain ⟨sv, tv, rfl, hs, ht⟩ := hv
  have hb0 := below_alloc w (.cells #[sv, tv] 75)
  have hZ := Blk.new w 75 #[sv, tv]
  go_enter Try.func80, Try.ntmps80
  go_upto_region 1 with fail
  generalize w.alloc (.cells #[sv, tv] 75) = w0 at *
  obtain ⟨⟨q0, q1⟩, -⟩ := id hZ.all2
  go_wp2_with fail
  refine (isTensor_any _ T _ (TensorV.ext h0 hb0)).mono ?_; rintro e w1 ⟨rfl, hb⟩
  go_wp2
  go_ret
  exact ⟨rfl, hb0.nx hb hb0.size⟩

set_option maxRecDepth 100000 in
set_option maxHeartbeats 6400000 in
theorem validTensor_any (v : Value) (T : TL) (w : World) (hv : TensorV w v T) :
    Calls Try.prog 135 #[v] w fun e w' => e = .returned (.bool (isTensorL T)) ∧ Below w.heap.size w w' := by
  obtain ⟨sv, tv, rfl, hs, ht⟩ := hv
  obtain ⟨As, cs, es⟩ := hs.form
  obtain ⟨At, ct, et⟩ := ht.form
  subst es et
  have hb0 := below_alloc w (.cells #[.slice As T.shape.length cs, .slice At T.values.length ct] 75)
  have hZ := Blk.new w 75 #[.slice As T.shape.length cs, .slice At T.values.length ct]
  have hs := hs.nx hb0
  have ht := ht.nx hb0
  cases c1 : isShapeL T.shape
  · have HQ := hid (isTensorL_shape c1)
    go_enter Try.func135, Try.ntmps135
    go_upto_region 1 with fail
    generalize w.alloc (.cells #[.slice As T.shape.length cs, .slice At T.values.length ct] 75) = w0 at *
    have qA := fun x : ExtW w0 => (x.at_ hZ).all2.1
    have HS : ∀ x : ExtW w0, Calls Try.prog 92 #[.slice As T.shape.length cs] x.v fun e w' => e = .returned (.bool false) ∧ Below x.v.heap.size x.v w' := fun x => (validShape_any _ T.shape x.v (hs.nx x.h)).mono fun _ _ h => ⟨by rw [h.1, c1], h.2 ▸ Below.refl _ _⟩
    have HS := hid HS
    clear c1
    refine region_mk 17 (by kernel_rfl) (by kernel_rfl) ?_
    apply Exists.intro
    simp only [List.take_succ_cons, List.take_zero, List.drop_succ_cons, List.drop_zero]
    repeat (first
      | (apply grow_val (by rfl); (focus (intro x; (go_simp; try with_reducible rfl); done)); simp only [Act.put, List.setIfInBounds_toArray, List.set_cons_zero, List.set_cons_succ])
      | (apply grow_skip (by rfl); simp only [Act.put, List.setIfInBounds_toArray, List.set_cons_zero, List.set_cons_succ])
      | (apply grow_call (by rfl); (focus (intro x K Q hK; go_simp; (first | (go_at_call 92; (with_reducible refine (HS.out x).mono ?_); rintro e w' ⟨rfl, hb⟩; exact hK _ hb)); done)); simp only [Act.put, List.setIfInBounds_toArray, List.set_cons_zero, List.set_cons_succ]))
    refine grow_nil ?_
    rintro ⟨w1, hb1⟩ - -
    have hb1 : Below w0.heap.size w0 w1 := hb1
    clear qA
    go_wp2
    go_ret
    exact ⟨ret_bool HQ.out.symm, hb0.nx hb1 hb0.size⟩
  obtain ⟨m, hm⟩ : ∃ m : Nat, prodW T.shape = (m : Int) := ⟨(prodW T.shape).toNat, by have := shape_prod c1; omega⟩
  have HS : ∀ w0, Ints w0 (.slice As T.shape.length cs) T.shape → Calls Try.prog 92 #[.slice As T.shape.length cs] w0 fun e w' => e = .returned (.bool true) ∧ Below w0.heap.size w0 w' := fun w0 hs => (validShape_any _ T.shape w0 hs).mono fun _ _ h => ⟨by rw [h.1, c1], h.2 ▸ Below.refl _ _⟩
  have HS := hid HS
  have HC : ∀ w0, Ints w0 (.slice As T.shape.length cs) T.shape → Calls Try.prog 110 #[.slice As T.shape.length cs] w0 fun e w' => e = .returned (.int .i64 (m : Int)) ∧ Below w0.heap.size w0 w' := fun w0 hs => (count_any _ T.shape w0 hs).mono fun _ _ h => ⟨by rw [h.1, hm], h.2 ▸ Below.refl _ _⟩
  have HC := hid HC
  by_cases c2 : T.values.length = m
  case neg =>
    have HQ := hid (isTensorL_len (T := T) (by rw [hm]; omega))
    have hne : (((T.values.length : Nat) : Int) == (m : Int)) = false := by simp; omega
    clear c1 hm c2
    go_enter Try.func135, Try.ntmps135
    go_upto_region 1 with fail
    generalize w.alloc (.cells #[.slice As T.shape.length cs, .slice At T.values.length ct] 75) = w0 at *
    have qA := fun x : ExtW w0 => (x.at_ hZ).all2.1
    refine region_mk 17 (by kernel_rfl) (by kernel_rfl) ?_
    apply Exists.intro
    simp only [List.take_succ_cons, List.take_zero, List.drop_succ_cons, List.drop_zero]
    repeat (first
      | (apply grow_val (by rfl); (focus (intro x; (go_simp; try with_reducible rfl); done)); simp only [Act.put, List.setIfInBounds_toArray, List.set_cons_zero, List.set_cons_succ])
      | (apply grow_skip (by rfl); simp only [Act.put, List.setIfInBounds_toArray, List.set_cons_zero, List.set_cons_succ])
      | (apply grow_call (by rfl); (focus (intro x K Q hK; go_simp; (first | (go_at_call 92; (with_reducible refine (HS.out _ (hs.nx x.h)).mono ?_); rintro e w' ⟨rfl, hb⟩; exact hK _ hb) | (go_at_call 110; (with_reducible refine (HC.out _ (hs.nx x.h)).mono ?_); rintro e w' ⟨rfl, hb⟩; exact hK _ hb)); done)); simp only [Act.put, List.setIfInBounds_toArray, List.set_cons_zero, List.set_cons_succ]))
    refine grow_nil ?_
    rintro ⟨w1, hb1⟩ - -
    have hb1 : Below w0.heap.size w0 w1 := hb1
    clear qA
    go_wp2
    go_ret
    exact ⟨ret_bool HQ.out.symm, hb0.nx hb1 hb0.size⟩
  have HQ := hid (isTensorL_rest c1 (by rw [hm, c2]))
  have hne : (((T.values.length : Nat) : Int) == (m : Int)) = true := by simp; omega
  have HA : ∀ w0, Ints w0 (.slice At T.values.length ct) T.values → Calls Try.prog 151 #[.slice At T.values.length ct, .int .i64 (-1000000), .int .i64 1000000] w0 fun e w' => e = .returned (.bool (isTensorL T)) ∧ Below w0.heap.size w0 w' := fun w0 ht => (allIn_any _ T.values _ _ w0 ht).mono fun _ _ h => ⟨h.1.trans (ret_bool HQ.out.symm), h.2 ▸ Below.refl _ _⟩
  have HA := hid HA
  clear c1 hm c2
  go_enter Try.func135, Try.ntmps135
  go_upto_region 1 with fail
  generalize w.alloc (.cells #[.slice As T.shape.length cs, .slice At T.values.length ct] 75) = w0 at *
  have qA := fun x : ExtW w0 => (x.at_ hZ).all2.1
  refine region_mk 17 (by kernel_rfl) (by kernel_rfl) ?_
  apply Exists.intro
  simp only [List.take_succ_cons, List.take_zero, List.drop_succ_cons, List.drop_zero]
  repeat (first
    | (apply grow_val (by rfl); (focus (intro x; (go_simp; try with_reducible rfl); done)); simp only [Act.put, List.setIfInBounds_toArray, List.set_cons_zero, List.set_cons_succ])
    | (apply grow_skip (by rfl); simp only [Act.put, List.setIfInBounds_toArray, List.set_cons_zero, List.set_cons_succ])
    | (apply grow_call (by rfl); (focus (intro x K Q hK; go_simp; (first | (go_at_call 92; (with_reducible refine (HS.out _ (hs.nx x.h)).mono ?_); rintro e w' ⟨rfl, hb⟩; exact hK _ hb) | (go_at_call 110; (with_reducible refine (HC.out _ (hs.nx x.h)).mono ?_); rintro e w' ⟨rfl, hb⟩; exact hK _ hb) | (go_at_call 151; (with_reducible refine (HA.out _ (ht.nx x.h)).mono ?_); rintro e w' ⟨rfl, hb⟩; exact hK _ hb)); done)); simp only [Act.put, List.setIfInBounds_toArray, List.set_cons_zero, List.set_cons_succ]))
  refine grow_nil ?_
  rintro ⟨w1, hb1⟩ - -
  have hb1 : Below w0.heap.size w0 w1 := hb1
  clear qA
  go_wp2
  go_ret
  exact ⟨rfl, hb0.nx hb1 hb0.size⟩

end Go.Proofs.Ytldblcolnjkcaaa

/-! ## EXp -/
namespace Go.Proofs.Ytldblcolnjkcaaa
open Go.RowKit

def isLabel (x : Int) : Bool := inR x 0 4
/-- What d dimensions of a tensor leave of the extents. -/
def extD (o : List Int) (ls shape : List Int) : Nat → Option (List Int)
  | 0 => some o
  | d + 1 => (extD o ls shape d).bind fun o => if 0 ≤ o.getD (ls.getD d 0).toNat 0 ∧ o.getD (ls.getD d 0).toNat 0 ≠ shape.getD d 0 then none else some (o.set (ls.getD d 0).toNat (shape.getD d 0))
def fitT (T : TL) (ls : List Int) : Bool := decide (ls.length = T.shape.length) && ls.all isLabel
def extT (o : List Int) (T : TL) (ls : List Int) : Option (List Int) := if fitT T ls then extD o ls T.shape ls.length else none
def ext0 : List Int := List.replicate 5 (-1)
/-- What k tensors leave. -/
def extTo (xs : List TL) (lss : List (List Int)) : Nat → Option (List Int)
  | 0 => some ext0
  | k + 1 => (extTo xs lss k).bind fun o => extT o (xs.getD k ⟨[], []⟩) (lss.getD k [])
def okTs (xs : List TL) (lss : List (List Int)) : Bool := xs.all isTensorL && (decide (1 ≤ xs.length) && decide (xs.length ≤ 3)) && decide (lss.length = xs.length)
def extentsR (xs : List TL) (lss : List (List Int)) : Option (List Int) := if okTs xs lss then extTo xs lss xs.length else none
def extentsL (xs : List TL) (lss : List (List Int)) : List Int := (extentsR xs lss).getD []
def okExtents (xs : List TL) (lss : List (List Int)) : Bool := (extentsR xs lss).isSome

theorem extD_length {o ls shape : List Int} {d : Nat} {r : List Int} (h : extD o ls shape d = some r) : r.length = o.length := by
  induction d generalizing r with
  | zero => simp [extD] at h; rw [h]
  | succ d ih =>
    simp only [extD, Option.bind_eq_some_iff] at h
    obtain ⟨q, hq, h⟩ := h
    split at h
    · cases h
    · rw [← Option.some.inj h, List.length_set]; exact ih hq
theorem extD_none {o ls shape : List Int} {d e : Nat} (h : extD o ls shape d = none) (hd : d ≤ e) : extD o ls shape e = none := by
  induction e with
  | zero => (obtain rfl : d = 0 := (by omega)); exact h
  | succ e ih =>
    rcases Nat.lt_or_ge e d with h1 | h1
    · (obtain rfl : d = e + 1 := (by omega)); exact h
    · simp [extD, ih h1]
theorem extT_length {o : List Int} {T : TL} {ls r : List Int} (h : extT o T ls = some r) : r.length = o.length := by
  unfold extT at h
  split at h
  · exact extD_length h
  · cases h
theorem extTo_length {xs : List TL} {lss : List (List Int)} {k : Nat} {r : List Int} (h : extTo xs lss k = some r) : r.length = 5 := by
  induction k generalizing r with
  | zero => simp [extTo, ext0] at h; rw [← h]; rfl
  | succ k ih =>
    simp only [extTo, Option.bind_eq_some_iff] at h
    obtain ⟨q, hq, h⟩ := h
    rw [extT_length h]; exact ih hq
theorem extTo_none {xs : List TL} {lss : List (List Int)} {k e : Nat} (h : extTo xs lss k = none) (hd : k ≤ e) : extTo xs lss e = none := by
  induction e with
  | zero => (obtain rfl : k = 0 := (by omega)); exact h
  | succ e ih =>
    rcases Nat.lt_or_ge e k with h1 | h1
    · (obtain rfl : k = e + 1 := (by omega)); exact h
    · simp [extTo, ih h1]
theorem extentsR_no {xs : List TL} {lss : List (List Int)} (h : okTs xs lss = false) : extentsR xs lss = none := by simp [extentsR, h]
theorem extentsR_cut {xs : List TL} {lss : List (List Int)} {k : Nat} (h : extTo xs lss k = none) (hk : k ≤ xs.length) : extentsR xs lss = none := by
  unfold extentsR
  split
  · exact extTo_none h hk
  · rfl
theorem no_extents {xs : List TL} {lss : List (List Int)} (h : extentsR xs lss = none) : extentsL xs lss = [] ∧ okExtents xs lss = false := by simp [extentsL, okExtents, h]
theorem yes_extents {xs : List TL} {lss : List (List Int)} {r : List Int} (h : extentsR xs lss = some r) : extentsL xs lss = r ∧ okExtents xs lss = true := by simp [extentsL, okExtents, h]
theorem extentsL_len (xs : List TL) (lss : List (List Int)) : (extentsL xs lss).length ≤ 5 := by
  unfold extentsL
  cases h : extentsR xs lss with
  | none => simp
  | some r =>
    unfold extentsR at h
    split at h
    · simp [extTo_length h]
    · cases h
/-- A tensor whose labels don't fit. -/
theorem extTo_bad {xs : List TL} {lss : List (List Int)} {k : Nat} {o : List Int} (h : extTo xs lss k = some o) (hx : k < xs.length) (hl : k < lss.length) (hf : fitT xs[k] lss[k] = false) : extTo xs lss (k + 1) = none := by
  simp [extTo, h, hx, hl, extT, hf]
/-- One that fits: its dimensions. -/
theorem extTo_fit {xs : List TL} {lss : List (List Int)} {k : Nat} {o : List Int} (h : extTo xs lss k = some o) (hx : k < xs.length) (hl : k < lss.length) (hf : fitT xs[k] lss[k] = true) : extTo xs lss (k + 1) = extD o lss[k] xs[k].shape lss[k].length := by
  simp [extTo, h, hx, hl, extT, hf]
theorem extD_bad {o ls shape r : List Int} {d l : Nat} (h : extD o ls shape d = some r) (hd : d < ls.length) (hs : d < shape.length) (hl : ls[d] = (l : Int)) (hr : l < r.length) (h0 : 0 ≤ r[l]) (h1 : r[l] ≠ shape[d]) : extD o ls shape (d + 1) = none := by
  simp [extD, h, hd, hs, hl, hr, h0, h1]
theorem extD_next {o ls shape r : List Int} {d l : Nat} (h : extD o ls shape d = some r) (hd : d < ls.length) (hs : d < shape.length) (hl : ls[d] = (l : Int)) (hr : l < r.length) (h1 : ¬ 0 ≤ r[l] ∨ r[l] = shape[d]) : extD o ls shape (d + 1) = some (r.set l shape[d]) := by
  simp only [extD, h, Option.bind_some]
  have e1 : (ls.getD d 0).toNat = l := by simp [hd, hl]
  have e2 : shape.getD d 0 = shape[d] := by simp [hs]
  have e3 : r.getD l 0 = r[l] := by simp [hr]
  rw [e1, e2, e3, if_neg (by omega)]
theorem fitT_and {T : TL} {ls : List Int} (h : fitT T ls = true) : ls.length = T.shape.length ∧ ∀ x ∈ ls, 0 ≤ x ∧ x ≤ 4 := by
  simp only [fitT, Bool.and_eq_true, decide_eq_true_eq, List.all_eq_true, isLabel, inR] at h
  exact h

end Go.Proofs.Ytldblcolnjkcaaa

/-! ## RKp -/
namespace Go.Proofs.Ytldblcolnjkcaaa
open Go.RowKit

theorem rowS_cons (e : Int) (s : List Int) : rowS (e :: s) = prodI s :: rowS s := by
  simp only [rowS, List.length_cons, List.range_succ_eq_map, List.map_cons, List.map_map, Function.comp_def]
  simp
theorem rankF_dot (s i : List Int) (a : Int) (hl : i.length = s.length) : rankF a s i = a * prodI s + dotI i (rowS s) := by
  induction s generalizing i a with
  | nil => cases i with
    | nil => simp [rankF, prodI, dotI]
    | cons x i => simp at hl
  | cons e s ih =>
    cases i with
    | nil => simp at hl
    | cons x i =>
      rw [rowS_cons]
      simp only [rankF, dotI, prodI]
      rw [ih i _ (by simpa using hl), Int.add_mul, Int.mul_assoc]
      omega
theorem dot_row : ∀ {i s : List Int}, InBox i s → 0 ≤ dotI i (rowS s) ∧ dotI i (rowS s) < prodI s ∧ unr s (dotI i (rowS s)) = i
  | [], [], _ => by simp [dotI, prodI, unr]
  | [], _ :: _, h => h.elim
  | _ :: _, [], h => h.elim
  | x :: i, e :: s, h => by
    obtain ⟨h0, h1, hk⟩ := dot_row h.2.2
    have hpos := box_pos h.2.2
    have hp := prodI_gt hpos
    have ha := Int.mul_nonneg h.1 (show 0 ≤ prodI s by omega)
    have hb := Int.mul_le_mul_of_nonneg_right (show x + 1 ≤ e by have := h.2.1; omega) (show 0 ≤ prodI s by omega)
    rw [Int.add_mul, Int.one_mul] at hb
    rw [rowS_cons]
    simp only [dotI, prodI]
    refine ⟨by omega, by omega, ?_⟩
    rw [unr_cons, unr_add hpos, hk, Int.add_comm, Int.add_mul_ediv_right _ _ (by omega), Int.ediv_eq_zero_of_lt h0 h1, Int.zero_add, Int.emod_eq_of_lt h.1 h.2.1]
/-- Box and index are one. -/
theorem box_iff : ∀ {s i : List Int}, InBox i s ↔ i.length = s.length ∧ ∀ k (h1 : k < i.length) (h2 : k < s.length), 0 ≤ i[k] ∧ i[k] < s[k]
  | [], [] => by simp [InBox]
  | [], _ :: _ => by simp [InBox]
  | _ :: _, [] => by simp [InBox]
  | e :: s, x :: i => by
    simp only [InBox, box_iff (s := s) (i := i), List.length_cons]
    constructor
    · rintro ⟨h1, h2, h3, h4⟩
      refine ⟨by omega, fun k k1 k2 => ?_⟩
      cases k with
      | zero => exact ⟨h1, h2⟩
      | succ k => simpa using h4 k (by omega) (by omega)
    · rintro ⟨h1, h2⟩
      refine ⟨(h2 0 (by omega) (by omega)).1, (h2 0 (by omega) (by omega)).2, by omega, fun k k1 k2 => ?_⟩
      have := h2 (k + 1) (by omega) (by omega)
      simp only [List.getElem_cons_succ] at this
      exact this
theorem dot_part : ∀ {i s : List Int}, InBox i s → ∀ k, 0 ≤ dotI (i.take k) (rowS s) ∧ dotI (i.take k) (rowS s) ≤ dotI i (rowS s)
  | [], [], _, k => by simp [dotI]
  | [], _ :: _, h, _ => h.elim
  | _ :: _, [], h, _ => h.elim
  | x :: i, e :: s, h, 0 => by
    have := dot_row h
    simp only [List.take_zero]
    exact ⟨by simp [dotI], by simpa [dotI] using this.1⟩
  | x :: i, e :: s, h, k + 1 => by
    have h1 := dot_part h.2.2 k
    have hp := prodI_gt (box_pos h.2.2)
    have ha := Int.mul_nonneg h.1 (show 0 ≤ prodI s by omega)
    rw [rowS_cons]
    simp only [List.take_succ_cons, dotI]
    omega
theorem dot_snoc : ∀ (i st : List Int) (k : Nat) (h1 : k < i.length) (h2 : k < st.length), dotI (i.take (k + 1)) st = dotI (i.take k) st + i[k] * st[k]
  | [], _, _, h, _ => by simp at h
  | _ :: _, [], _, _, h => by simp at h
  | x :: i, y :: st, 0, _, _ => by simp [dotI]
  | x :: i, y :: st, k + 1, h1, h2 => by
    have := dot_snoc i st k (by simpa using h1) (by simpa using h2)
    simp only [List.take_succ_cons, dotI, List.getElem_cons_succ, this]
    omega

end Go.Proofs.Ytldblcolnjkcaaa

/-! ## NVp -/
namespace Go.Proofs.Ytldblcolnjkcaaa
open Go.RowKit

def newL (s : List Int) : VL := if isShapeL s then tidyL ⟨0, s, rowS s⟩ else VL.zero
theorem dot_unr : ∀ {s : List Int}, (∀ x ∈ s, 1 ≤ x) → ∀ k, 0 ≤ k → k < prodI s → dotI (unr s k) (rowS s) = k
  | [], _, k, h0, h1 => by simp [prodI] at h1; simp [unr, dotI]; omega
  | e :: s, h, k, h0, h1 => by
    have hs : ∀ x ∈ s, 1 ≤ x := fun x hx => h x (List.mem_cons_of_mem _ hx)
    have hp := prodI_gt hs
    have hm0 := Int.emod_nonneg k (show prodI s ≠ 0 by omega)
    have hm1 := Int.emod_lt_of_pos k hp
    have hdm := Int.mul_ediv_add_emod k (prodI s)
    have hd0 : 0 ≤ k / prodI s := Int.ediv_nonneg h0 (by omega)
    have hd1 : k / prodI s < e := Int.ediv_lt_of_lt_mul hp h1
    have ih := dot_unr hs (k % prodI s) hm0 hm1
    have hu : unr s k = unr s (k % prodI s) := by
      have := unr_add hs (k / prodI s) (k % prodI s)
      rw [Int.mul_comm, hdm] at this
      exact this
    rw [unr_cons, rowS_cons]
    simp only [dotI]
    rw [hu, ih, Int.emod_eq_of_lt hd0 hd1, Int.mul_comm]
    exact hdm
theorem lo_pos : ∀ (es ss : List Int), (∀ x ∈ es, 1 ≤ x) → (∀ x ∈ ss, 0 ≤ x) → loS es ss = 0
  | [], _, _, _ => rfl
  | _ :: _, [], _, _ => rfl
  | e :: es, x :: ss, h1, h2 => by
    have he := h1 e List.mem_cons_self
    have hx := h2 x List.mem_cons_self
    have := lo_pos es ss (fun y hy => h1 y (List.mem_cons_of_mem _ hy)) (fun y hy => h2 y (List.mem_cons_of_mem _ hy))
    have hm := Int.mul_nonneg (show 0 ≤ e - 1 by omega) hx
    simp only [loS, this]; omega
theorem hi_row : ∀ {s : List Int}, (∀ x ∈ s, 1 ≤ x) → hiS s (rowS s) = prodI s - 1
  | [], _ => by simp [hiS, prodI]
  | e :: s, h => by
    have hs : ∀ x ∈ s, 1 ≤ x := fun x hx => h x (List.mem_cons_of_mem _ hx)
    have he := h e List.mem_cons_self
    have hp := prodI_gt hs
    have ih := hi_row hs
    have hm := Int.mul_nonneg (show 0 ≤ e - 1 by omega) (show 0 ≤ prodI s by omega)
    rw [rowS_cons]
    simp only [hiS, prodI, ih]
    rw [Int.sub_mul, Int.one_mul] at hm ⊢
    omega
theorem rowS_bd : ∀ {s : List Int}, (∀ x ∈ s, 1 ≤ x) → ∀ x ∈ rowS s, 1 ≤ x ∧ x ≤ prodI s
  | [], _, x, hx => by simp [rowS] at hx
  | e :: s, h, x, hx => by
    have hs : ∀ x ∈ s, 1 ≤ x := fun x hx => h x (List.mem_cons_of_mem _ hx)
    have he := h e List.mem_cons_self
    have hp := prodI_gt hs
    have hle : prodI s ≤ e * prodI s := by
      have := Int.mul_le_mul_of_nonneg_right he (show 0 ≤ prodI s by omega)
      omega
    rw [rowS_cons] at hx
    simp only [prodI]
    rcases List.mem_cons.1 hx with rfl | hx
    · omega
    · have := rowS_bd hs x hx
      omega
theorem newL_valid {s : List Int} (h : isShapeL s = true) : isViewL (newL s) = true := by
  obtain ⟨h1, h2, -⟩ := shape_ext h
  have hp := shape_prod h
  unfold newL
  rw [if_pos h]
  refine tidy_valid h (rowS_length s) fun hz => ?_
  simp only at hz ⊢
  have hpos := prodI_pos (fun x hx => (h2 x hx).1) (show 0 < prodI s by omega)
  refine ⟨by simp, fun x hx => ?_, ?_, ?_⟩
  · have := rowS_bd hpos x hx; omega
  · rw [lo_pos _ _ hpos (fun x hx => by have := rowS_bd hpos x hx; omega)]; omega
  · rw [hi_row hpos]; omega
theorem newL_shape {s : List Int} (h : isShapeL s = true) : (newL s).shape = s := by
  unfold newL tidyL
  rw [if_pos h]
  split <;> rfl
theorem newL_pos {s : List Int} (h : isShapeL s = true) (hz : prodI s ≠ 0) : newL s = ⟨0, s, rowS s⟩ := by
  unfold newL tidyL
  rw [if_pos h, if_neg (by rw [(shape_prod h).1]; exact hz)]
/-- The numbers from 0 on. -/
def upI (n : Nat) : List Int := (List.range n).map fun (i : Nat) => (i : Int)
theorem upI_length (n : Nat) : (upI n).length = n := by simp [upI]
theorem upI_succ (n : Nat) : upI (n + 1) = upI n ++ [(n : Int)] := by simp [upI, List.range_succ]
theorem newL_offs {s : List Int} (h : isShapeL s = true) : offs (newL s) = upI (prodI s).toNat := by
  obtain ⟨h1, h2, -⟩ := shape_ext h
  have hp := shape_prod h
  unfold offs upI
  rw [newL_shape h, hp.1]
  refine List.map_congr_left fun k hk => ?_
  rw [List.mem_range] at hk
  have hz : prodI s ≠ 0 := by omega
  have hpos := prodI_pos (fun x hx => (h2 x hx).1) (show 0 < prodI s by omega)
  rw [newL_pos h hz]
  have hbx := unr_box hpos (k : Int)
  rw [offW_dot (by simp) (box_le hbx fun x hx => (h2 x hx).2) (fun x hx => by have := rowS_bd hpos x hx; omega) (by rw [box_length hbx]; omega), dot_unr hpos k (by omega) (by omega)]
  simp
theorem newL_row {s : List Int} (h : isShapeL s = true) : isRowL (newL s) = true := by
  have hv := newL_valid h
  have hp := shape_prod h
  unfold isRowL
  rw [hv, Bool.true_and]
  refine eqL_yes ?_
  by_cases hz : prodI s = 0
  · have h0 : prodW (newL s).shape = 0 := by rw [newL_shape h, hp.1, hz]
    simp [offs, h0]
  · rw [newL_pos h hz]

end Go.Proofs.Ytldblcolnjkcaaa

/-! ## C9a -/
namespace Go.Proofs.Ytldblcolnjkcaaa
open Go.RowKit
set_option maxRecDepth 100000 in
set_option maxHeartbeats 400000 in
theorem irowStrides_any (v : Value) (shape : List Int) (w : World) (h : Ints w v shape) (hok : isShapeL shape = true) :
    Calls Try.prog 95 #[v] w (RetOwn w (rowS shape)) := by
  obtain ⟨hs1, hs2, hs3⟩ := shape_ext hok
  have HX := hid hs2; clear hs2 hok
  have h0 := h
  obtain ⟨A, c, rfl, h1, h2, h3⟩ := h
  unfold maxLen at h2
  go_enter Try.func95, Try.ntmps95
  go_wp2_with (at_make; refine mk0 _ rfl _ _ rfl shape.length rfl rfl (by omega) ?_)
  intro w0 hown0 hb0
  go_wp2
  go_loopw [10] (fun i wr => ∃ (k : Nat) (ys : List Int), k ≤ shape.length ∧ i = .int .i64 k ∧ ys.length = shape.length ∧ Hid (ys.take k = (rowS shape).take k) ∧
      Own wr w.heap.size (.slice (some ⟨w.heap.size, 0, none⟩) shape.length shape.length) ys ∧ Below w.heap.size w wr) (fun i _ => shape.length - (intOf i).toNat)
  case atStart => exact ⟨0, _, Nat.zero_le _, rfl, by simp, hid (by simp), hown0, hb0⟩
  case round =>
    obtain ⟨k, ys, hk, rfl, hyl, hyt, hown, hb⟩ := hrel
    by_cases hlt : k < shape.length
    · obtain ⟨b, off, rfl, hltb, hc⟩ := h3 (by omega)
      have hyk : k < ys.length := by omega
      have hy := hown.cell k hyk
      have hf := hown.free k
      have HL := hid hyl
      have hkr : k < (rowS shape).length := by rw [rowS_length]; exact hlt
      have HG := hid (rowS_get shape k hlt)
      have HPW := hid (prodW_eq (xs := shape.drop (k + 1)) (by simp; omega) (fun x hx => HX.out x (List.mem_of_mem_drop hx)))
      have HO := hid (hown.put k (prodW (shape.drop (k + 1))))
      have HB := hid (hb.setCell (p := ⟨w.heap.size, k, none⟩) (Nat.le_refl _) (.int .i64 (prodW (shape.drop (k + 1)))))
      have HT := hid (take_set_self ys (rowS shape) k (prodW (shape.drop (k + 1))) hyk hyt.out (by rw [take_snocI _ k hkr, HG.out, HPW.out.1]))
      have hI := (h0.ext hb)
      clear hc h3 hown hyl
      by_cases hcap : c = k + 1
      · subst hcap
        have hJ := Ints.dropAll (k := k + 1) hI rfl
        rw [show shape.length - (k + 1) = 0 by omega] at hJ
        go_wp2_with fail
        refine (countOf_any _ (shape.drop (k + 1)) _ hJ).mono ?_
        rintro e w' ⟨rfl, rfl⟩
        go_wp2
        go_roundw
        case rel => exact ⟨k + 1, _, by omega, by go_num, by rw [List.length_set]; exact HL.out, HT, HO.out, HB.out⟩
        case measure => simp [intOf]; omega
      · go_wp2_with fail
        refine (countOf_any _ (shape.drop (k + 1)) _ ?_).mono ?_
        rotate_left
        rintro e w' ⟨rfl, rfl⟩
        go_wp2
        go_roundw
        case rel => exact ⟨k + 1, _, by omega, by go_num, by rw [List.length_set]; exact HL.out, HT, HO.out, HB.out⟩
        case measure => simp [intOf]; omega
        exact hI.drop (k + 1) (by omega)
    · have e : k = shape.length := by omega
      have HE := hid (show ys = rowS shape by have := hyt.out; rwa [e, List.take_of_length_le (by omega), List.take_of_length_le (by rw [rowS_length]; omega)] at this)
      clear e hyl
      go_wp2
      go_ret
      exact ⟨_, rfl, by rw [← HE.out]; exact hown, hb⟩

end Go.Proofs.Ytldblcolnjkcaaa

/-! ## V4 -/
namespace Go.Proofs.Ytldblcolnjkcaaa
open Go.RowKit

set_option maxRecDepth 100000 in
set_option maxHeartbeats 800000 in
theorem rank_any (v iv : Value) (shape index : List Int) (w : World) (h : Ints w v shape) (hi : Ints w iv index) (hlen : shape.length = index.length) :
    Calls Try.prog 94 #[v, iv] w fun e w' => e = .returned (.int .i64 (rankW shape index)) ∧ Below w.heap.size w w' := by
  obtain ⟨A, c, rfl, h1, h2, h3⟩ := h
  obtain ⟨A', c', rfl, h1', h2', h3'⟩ := hi
  unfold maxLen at h2 h2'
  have HL := hid hlen
  have hle : shape.length ≤ index.length := by omega
  clear hlen
  go_enter Try.func94, Try.ntmps94
  go_wp2
  go_loopw [5, 6] (fun n i wr => ∃ k : Nat, k ≤ shape.length ∧ i = .int .i64 k ∧ n = .int .i64 (rankW (shape.take k) index) ∧ Below w.heap.size w wr) (fun _ i _ => shape.length - (intOf i).toNat)
  case atStart => exact ⟨0, Nat.zero_le _, rfl, rfl, Below.refl _ _⟩
  case round =>
    obtain ⟨k, hk, rfl, rfl, hb⟩ := hrel
    by_cases hlt : k < shape.length
    · obtain ⟨b, off, rfl, hblt, hc⟩ := h3 (by omega)
      obtain ⟨b', off', rfl, hblt', hc'⟩ := h3' (by omega)
      have hk2 : k < index.length := by omega
      have hx := (hb.cell (p := ⟨b, off + k, none⟩) hblt).trans (hc k shape[k] (by simp [hlt]))
      have hx' := (hb.cell (p := ⟨b', off' + k, none⟩) hblt').trans (hc' k index[k] (by simp [hk2]))
      have HS := hid (rankW_snoc shape index k hlt hk2)
      have hlti : (k : Int) < (shape.length : Int) := by omega
      have hlti2 : (k : Int) < (index.length : Int) := by omega
      have hk0 : (0 : Int) ≤ (k : Int) := by omega
      clear hc h3 hc' h3'
      go_wp2
      go_quiet (fail)
      go_wp2
      go_roundw
      case rel => exact ⟨k + 1, by omega, by go_num, by rw [HS.out], hb.trans ((below_drewN wr _).mono hb.size)⟩
      case measure => simp [intOf]; omega
    · go_wp2
      go_ret
      obtain rfl : k = shape.length := by omega
      exact ⟨by simp, hb⟩

end Go.Proofs.Ytldblcolnjkcaaa

/-! ## IE -/
namespace Go.Proofs.Ytldblcolnjkcaaa
open Go.RowKit

theorem Ints.elem {W : World} {A : Option Addr} {c n : Nat} {xs : List Int} (h : Ints W (.slice A n c) xs) (k : Nat) (hk : k < xs.length) :
    ∃ b off, A = some ⟨b, off, none⟩ ∧ W.cell? ⟨b, off + k, none⟩ = some (.int .i64 xs[k]) := by
  obtain ⟨A', c', e, -, -, h3⟩ := h
  simp only [Value.slice.injEq] at e
  obtain ⟨rfl, rfl, rfl⟩ := e
  obtain ⟨b, off, e, hb, hc⟩ := h3 (by omega)
  exact ⟨b, off, e, hc k _ (by simp [hk])⟩

end Go.Proofs.Ytldblcolnjkcaaa

/-! ## RK1 -/
namespace Go.Proofs.Ytldblcolnjkcaaa
open Go.RowKit

/-- The rank of an index, or -1. -/
def rankOfL (s i : List Int) : Int := if isShapeL s && isIndexL s i then rankW s i else -1
theorem rankOf_no {s i : List Int} (h : (isShapeL s && isIndexL s i) = false) : rankOfL s i = -1 := by simp [rankOfL, h]
theorem index_len {s i : List Int} (h : isIndexL s i = true) : i.length = s.length := by
  simp only [isIndexL, Bool.and_eq_true, decide_eq_true_eq] at h; exact h.1
theorem index_box {s i : List Int} (h : isIndexL s i = true) : InBox i s := by
  simp only [isIndexL, Bool.and_eq_true, decide_eq_true_eq, List.all_eq_true, inR_iff] at h
  refine box_iff.2 ⟨h.1, fun k h1 h2 => ?_⟩
  have hk : k < (s.zip i).length := by simp; omega
  have := h.2 (s.zip i)[k] (List.getElem_mem hk)
  simp only [List.getElem_zip] at this
  omega

set_option maxRecDepth 100000 in
set_option maxHeartbeats 6400000 in
theorem sRankOf_any (v iv : Value) (s i : List Int) (w : World) (h : Ints w v s) (hi : Ints w iv i) :
    Calls Try.prog 17 #[v, iv] w fun e w' => e = .returned (.int .i64 (rankOfL s i)) ∧ Below w.heap.size w w' := by
  cases hs : isShapeL s
  · have HQ := hid (rankOf_no (s := s) (i := i) (by simp [hs]))
    have HS := hid hs
    clear hs
    go_enter Try.func17, Try.ntmps17
    go_wp2_with fail
    refine (validShape_any _ s _ h).mono ?_; rintro e w' ⟨rfl, rfl⟩
    rw [HS.out]
    go_wp2
    go_ret
    rw [HQ.out]
    exact ⟨rfl, Below.refl _ _⟩
  · have HS := hid hs
    have hx := (shape_ext hs).2.1
    cases hx2 : isIndexL s i
    · have HQ := hid (rankOf_no (s := s) (i := i) (by simp [hx2]))
      have HX := hid hx2
      clear hs hx2
      go_enter Try.func17, Try.ntmps17
      go_wp2_with fail
      refine (validShape_any _ s _ h).mono ?_; rintro e w' ⟨rfl, rfl⟩
      rw [HS.out]
      go_wp2_with fail
      refine (validIndex_any _ _ s i _ h hi hx).mono ?_; rintro e w1 ⟨rfl, hb⟩
      rw [HX.out]
      go_wp2
      go_ret
      rw [HQ.out]
      exact ⟨rfl, hb⟩
    · have HQ := hid (show rankOfL s i = rankW s i by simp [rankOfL, hs, hx2])
      have HX := hid hx2
      have HL := hid (index_len hx2)
      clear hs hx2
      go_enter Try.func17, Try.ntmps17
      go_wp2_with fail
      refine (validShape_any _ s _ h).mono ?_; rintro e w' ⟨rfl, rfl⟩
      rw [HS.out]
      go_wp2_with fail
      refine (validIndex_any _ _ s i _ h hi hx).mono ?_; rintro e w1 ⟨rfl, hb⟩
      rw [HX.out]
      go_wp2_with fail
      refine (rank_any _ _ s i _ (h.nx hb) (hi.nx hb) HL.out.symm).mono ?_; rintro e w2 ⟨rfl, hb2⟩
      go_wp2
      go_ret
      rw [HQ.out]
      exact ⟨rfl, hb.nx hb2 hb.size⟩

set_option maxRecDepth 100000 in
set_option maxHeartbeats 6400000 in
theorem RankOf_any (v iv : Value) (s i : List Int) (w : World) (h : Ints w v s) (hi : Ints w iv i) :
    Calls Try.prog 16 #[v, iv] w fun e w' => e = .returned (.int .i64 (rankOfL s i)) ∧ w = w' := by
  cases hs : isShapeL s
  · have HQ := hid (rankOf_no (s := s) (i := i) (by simp [hs]))
    have HS := hid hs
    clear hs
    go_enter Try.func16, Try.ntmps16
    go_wp2_with fail
    refine (isShape_any _ s _ h).mono ?_; rintro e w' ⟨rfl, rfl⟩
    rw [HS.out]
    go_wp2
    go_ret
    rw [HQ.out]
    exact ⟨rfl, rfl⟩
  · have HS := hid hs
    have hx := (shape_ext hs).2.1
    cases hx2 : isIndexL s i
    · have HQ := hid (rankOf_no (s := s) (i := i) (by simp [hx2]))
      have HX := hid hx2
      clear hs hx2
      go_enter Try.func16, Try.ntmps16
      go_wp2_with fail
      refine (isShape_any _ s _ h).mono ?_; rintro e w' ⟨rfl, rfl⟩
      rw [HS.out]
      go_wp2_with fail
      refine (isIndex_any _ _ s i _ h hi hx).mono ?_; rintro e w' ⟨rfl, rfl⟩
      rw [HX.out]
      go_wp2
      go_ret
      rw [HQ.out]
      exact ⟨rfl, rfl⟩
    · have HQ := hid (show rankOfL s i = rankW s i by simp [rankOfL, hs, hx2])
      have HX := hid hx2
      have hil := index_len hx2
      clear hs hx2
      have hV0 := h
      have hI0 := hi
      obtain ⟨A, c, rfl, hk, hm, -⟩ := h
      obtain ⟨A', c', rfl, hk', hm', -⟩ := hi
      unfold maxLen at hm hm'
      have HL := hid hil
      have hsl : (s.length : Int) ≤ 1000000000 := by have := (shape_ext HS.out).1; omega
      rw [hil] at hk' hI0 ⊢
      clear hil
      go_enter Try.func16, Try.ntmps16
      go_wp2_with fail
      refine (isShape_any _ s _ hV0).mono ?_; rintro e w' ⟨rfl, rfl⟩
      rw [HS.out]
      go_wp2_with fail
      refine (isIndex_any _ _ s i _ hV0 hI0 hx).mono ?_; rintro e w' ⟨rfl, rfl⟩
      rw [HX.out]
      clear hx
      go_wp2_with fail
      go_loopg [5, 6, 7, 19] s.length (fun m n z6 z7 z wr => ∃ k : Nat, k ≤ s.length ∧ m = s.length - k ∧ z = .int .i64 k ∧ n = .int .i64 (rankW (s.take k) i) ∧ wr = w)
      case atStart => exact ⟨0, Nat.zero_le _, rfl, rfl, by simp [rankW], rfl⟩
      case round =>
        obtain ⟨k, hk1, hm1, rfl, rfl, rfl⟩ := hrel
        have HM := hid hm1
        clear hm1
        by_cases hlt : k < s.length
        · have hki : (k : Int) < (s.length : Int) := by omega
          have hlt2 : k < i.length := by rw [HL.out]; exact hlt
          obtain ⟨b, off, rfl, hx⟩ := hV0.elem k hlt
          obtain ⟨b1, off1, rfl, hy⟩ := hI0.elem k hlt2
          have HSN := hid (rankW_snoc s i k hlt hlt2)
          generalize s[k] = S at *
          generalize i[k] = I at *
          generalize rankW (s.take k) i = R at *
          go_wp2
          go_roundg (s.length - (k + 1))
          case measure => have := HM.out; omega
          case rel => exact ⟨k + 1, by omega, rfl, by go_num, by rw [HSN.out], rfl⟩
        · have hki : ¬ (k : Int) < (s.length : Int) := by omega
          have HE := hid (show rankW (s.take k) i = rankW s i by rw [List.take_of_length_le (by omega)])
          go_wp2
          go_ret
          rw [HQ.out, HE.out]
          exact ⟨rfl, rfl⟩

set_option maxRecDepth 100000 in
set_option maxHeartbeats 6400000 in
theorem RowStrides_any (v : Value) (s : List Int) (w : World) (h : Ints w v s) (hs : isShapeL s = true) :
    Calls Try.prog 18 #[v] w (RetOwn w (rowS s)) := by
  have HS := hid hs
  go_enter Try.func18, Try.ntmps18
  go_wp2_with fail
  refine (isShape_any _ s _ h).mono ?_; rintro e w' ⟨rfl, rfl⟩
  rw [HS.out]
  go_wp2_with fail
  refine (irowStrides_any _ s _ h HS.out).mono ?_; rintro e w1 ⟨r, rfl, ho, hb⟩
  go_wp2
  go_ret
  exact ⟨r, rfl, ho, hb⟩

/-- How many indices a shape has, or -1. -/
def countL (s : List Int) : Int := if isShapeL s then prodI s else -1
set_option maxRecDepth 100000 in
set_option maxHeartbeats 6400000 in
theorem CountOf_any (v : Value) (s : List Int) (w : World) (h : Ints w v s) :
    Calls Try.prog 21 #[v] w fun e w' => e = .returned (.int .i64 (countL s)) ∧ w = w' := by
  cases hs : isShapeL s
  · have HS := hid hs
    have HQ := hid (show countL s = -1 by simp [countL, hs])
    clear hs
    go_enter Try.func21, Try.ntmps21
    go_wp2_with fail
    refine (isShape_any _ s _ h).mono ?_; rintro e w' ⟨rfl, rfl⟩
    rw [HS.out]
    go_wp2
    go_ret
    rw [HQ.out]
    exact ⟨rfl, rfl⟩
  · have HS := hid hs
    have HQ := hid (show countL s = prodW s by simp [countL, hs, (shape_prod hs).1])
    clear hs
    go_enter Try.func21, Try.ntmps21
    go_wp2_with fail
    refine (isShape_any _ s _ h).mono ?_; rintro e w' ⟨rfl, rfl⟩
    rw [HS.out]
    go_wp2_with fail
    refine (countOf_any _ s _ h).mono ?_; rintro e w' ⟨rfl, rfl⟩
    go_wp2
    go_ret
    rw [HQ.out]
    exact ⟨rfl, rfl⟩

set_option maxRecDepth 100000 in
set_option maxHeartbeats 6400000 in
theorem IndexAt_any (v : Value) (s : List Int) (r : Int) (w : World) (h : Ints w v s) (hs : isShapeL s = true) (hr : 0 ≤ r ∧ r < prodI s) :
    Calls Try.prog 20 #[v, .int .i64 r] w (RetOwn w (unr s r)) := by
  have HS := hid hs
  have hp := shape_prod hs
  have HP := hid hp.1
  have hr0 : ¬ r < 0 := by omega
  have hr1 : ¬ prodI s ≤ r := by omega
  have hse := shape_ext hs
  have HPOS := hid (fun x (hx : x ∈ s) => And.intro (prodI_pos (fun y hy => (hse.2.1 y hy).1) (by omega) x hx) (hse.2.1 x hx).2)
  have hl := hse.1
  have hr2 : r ≤ 100 := by omega
  clear hs hp hse
  go_enter Try.func20, Try.ntmps20
  go_wp2_with fail
  refine (isShape_any _ s _ h).mono ?_; rintro e w' ⟨rfl, rfl⟩
  rw [HS.out]
  go_wp2_with fail
  refine (countOf_any _ s _ h).mono ?_; rintro e w' ⟨rfl, rfl⟩
  rw [HP.out]
  go_wp2_with fail
  refine (indexAt_any _ s r _ h HPOS.out hl hr.1 hr2).mono ?_; rintro e w1 ⟨u, rfl, ho, hb⟩
  go_wp2
  go_ret
  exact ⟨u, rfl, ho, hb⟩

end Go.Proofs.Ytldblcolnjkcaaa

/-! ## SDp -/
namespace Go.Proofs.Ytldblcolnjkcaaa
open Go.RowKit

def sdS (T : TL) (d : Nat) : List Int := T.shape.eraseIdx d
/-- The index, behind the sum, of the value with the rank k. -/
def sdI (T : TL) (d : Nat) (k : Nat) : List Int := (unr T.shape k).eraseIdx d
def sdAt (T : TL) (d : Nat) (k : Nat) : Nat := (rankW (sdS T d) (sdI T d k)).toNat
def sdV (T : TL) (d : Nat) : Nat → List Int
  | 0 => List.replicate (prodW (sdS T d)).toNat 0
  | k + 1 => (sdV T d k).set (sdAt T d k) (wrap64 ((sdV T d k).getD (sdAt T d k) 0 + T.values.getD k 0))
def sdT (T : TL) (d : Nat) : TL := ⟨sdS T d, sdV T d T.values.length⟩
def okSD (T : TL) (d : Int) : Bool := isTensorL T && inR d 0 ((T.shape.length : Int) - 1) && isShapeL (sdS T d.toNat)
def okSum (T : TL) (d : Int) : Bool := okSD T d && isTensorL (sdT T d.toNat)
def sumDL (T : TL) (d : Int) : TL := if okSum T d then sdT T d.toNat else ⟨[], []⟩

theorem sumD_no {T : TL} {d : Int} (h : okSum T d = false) : sumDL T d = ⟨[], []⟩ := by simp [sumDL, h]
theorem sumD_yes {T : TL} {d : Int} (h : okSum T d = true) : sumDL T d = sdT T d.toNat := by simp [sumDL, h]
theorem sdV_len (T : TL) (d k : Nat) : (sdV T d k).length = (prodW (sdS T d)).toNat := by
  induction k with
  | zero => simp [sdV]
  | succ k ih => rw [sdV, List.length_set]; exact ih
theorem sumDL_len (T : TL) (d : Int) : (sumDL T d).shape.length ≤ 60 ∧ (sumDL T d).values.length ≤ 60 := by
  cases h : okSum T d
  · rw [sumD_no h]; simp
  · rw [sumD_yes h]
    simp only [okSum, Bool.and_eq_true] at h
    have hT := isTensorL_and h.2
    have hp := shape_prod hT.1
    have hv : ((sdT T d.toNat).values.length : Int) = prodW (sdT T d.toNat).shape := hT.2.1
    exact ⟨Nat.le_trans (shape_ext hT.1).1 (by omega), by rw [hp.1] at hv; omega⟩
section
variable {T : TL} {d : Nat}
theorem erase_box {i s : List Int} (h : InBox i s) : InBox (i.eraseIdx d) (s.eraseIdx d) := by
  obtain ⟨h1, h2⟩ := box_iff.1 h
  refine box_iff.2 ⟨by rw [List.length_eraseIdx, List.length_eraseIdx, h1], fun k k1 k2 => ?_⟩
  rw [List.getElem_eraseIdx, List.getElem_eraseIdx]
  split
  · exact h2 k _ _
  · exact h2 (k + 1) _ _
theorem rank_box {s i : List Int} (hs : isShapeL s = true) (hb : InBox i s) : rankW s i = dotI i (rowS s) ∧ 0 ≤ rankW s i ∧ rankW s i < prodI s := by
  obtain ⟨s1, s2, s3⟩ := shape_ext hs
  have e : rankW s i = dotI i (rowS s) := by
    rw [rankW_eq s1 s2 (box_le hb fun x hx => (s2 x hx).2), rankF_dot _ _ _ (box_length hb)]
    simp
  have := dot_row hb
  exact ⟨e, by rw [e]; exact this.1, by rw [e]; exact this.2.1⟩
theorem unr_in (hT : isTensorL T = true) {k : Nat} (hk : k < T.values.length) : InBox (unr T.shape k) T.shape ∧ (∀ x ∈ T.shape, 1 ≤ x ∧ x ≤ 60) ∧ (k : Int) < prodI T.shape := by
  obtain ⟨hs, hv, -⟩ := isTensorL_and hT
  obtain ⟨s1, s2, s3⟩ := shape_ext hs
  have hp := shape_prod hs
  rw [hp.1] at hv
  have hpos := prodI_pos (fun x hx => (s2 x hx).1) (show 0 < prodI T.shape by omega)
  exact ⟨unr_box hpos k, fun x hx => ⟨hpos x hx, (s2 x hx).2⟩, by omega⟩
theorem rank_unr (hT : isTensorL T = true) {k : Nat} (hk : k < T.values.length) : rankW T.shape (unr T.shape k) = k := by
  obtain ⟨hb, hpos, hk2⟩ := unr_in hT hk
  rw [(rank_box (isTensorL_and hT).1 hb).1]
  exact dot_unr (fun x hx => (hpos x hx).1) k (by omega) hk2
theorem sdAt_in (hT : isTensorL T = true) (hs : isShapeL (sdS T d) = true) {k : Nat} (hk : k < T.values.length) : rankW (sdS T d) (sdI T d k) = sdAt T d k ∧ sdAt T d k < (prodW (sdS T d)).toNat ∧ isIndexL (sdS T d) (sdI T d k) = true := by
  obtain ⟨hb, -⟩ := unr_in hT hk
  have hb' : InBox (sdI T d k) (sdS T d) := erase_box hb
  have h := rank_box hs hb'
  have hp := shape_prod hs
  refine ⟨by unfold sdAt; omega, by unfold sdAt; rw [hp.1]; omega, ?_⟩
  obtain ⟨h1, h2⟩ := box_iff.1 hb'
  simp only [isIndexL, Bool.and_eq_true, decide_eq_true_eq, List.all_eq_true, inR_iff]
  refine ⟨h1, fun p hp => ?_⟩
  obtain ⟨k, hk, rfl⟩ := List.getElem_of_mem hp
  simp only [List.length_zip] at hk
  have := h2 k (by omega) (by omega)
  simp only [List.getElem_zip]
  omega
theorem rankOf_at (hT : isTensorL T = true) (hs : isShapeL (sdS T d) = true) {k : Nat} (hk : k < T.values.length) : rankOfL (sdS T d) (sdI T d k) = sdAt T d k := by
  obtain ⟨h1, -, h3⟩ := sdAt_in hT hs hk
  rw [rankOfL, hs, h3]
  exact h1
end

/-! The extents of one tensor whose labels are its dimensions. -/
def extS (s : List Int) : List Int := s ++ List.replicate (5 - s.length) (-1)
theorem ext_to {s : List Int} (hl : s.length ≤ 4) : ∀ d, d ≤ s.length → extD ext0 (upI s.length) s d = some (s.take d ++ List.replicate (5 - d) (-1))
  | 0, _ => by simp [extD, ext0]
  | d + 1, h => by
    rw [extD, ext_to hl d (by omega)]
    have hd : d < s.length := by omega
    have h1 : (upI s.length).getD d 0 = (d : Int) := by simp [upI, hd]
    have h2 : (s.take d ++ List.replicate (5 - d) (-1 : Int)).getD d 0 = -1 := by
      rw [List.getD_eq_getElem?_getD, List.getElem?_append_right (by simp; omega)]
      simp [show min d s.length = d by omega, show 0 < 5 - d by omega]
    have hs : s.getD d 0 = s[d] := by simp [hd]
    simp only [Option.bind_some, h1, Int.toNat_natCast, h2]
    rw [if_neg (by omega), hs]
    congr 1
    rw [List.set_append_right _ _ (by simp; omega)]
    simp only [List.length_take, show min d s.length = d by omega, Nat.sub_self]
    rw [show 5 - d = (4 - d) + 1 by omega, List.replicate_succ, List.set_cons_zero, show 5 - (d + 1) = 4 - d by omega]
    rw [take_snocI _ d hd, List.append_assoc]
    rfl
theorem ext_one {T : TL} (hT : isTensorL T = true) : extentsL [T] [upI T.shape.length] = extS T.shape ∧ okExtents [T] [upI T.shape.length] = true := by
  have hs := shape_ext (isTensorL_and hT).1
  have hok : okTs [T] [upI T.shape.length] = true := by simp [okTs, hT]
  have hf : fitT T (upI T.shape.length) = true := by
    simp only [fitT, Bool.and_eq_true, decide_eq_true_eq, List.all_eq_true]
    refine ⟨upI_length _, fun x hx => ?_⟩
    simp only [upI, List.mem_map, List.mem_range] at hx
    obtain ⟨i, hi, rfl⟩ := hx
    exact inR_yes (by omega) (by omega)
  have h : extentsR [T] [upI T.shape.length] = some (extS T.shape) := by
    rw [extentsR, if_pos hok]
    show (some ext0).bind (fun o => extT o T (upI T.shape.length)) = _
    rw [Option.bind_some, extT, if_pos hf, upI_length, ext_to hs.1 _ (Nat.le_refl _)]
    simp [extS]
  simp [extentsL, okExtents, h]
/-- All extents, those not given being one. -/
def spX (xs : List Int) : List Int := xs.map fun e => if e < 0 then 1 else e
theorem spX_ext {s : List Int} (hs : isShapeL s = true) : spX (extS s) = s ++ List.replicate (5 - s.length) 1 := by
  have h2 := (shape_ext hs).2.1
  simp only [spX, extS, List.map_append, List.map_replicate]
  congr 1
  refine (List.map_congr_left fun x hx => ?_).trans (List.map_id _)
  rw [if_neg (by have := h2 x hx; omega)]
  rfl
theorem prodI_ones (n : Nat) : prodI (List.replicate n 1) = 1 := by
  induction n with
  | zero => rfl
  | succ n ih => rw [List.replicate_succ]; simp only [prodI, ih]; rfl
theorem unr_ones (s : List Int) (n : Nat) (k : Int) : (unr (s ++ List.replicate n 1) k).take s.length = unr s k := by
  apply List.ext_getElem?
  intro j
  by_cases hj : j < s.length
  · rw [List.getElem?_take, if_pos hj, unr_get _ _ _ (by simp; omega), unr_get _ _ _ hj, List.drop_append_of_le_length (by omega), prodI_append, prodI_ones, Int.mul_one, List.getElem_append_left hj]
  · rw [List.getElem?_eq_none (by simp; omega), List.getElem?_eq_none (by rw [unr_length]; omega)]
theorem taken_up {xs : List Int} {n : Nat} (h : n ≤ xs.length) : takenL xs (upI n) = xs.take n := by
  apply List.ext_getElem?
  intro j
  simp only [takenL, upI, List.map_map, List.getElem?_map, List.getElem?_take]
  by_cases hj : j < n
  · have hx : j < xs.length := by omega
    simp [hj, hx]
  · simp [hj]
theorem taken_erase {xs : List Int} {n d : Nat} (h : n ≤ xs.length) : takenL xs ((upI n).eraseIdx d) = (xs.take n).eraseIdx d := by
  rw [← taken_up h]
  apply List.ext_getElem?
  intro j
  simp only [takenL, List.getElem?_map, List.getElem?_eraseIdx]
  split <;> rfl
theorem extS_len {s : List Int} (h : s.length ≤ 4) : (extS s).length = 5 := by simp [extS]; omega
theorem extS_take (s : List Int) : (extS s).take s.length = s := by simp [extS]

end Go.Proofs.Ytldblcolnjkcaaa

/-! ## V5 -/
namespace Go.Proofs.Ytldblcolnjkcaaa
open Go.RowKit

theorem Own.puts {w : World} {B g cap n : Nat} {xs : List Int} (h : Own w B (.slice (some ⟨g, 0, none⟩) n cap) xs) (ys : List Int) (o : Nat) (hle : o + ys.length ≤ xs.length) :
    Own (w.setCells g o (ys.map (Value.int .i64))) B (.slice (some ⟨g, 0, none⟩) n cap) (xs.take o ++ ys ++ xs.drop (o + ys.length)) ∧ w.grownBy (w.setCells g o (ys.map (Value.int .i64))) (some g) := by
  induction ys generalizing w xs o with
  | nil => exact ⟨by simpa [World.setCells] using h, by simpa [World.setCells] using World.grownBy.refl w _⟩
  | cons y ys ih =>
    have h1 := h.put o y
    have hl : (xs.set o y).length = xs.length := List.length_set
    simp only [List.length_cons] at hle
    have h2 := ih h1 (o + 1) (by rw [hl]; omega)
    refine ⟨?_, (grown_set w ⟨g, o, none⟩ (.int .i64 y)).trans h2.2⟩
    have e : (xs.set o y).take (o + 1) ++ ys ++ (xs.set o y).drop (o + 1 + ys.length) = xs.take o ++ (y :: ys) ++ xs.drop (o + (y :: ys).length) := by
      have ho : o < xs.length := by omega
      rw [take_snocI (xs.set o y) o (by rw [hl]; exact ho)]
      simp only [List.getElem_set_self, List.append_assoc, List.singleton_append, List.length_cons]
      congr 1
      · apply List.ext_getElem?
        intro i
        by_cases hi : i < o
        · rw [List.getElem?_take, List.getElem?_take, if_pos hi, if_pos hi, List.getElem?_set_ne (by omega)]
        · rw [List.getElem?_take, List.getElem?_take, if_neg hi, if_neg hi]
      · rw [List.cons_append]
        congr 2
        rw [show o + 1 + ys.length = o + (ys.length + 1) by omega]
        apply List.ext_getElem?
        intro i
        rw [List.getElem?_drop, List.getElem?_drop, List.getElem?_set_ne (by omega)]
    rw [← e]
    exact h2.1
theorem Own.cut {w : World} {B g cap n : Nat} {xs : List Int} (h : Own w B (.slice (some ⟨g, 0, none⟩) n cap) xs) (k : Nat) (hk : k ≤ xs.length) : Own w B (.slice (some ⟨g, 0, none⟩) k cap) (xs.take k) := by
  obtain ⟨h1, h2⟩ := h
  have hl : (xs.take k).length = k := by rw [List.length_take]; omega
  refine ⟨by rw [hl]; simp; omega, .inr ?_⟩
  rcases h2 with ⟨e, h0⟩ | ⟨g', cap', cur, e, hg, hh, hn, hc, hs, ht⟩
  · cases e
  · simp only [Value.slice.injEq, Option.some.injEq, Addr.mk.injEq, and_true] at e
    obtain ⟨rfl, rfl, rfl⟩ := e
    refine ⟨g, cap, cur, by rw [hl], hg, hh, by omega, hc, hs, ?_⟩
    rw [hl, List.map_take, ← ht, List.take_take]
    simp
    omega
theorem eraseIdx_eq (xs : List Int) (d : Nat) : (xs.take d ++ xs.drop (d + 1)) = xs.eraseIdx d := (List.eraseIdx_eq_take_drop_succ xs d).symm
theorem zeroInt (w : World) : (zeroValue 3).run Try.prog w = .ok (.int .i64 0) w := by kernel_rfl

set_option maxRecDepth 100000 in
set_option maxHeartbeats 800000 in
theorem Delete_any (g cap d : Nat) (xs : List Int) (B : Nat) (w : World) (h : Own w B (.slice (some ⟨g, 0, none⟩) xs.length cap) xs) (hd : d < xs.length) :
    Calls Try.prog 149 #[.slice (some ⟨g, 0, none⟩) xs.length cap, .int .i64 d, .int .i64 ((d : Int) + 1)] w fun e w' =>
      e = .returned (.slice (some ⟨g, 0, none⟩) (xs.length - 1) cap) ∧ Own w' B (.slice (some ⟨g, 0, none⟩) (xs.length - 1) cap) (xs.eraseIdx d) ∧ w.grownBy w' (some g) := by
  obtain ⟨i0, hi, hz0, hz1, hz2⟩ := info_parts Try.infoInt
  obtain ⟨A', c', e', hk', hm', -⟩ := h.ints
  simp only [Value.slice.injEq, true_and] at e'
  obtain ⟨-, rfl⟩ := e'
  unfold maxLen at hm'
  have hdr := h.drew
  obtain ⟨A, hA, hsrc⟩ : ∃ A : Addr, (if cap = d + 1 then some (⟨g, 0, none⟩ : Addr) else some ⟨g, d + 1, none⟩) = some A ∧ Hid (∀ t u, ((xs.drop (d + 1)).map (Value.int .i64))[t]? = some u → w.drew.cell? (A.add t) = some u) := by
    by_cases hc : cap = d + 1
    · refine ⟨⟨g, 0, none⟩, by simp [hc], fun t u hu => ?_⟩
      have : (xs.drop (d + 1)).length = 0 := by rw [List.length_drop]; omega
      rw [List.length_eq_zero_iff.1 this] at hu
      simp at hu
    · refine ⟨⟨g, d + 1, none⟩, by simp [hc], fun t u hu => ?_⟩
      have ht : t < (xs.drop (d + 1)).length := by have := (List.getElem?_eq_some_iff.1 hu).1; simpa using this
      rw [List.length_drop] at ht
      rw [List.getElem?_map, List.getElem?_drop, List.getElem?_eq_getElem (by omega)] at hu
      simp at hu
      subst hu
      have e2 : (⟨g, d + 1, none⟩ : Addr).add t = ⟨g, d + 1 + t, none⟩ := by unfold Addr.add; split <;> simp_all
      rw [e2]
      exact hdr.cell (d + 1 + t) (by omega)
  have hp := hid (hdr.puts (xs.drop (d + 1)) d (by rw [List.length_drop]; omega))
  have s1 : Hid (((xs.drop (d + 1)).map (Value.int .i64)).length = (xs.length - (d + 1)) * 1) := by show _ = _; simp
  have s2 : Hid (∀ u ∈ (xs.drop (d + 1)).map (Value.int .i64), u.oneCell' = true) := by intro u hu; obtain ⟨x, _, rfl⟩ := List.mem_map.1 hu; rfl
  have s3 : Hid (∀ t, t < ((xs.drop (d + 1)).map (Value.int .i64)).length → (w.drew.cell? ⟨g, 0 + d * 1 + t, none⟩).isSome = true ∧ w.drew.frozen? ⟨g, 0 + d * 1 + t, none⟩ = false) := by
    intro t ht
    simp at ht
    rw [Nat.mul_one, Nat.zero_add]
    exact ⟨by rw [hdr.cell (d + t) (by omega)]; rfl, hdr.free _⟩
  obtain ⟨W1, hW1⟩ : ∃ W1, W1 = w.drew.setCells g (0 + d * 1) ((xs.drop (d + 1)).map (Value.int .i64)) := ⟨_, rfl⟩
  have hW : Hid (W1 = w.drew.setCells g (0 + d * 1) ((xs.drop (d + 1)).map (Value.int .i64))) := hW1
  have hp1 : Hid (Own W1 B (.slice (some ⟨g, 0, none⟩) xs.length cap) (xs.take d ++ xs.drop (d + 1) ++ xs.drop (d + (xs.drop (d + 1)).length)) ∧ w.drew.grownBy W1 (some g)) := by
    show _ ∧ _
    rw [hW1, Nat.zero_add, Nat.mul_one]
    exact hp.out
  have hlen : Hid ((xs.take d ++ xs.drop (d + 1) ++ xs.drop (d + (xs.drop (d + 1)).length)).length = xs.length) := by
    show _ = _
    simp; omega
  have hcl : ∀ ty, (Builtin.clear_ #[23] ty #[.slice (some ⟨g, d + (xs.length - (d + 1)), none⟩) (xs.length - (d + (xs.length - (d + 1)))) (cap - (d + (xs.length - (d + 1))))]).run Try.prog W1 = .ok (.tuple #[]) (W1.setCells g (d + (xs.length - (d + 1))) (List.replicate (xs.length - (d + (xs.length - (d + 1)))) (.int .i64 0))) :=
    fun ty => Lib.run_clear_slice W1 _ _ ty _ Try.underlying23 zeroInt rfl rfl g (d + (xs.length - (d + 1))) _ _ (by omega) (fun t ht => by rw [hp1.out.1.cell _ (by rw [hlen.out]; omega)]; rfl) (fun t ht => hp1.out.1.free _)
  have hne : ((d : Int) == (d : Int) + 1) = false := by simp; omega
  have hic : d ≤ cap := by omega
  have hb1 : (0 : Int) ≤ (d : Int) + 1 := by omega
  have hb2 : (d : Int) + 1 ≤ (xs.length : Int) := by omega
  have hjc : d + 1 ≤ cap := by omega
  have hnn : d + (xs.length - (d + 1)) = xs.length - 1 := by omega
  have HNN := hid hnn
  clear hW1 hp hdr hnn
  clear h
  go_enter Try.func149, Try.ntmps149
  go_wp2_with fail
  go_region_law (refine step_append_room rfl (.tmp 22) (.tmp 25) 23 rfl 3 i0 1 Try.underlying23 hi hz1 g 0 d cap (by simp [Act.eval, Act.put]) A (xs.length - (d + 1)) (cap - (d + 1)) _ (by simp [Act.eval, Act.put]) s1.out hsrc.out s2.out (by omega) s3.out ?_; rw [← hW.out])
  go_wp2
  go_ret
  obtain ⟨o1, g1⟩ := hp1.out
  have hl1 := hlen.out
  have o2 := o1.puts (List.replicate (xs.length - (d + (xs.length - (d + 1)))) 0) (d + (xs.length - (d + 1))) (by rw [hl1, List.length_replicate]; omega)
  rw [List.map_replicate] at o2
  have o3 := o2.1.cut (xs.length - 1) (by simp only [List.length_append, List.length_take, List.length_drop, List.length_replicate]; omega)
  have e3 : (((xs.take d ++ xs.drop (d + 1) ++ xs.drop (d + (xs.drop (d + 1)).length)).take (d + (xs.length - (d + 1))) ++ List.replicate (xs.length - (d + (xs.length - (d + 1)))) 0 ++
      (xs.take d ++ xs.drop (d + 1) ++ xs.drop (d + (xs.drop (d + 1)).length)).drop (d + (xs.length - (d + 1)) + (List.replicate (xs.length - (d + (xs.length - (d + 1)))) (0 : Int)).length)).take (xs.length - 1)) = xs.eraseIdx d := by
    have hl : (xs.take d ++ xs.drop (d + 1)).length = xs.length - 1 := by simp; omega
    rw [HNN.out, List.append_assoc, List.take_append_of_le_length (by rw [List.length_take, hl1]; omega), List.take_take, Nat.min_self, List.take_append_of_le_length (by omega), ← hl, List.take_length, eraseIdx_eq]
  rw [e3] at o3
  have e1 : Ending.returned (Value.slice (some ⟨g, 0, none⟩) (d + (xs.length - (d + 1))) cap) = Ending.returned (.slice (some ⟨g, 0, none⟩) (xs.length - 1) cap) := by rw [HNN.out]
  have g0 : w.grownBy w.drew (some g) := ⟨rfl, rfl, rfl, Nat.le_refl _, fun _ _ _ => rfl⟩
  exact ⟨e1, o3, (g0.trans g1).trans o2.2⟩

theorem Delete_at (g cap d n : Nat) (i j : Int) (xs : List Int) (B : Nat) (w : World) (h : Own w B (.slice (some ⟨g, 0, none⟩) n cap) xs) (hi : i = d) (hj : j = d + 1) (hd : d < xs.length) :
    Calls Try.prog 149 #[.slice (some ⟨g, 0, none⟩) n cap, .int .i64 i, .int .i64 j] w fun e w' =>
      e = .returned (.slice (some ⟨g, 0, none⟩) (n - 1) cap) ∧ Own w' B (.slice (some ⟨g, 0, none⟩) (n - 1) cap) (xs.eraseIdx d) ∧ w.grownBy w' (some g) := by
  obtain ⟨A, c, e⟩ := h.form
  simp only [Value.slice.injEq] at e
  obtain ⟨-, rfl, -⟩ := e
  subst hi hj
  exact Delete_any g cap d xs B w h hd

end Go.Proofs.Ytldblcolnjkcaaa

/-! ## V6 -/
namespace Go.Proofs.Ytldblcolnjkcaaa
open Go.RowKit

set_option maxRecDepth 100000 in
set_option maxHeartbeats 800000 in
theorem without_any (v : Value) (xs : List Int) (d : Nat) (w : World) (h : Ints w v xs) (hd : d < xs.length) (hl : xs.length ≤ 1000000) :
    Calls Try.prog 148 #[v, .int .i64 d] w (RetOwn w (xs.eraseIdx d)) := by
  have h0 := h
  obtain ⟨A, c, rfl, hk, hm, hr⟩ := h
  unfold maxLen at hm
  obtain ⟨b, off, rfl, hb0, hc⟩ := hr (by omega)
  clear hc hr
  have hIt := h0.take d (by omega)
  have hlt : (xs.take d).length ≤ 1000000000000 := by rw [List.length_take]; omega
  have HLT := hid (show (xs.take d).length = d by rw [List.length_take]; omega)
  have HE := hid (eraseIdx_eq xs d)
  have hb1 : (0 : Int) ≤ (d : Int) + 1 := by omega
  have hb2 : (d : Int) + 1 ≤ (xs.length : Int) := by omega
  have hb3 : (d : Int) ≤ (xs.length : Int) := by omega
  have hb4 : (d : Int) ≤ (c : Int) := by omega
  have hwr : IntKind.i64.wrap ((d : Int) + 1) = (d : Int) + 1 := IntWalk.i64_in _ (by omega)
  have htn : ((d : Int) + 1).toNat = d + 1 := by omega
  have hz2 : (xs.take d).length + (xs.drop (d + 1)).length ≤ 1000000000000 := by have := HLT.out; rw [List.length_drop]; omega
  have hdc : d ≤ c := by omega
  have hc0 : ¬ c = 0 := by omega
  have hdl : d ≤ xs.length := by omega
  have hlit : Own (w.alloc (.cells #[] 3)).drew w.heap.size (.slice (some ⟨w.heap.size, 0, none⟩) 0 0) [] := (Own.litAt (Below.refl w.heap.size w)).drew
  have hBl : Below w.heap.size w (w.alloc (.cells #[] 3)).drew := (below_alloc w _).drew
  have hsz : w.heap.size ≤ (w.alloc (.cells #[] 3)).drew.heap.size := hBl.size
  have hItw := (hIt.ext hBl)
  have hbd : (d : Int) ≤ (d : Int) + 1 := by omega
  by_cases hcap : c = d + 1
  · have hID := Ints.dropAll (k := d + 1) h0 hcap
    subst hcap
    rw [show xs.length - (d + 1) = 0 by omega] at hID
    go_enter Try.func148, Try.ntmps148
    go_wp2_with fail
    go_region_held3 (fun _ => True)
      (first | exact trivial)
      (first
        | (refine step_applit _ (by rfl) _ _ (by rfl) _ hlit (by rfl) _ _ _ (xs.take d) hItw (by rfl) hlt ?_; intro A1 c1 w1 ho1 sg1 hb1'; have hB1 := hBl.trans (hb1'.mono hsz); have hs1 := hB1.size)
        | (refine stepI _ (by rfl) _ _ (by rfl) _ _ (xs.take d) (by rfl) ho1 _ _ _ (xs.drop (d + 1)) (by rfl) (hID.ext hB1) hz2 hs1 ?_; intro v2 w2 ho2 hg2 hat2))
    have hB2 := hB1.trans (ho1.under hg2 hs1)
    go_wp2
    go_ret
    exact ⟨_, rfl, by rw [← HE.out]; exact ho2, hB2⟩
  · have hID := h0.drop (d + 1) (by omega)
    have hb5 : (d : Int) + 1 ≤ (c : Int) := by omega
    go_enter Try.func148, Try.ntmps148
    go_wp2_with fail
    go_region_held3 (fun _ => True)
      (first | exact trivial)
      (first
        | (refine step_applit _ (by rfl) _ _ (by rfl) _ hlit (by rfl) _ _ _ (xs.take d) hItw (by rfl) hlt ?_; intro A1 c1 w1 ho1 sg1 hb1'; have hB1 := hBl.trans (hb1'.mono hsz); have hs1 := hB1.size)
        | (refine stepI _ (by rfl) _ _ (by rfl) _ _ (xs.take d) (by rfl) ho1 _ _ _ (xs.drop (d + 1)) (by rfl) (hID.ext hB1) hz2 hs1 ?_; intro v2 w2 ho2 hg2 hat2))
    have hB2 := hB1.trans (ho1.under hg2 hs1)
    go_wp2
    go_ret
    exact ⟨_, rfl, by rw [← HE.out]; exact ho2, hB2⟩

end Go.Proofs.Ytldblcolnjkcaaa

/-! ## E1a -/
namespace Go.Proofs.Ytldblcolnjkcaaa
open Go.RowKit

set_option maxRecDepth 100000 in
set_option maxHeartbeats 800000 in
theorem placeIn_any (v : Value) (xs : List Int) (n : Int) (w : World) (h : Ints w v xs) :
    Calls Try.prog 129 #[v, .int .i64 n] w fun e w' => e = .returned (.int .i64 (findI (· == n) xs)) ∧ w = w' := by
  obtain ⟨A, c, rfl, h1, h2, h3⟩ := h
  unfold maxLen at h2
  go_enter Try.func129, Try.ntmps129
  go_wp2
  go_loop [5] (fun i => ∃ k : Nat, k ≤ xs.length ∧ i = .int .i64 k ∧ (xs.take k).any (· == n) = false) (fun i => xs.length - (intOf i).toNat)
  case atStart => exact ⟨0, Nat.zero_le _, rfl, rfl⟩
  case round =>
    obtain ⟨k, hk, rfl, ha⟩ := hrel
    by_cases hlt : k < xs.length
    · obtain ⟨b, off, rfl, hb, hc⟩ := h3 (by omega)
      have hx := hc k xs[k] (by simp [hlt])
      have HS := hid (any_snoc (· == n) xs k hlt ha)
      have HF1 := hid (fun hp => findI_at (p := (· == n)) (xs := xs) (k := k) hlt ha hp)
      clear hc h3 ha
      cases hp : xs[k] == n
      · have HP := hid hp
        go_wp2
        go_round
        case rel => exact ⟨k + 1, by omega, by go_num, by rw [HS.out]; exact HP.out⟩
        case measure => simp [intOf]; omega
      · have HP := hid hp
        go_wp2
        go_ret
        exact ⟨ret_int (HF1.out HP.out).symm, rfl⟩
    · obtain rfl : k = xs.length := by omega
      rw [List.take_of_length_le (Nat.le_refl _)] at ha
      have HA := hid (findI_none ha); clear ha
      go_wp2
      go_ret
      exact ⟨ret_int HA.out.symm, rfl⟩

set_option maxRecDepth 100000 in
set_option maxHeartbeats 800000 in
theorem Index_any (v : Value) (xs : List Int) (n : Int) (w : World) (h : Ints w v xs) :
    Calls Try.prog 158 #[v, .int .i64 n] w fun e w' => e = .returned (.int .i64 (findI (n == ·) xs)) ∧ w = w' := by
  obtain ⟨A, c, rfl, h1, h2, h3⟩ := h
  unfold maxLen at h2
  go_enter Try.func158, Try.ntmps158
  go_wp2
  go_loop [8] (fun i => ∃ k : Nat, k ≤ xs.length ∧ i = .int .i64 k ∧ (xs.take k).any (n == ·) = false) (fun i => xs.length - (intOf i).toNat)
  case atStart => exact ⟨0, Nat.zero_le _, rfl, rfl⟩
  case round =>
    obtain ⟨k, hk, rfl, ha⟩ := hrel
    by_cases hlt : k < xs.length
    · obtain ⟨b, off, rfl, hb, hc⟩ := h3 (by omega)
      have hx := hc k xs[k] (by simp [hlt])
      have HS := hid (any_snoc (n == ·) xs k hlt ha)
      have HF1 := hid (fun hp => findI_at (p := (n == ·)) (xs := xs) (k := k) hlt ha hp)
      clear hc h3 ha
      cases hp : n == xs[k]
      · have HP := hid hp
        go_wp2
        go_round
        case rel => exact ⟨k + 1, by omega, by go_num, by rw [HS.out]; exact HP.out⟩
        case measure => simp [intOf]; omega
      · have HP := hid hp
        go_wp2
        go_ret
        exact ⟨ret_int (HF1.out HP.out).symm, rfl⟩
    · obtain rfl : k = xs.length := by omega
      rw [List.take_of_length_le (Nat.le_refl _)] at ha
      have HA := hid (findI_none ha); clear ha
      go_wp2
      go_ret
      exact ⟨ret_int HA.out.symm, rfl⟩

theorem contains_eq (xs : List Int) (n : Int) : xs.any (n == ·) = xs.contains n := by
  rw [List.contains_eq_any_beq]
set_option maxRecDepth 100000 in
set_option maxHeartbeats 800000 in
theorem Contains_any (v : Value) (xs : List Int) (n : Int) (w : World) (h : Ints w v xs) :
    Calls Try.prog 126 #[v, .int .i64 n] w fun e w' => e = .returned (.bool (xs.contains n)) ∧ w = w' := by
  have HA := hid ((findI_any (n == ·) xs).trans (contains_eq xs n))
  go_enter Try.func126, Try.ntmps126
  go_wp2_with fail
  refine (Index_any _ xs n _ h).mono ?_; rintro e w' ⟨rfl, rfl⟩
  go_wp2
  go_ret
  exact ⟨ret_bool HA.out, rfl⟩

theorem placeIn_quiet (v : Value) (xs : List Int) (n : Int) (w : World) (h : Ints w v xs) :
    Calls Try.prog 129 #[v, .int .i64 n] w fun e w' => e = .returned (.int .i64 (findI (· == n) xs)) ∧ w' = w := (placeIn_any v xs n w h).mono fun _ _ h => ⟨h.1, h.2.symm⟩

end Go.Proofs.Ytldblcolnjkcaaa

/-! ## E1 -/
namespace Go.Proofs.Ytldblcolnjkcaaa
open Go.RowKit

/-- No number stands twice among the first k. -/
def freshAt (xs : List Int) (k : Nat) : Bool := !(xs.take k).contains (xs.getD k 0)
def diffTo (xs : List Int) (k : Nat) : Bool := (List.range k).all (freshAt xs)
def diffL (xs : List Int) : Bool := diffTo xs xs.length
theorem diffTo_snoc (xs : List Int) (k : Nat) (h : diffTo xs k = true) : diffTo xs (k + 1) = freshAt xs k := by
  simp only [diffTo] at h
  simp [diffTo, List.range_succ, List.all_append, h]
theorem diffTo_false (xs : List Int) (k : Nat) (hk : k < xs.length) (h : freshAt xs k = false) : diffL xs = false := by
  simp only [diffL, diffTo, List.all_eq_false, List.mem_range]
  exact ⟨k, hk, by simp [h]⟩
theorem contains_eq' (xs : List Int) (n : Int) : xs.any (· == n) = xs.contains n := by
  rw [List.contains_eq_any_beq]; congr 1; funext x; exact Bool.beq_comm ..
set_option maxRecDepth 100000 in
set_option maxHeartbeats 800000 in
theorem different_any (v : Value) (xs : List Int) (w : World) (h : Ints w v xs) :
    Calls Try.prog 163 #[v] w fun e w' => e = .returned (.bool (diffL xs)) ∧ Below w.heap.size w w' := by
  have hints := h
  obtain ⟨A, c, rfl, h1, h2, h3⟩ := h
  unfold maxLen at h2
  go_enter Try.func163, Try.ntmps163
  go_wp2
  go_loopw [3] (fun i wr => ∃ k : Nat, k ≤ xs.length ∧ i = .int .i64 k ∧ diffTo xs k = true ∧ Below w.heap.size w wr) (fun i _ => xs.length - (intOf i).toNat)
  case atStart => exact ⟨0, Nat.zero_le _, rfl, rfl, Below.refl _ _⟩
  case round =>
    obtain ⟨k, hk, rfl, ha, hb⟩ := hrel
    by_cases hlt : k < xs.length
    · obtain ⟨b, off, rfl, hb0, hc⟩ := h3 (by omega)
      have hx := (hb.cell (p := ⟨b, off + k, none⟩) hb0).trans (hc k xs[k] (by simp [hlt]))
      have HT := hid ((hints.ext hb).take k hk)
      have HE := hid (show decide (0 ≤ findI (· == xs[k]) (xs.take k)) = !freshAt xs k by
        rw [findI_any, contains_eq']; simp [freshAt, hlt])
      have HS := hid (diffTo_snoc xs k ha)
      have HF := hid (diffTo_false xs k hlt)
      have hki : (k : Int) < (xs.length : Int) := by omega
      clear hc h3 ha hints
      cases hf : freshAt xs k
      · have HQ := hid (HF.out hf)
        have hr : 0 ≤ findI (· == xs[k]) (xs.take k) := of_decide_eq_true (by rw [HE.out, hf]; rfl)
        clear hf
        go_wp2
        go_quiet ((go_at_call 129; exact Calls.quiet_of_same (placeIn_quiet _ _ _ _ (HT.out.ext (below_drewN _ _)))))
        go_wp2
        go_ret
        exact ⟨ret_bool HQ.out.symm, hb.trans ((below_drewN wr _).mono hb.size)⟩
      · have HP := hid (HS.out.trans hf)
        have hr : findI (· == xs[k]) (xs.take k) < 0 := Int.not_le.mp (of_decide_eq_false (by rw [HE.out, hf]; rfl))
        clear hf
        go_wp2
        go_quiet ((go_at_call 129; exact Calls.quiet_of_same (placeIn_quiet _ _ _ _ (HT.out.ext (below_drewN _ _)))))
        go_wp2
        go_roundw
        case rel => exact ⟨k + 1, by omega, by go_num, HP.out, hb.trans ((below_drewN wr _).mono hb.size)⟩
        case measure => simp [intOf]; omega
    · obtain rfl : k = xs.length := by omega
      have HQ := hid ha
      clear ha
      go_wp2
      go_ret
      exact ⟨ret_bool HQ.out.symm, hb⟩

end Go.Proofs.Ytldblcolnjkcaaa

/-! ## SD1 -/
namespace Go.Proofs.Ytldblcolnjkcaaa
open Go.RowKit

set_option maxHeartbeats 800000 in
theorem sUpTo_any (n : Nat) (w : World) (hn : n ≤ 1000000) :
    Calls Try.prog 147 #[.int .i64 n] w (RetOwn w (upI n)) := by
  go_enter Try.func147, Try.ntmps147
  go_wp2
  go_loopw [3, 4] (fun out i wr => ∃ (k : Nat), k ≤ n ∧ i = .int .i64 k ∧ Own wr w.heap.size out (upI k) ∧ Below w.heap.size w wr) (fun _ i _ => n - (intOf i).toNat)
  case atStart => exact ⟨0, Nat.zero_le _, rfl, Own.empty w rfl (Nat.le_refl _), below_alloc w _⟩
  case round =>
    obtain ⟨k, hk, rfl, hown, hb⟩ := hrel
    by_cases hlt : k < n
    · have HT := hid (upI_succ k)
      have HL1 := hid (show (upI k).length ≤ 1000000000000 by rw [upI_length]; omega)
      have hsz : w.heap.size ≤ wr.heap.size := hb.size
      go_wp2_with (at_builtin; refine app1 _ rfl _ _ rfl w.heap.size _ (upI k) rfl (hown.alloc _) ⟨wr.heap.size, 0, none⟩ 1 (k : Int) rfl (cell_new1 _ _ _) HL1.out (le_alloc hsz _) ?_)
      intro v1 w1 ho1 hg1 hat1
      have hq := hb.trans (((below_alloc wr (.cells #[.int .i64 (k : Int)] 3)).mono hsz).trans ((hown.alloc _).under hg1 (le_alloc hsz _)))
      go_wp2
      go_roundw
      case rel => exact ⟨k + 1, by omega, by go_num, by rw [HT.out]; exact ho1, hq⟩
      case measure => simp [intOf]; omega
    · have HE := hid (show k = n by omega)
      go_wp2
      go_ret
      exact ⟨_, rfl, by rw [← HE.out]; exact hown, hb⟩

set_option maxHeartbeats 400000 in
theorem unrank5_any (v : Value) (shape : List Int) (r : Int) (w : World) (h : Ints w v shape) (hpos : ∀ x ∈ shape, 1 ≤ x ∧ x ≤ 60) (hl : shape.length ≤ 5) (hr0 : 0 ≤ r) (hr1 : r ≤ 100) :
    Calls Try.prog 160 #[v, .int .i64 r] w (RetOwn w (unr shape r)) := by
  have HP := hid hpos; clear hpos
  obtain ⟨A, c, rfl, h1, h2, h3⟩ := h
  unfold maxLen at h2
  go_enter Try.func160, Try.ntmps160
  go_wp2_with (at_make; refine mk0 _ rfl _ _ rfl shape.length rfl rfl (by omega) ?_)
  intro w0 hown0 hb0
  go_wp2
  go_loopw [1, 6] (fun q i wr => ∃ (j : Nat) (qi : Int) (xs : List Int), j ≤ shape.length ∧ i = .int .i64 ((j : Int) - 1) ∧ q = .int .i64 qi ∧ IdxRel shape r j qi xs ∧
      Own wr w.heap.size (.slice (some ⟨w.heap.size, 0, none⟩) shape.length shape.length) xs ∧ Below w.heap.size w wr) (fun _ i _ => (intOf i + 1).toNat)
  case atStart => exact ⟨shape.length, r, _, Nat.le_refl _, rfl, rfl, IdxRel.start shape r, hown0, hb0⟩
  case round =>
    obtain ⟨j, qi, xs, hj, rfl, rfl, hrl, hown, hb⟩ := hrel
    have hq := hrl.q_bd hr0 HP.out
    obtain ⟨hq0, hq1⟩ := hq
    have HR := hid hrl; clear hrl
    rcases Nat.eq_zero_or_pos j with h0 | h0
    · subst h0
      go_wp2
      go_ret
      refine ⟨_, rfl, ?_, hb⟩
      rw [← HR.out.end_]
      exact hown
    · obtain ⟨m, rfl⟩ : ∃ m, j = m + 1 := ⟨j - 1, by omega⟩
      have hm : m < shape.length := by omega
      have HS := hid (HR.out.step hm HP.out)
      have hs0 := (HP.out shape[m] (List.getElem_mem hm)).1
      have hs1 := (HP.out shape[m] (List.getElem_mem hm)).2
      obtain ⟨b, off, rfl, hlt, hc⟩ := h3 (by omega)
      have hx := (hb.cell (p := ⟨b, off + m, none⟩) hlt).trans (hc m shape[m] (by simp [hm]))
      have hxl : m < xs.length := by have := HR.out.1; omega
      have hy := hown.cell m hxl
      have hf := hown.free m
      have hne : b ≠ w.heap.size := by omega
      have HO := hid (hown.put m (qi % shape[m]))
      have HB := hid (hb.setCell (p := ⟨w.heap.size, m, none⟩) (Nat.le_refl _) (.int .i64 (qi % shape[m])))
      clear hc h3 hown hb
      go_wp2
      go_roundw
      case rel => exact ⟨m, _, _, by omega, rfl, rfl, HS.out, HO.out, HB.out⟩
      case measure => simp [intOf]


set_option maxRecDepth 100000 in
set_option maxHeartbeats 6400000 in
theorem picked_any (v vi : Value) (xs ix : List Int) (w : World) (h : Ints w v xs) (hi : Ints w vi ix) (hr : ∀ i ∈ ix, 0 ≤ i ∧ i < xs.length) (hl : ix.length ≤ 1000) :
    Calls Try.prog 167 #[v, vi] w (RetOwn w (takenL xs ix)) := by
  obtain ⟨A, c, rfl, -⟩ := h.form
  obtain ⟨A', c', rfl, -⟩ := hi.form
  have HR := hid hr
  clear hr
  go_enter Try.func167, Try.ntmps167
  have HE := hid (Own.empty w (B := w.heap.size) rfl (Nat.le_refl _))
  have HB0 := hid (below_alloc w (.cells #[] 3))
  go_wp2
  go_loopg [5, 6] ix.length (fun m out i wr => ∃ k : Nat, k ≤ ix.length ∧ m = ix.length - k ∧ i = .int .i64 k ∧ Own wr w.heap.size out (takenL xs (ix.take k)) ∧ Below w.heap.size w wr)
  case atStart => exact ⟨0, Nat.zero_le _, rfl, rfl, HE.out, HB0.out⟩
  case round =>
    obtain ⟨k, hk, rfl, rfl, hown, hb⟩ := hrel
    have HO := hid hown
    have HB := hid hb
    have hsz := hb.size
    clear HE HB0
    by_cases hlt : k < ix.length
    · have hki : (k : Int) < (ix.length : Int) := by omega
      have hin := HR.out _ (List.getElem_mem hlt)
      obtain ⟨b1, o1, rfl, x0⟩ := (hi.ext hb).elem k hlt
      obtain ⟨j, hj⟩ : ∃ j : Nat, ix[k] = (j : Int) := ⟨(ix[k]).toNat, by omega⟩
      have HT := hid (takenL_snoc xs ix k hlt)
      rw [hj] at x0 hin HT
      have hjn : j < xs.length := by omega
      obtain ⟨b2, o2, rfl, y0⟩ := (h.ext hb).elem j hjn
      have hjl : (j : Int) < (xs.length : Int) := by omega
      have hj0 : (0 : Int) ≤ (j : Int) := by omega
      obtain ⟨X, eX⟩ : ∃ X, xs[j] = X := ⟨_, rfl⟩
      have HTX := hid (show takenL xs (ix.take (k + 1)) = takenL xs (ix.take k) ++ [X] by rw [HT.out]; simp [hjn, eX])
      rw [eX] at y0
      have HL1 := hid (show (takenL xs (ix.take k)).length ≤ 1000000000000 by simp [takenL]; omega)
      have hw : IntKind.i64.wrap ((k : Int) + 1) = (k : Int) + 1 := IntWalk.i64_in _ (by omega)
      obtain ⟨A9, c9, e9⟩ := hown.form
      clear hj eX hin HT hb hown
      subst e9
      go_wp2_with (at_builtin; refine app1 _ rfl _ _ rfl w.heap.size _ (takenL xs (ix.take k)) rfl (HO.out.alloc _) ⟨wr.heap.size, 0, none⟩ 1 X rfl (cell_new1 _ _ _) HL1.out (le_alloc hsz _) ?_)
      intro v1 w1 ho1 hg1 hat1
      have hq := HB.out.trans (((below_alloc wr (.cells #[.int .i64 X] 3)).mono hsz).trans ((HO.out.alloc _).under hg1 (le_alloc hsz _)))
      clear hg1 hat1
      go_wp2
      go_roundg (ix.length - (k + 1))
      case measure => omega
      case rel => exact ⟨k + 1, by omega, rfl, by congr 1, by rw [HTX.out]; exact ho1, hq⟩
    · have hki : ¬ (k : Int) < (ix.length : Int) := by omega
      have HQ := hid (show takenL xs (ix.take k) = takenL xs ix by rw [List.take_of_length_le (by omega)])
      clear hown hb
      go_wp2
      go_ret
      exact ⟨_, rfl, by rw [← HQ.out]; exact HO.out, HB.out⟩

/-- What the space of extents is. -/
def RetSpace (w : World) (xs : List Int) (e : Ending) (w' : World) : Prop := ∃ r, e = .returned (.tuple #[r, .int .i64 (prodW (spX xs))]) ∧ Own w' w.heap.size r (spX xs) ∧ Below w.heap.size w w'
theorem spX_snoc (xs : List Int) (k : Nat) (h : k < xs.length) : spX (xs.take (k + 1)) = spX (xs.take k) ++ [if xs[k] < 0 then 1 else xs[k]] := by
  rw [take_snocI _ k h, spX, List.map_append]; rfl
set_option maxRecDepth 100000 in
set_option maxHeartbeats 6400000 in
theorem space_any (v : Value) (xs : List Int) (w : World) (h : Ints w v xs) (hl : xs.length ≤ 1000) : Calls Try.prog 179 #[v] w (RetSpace w xs) := by
  obtain ⟨A, c, rfl, -⟩ := h.form
  go_enter Try.func179, Try.ntmps179
  have HE := hid (Own.empty w (B := w.heap.size) rfl (Nat.le_refl _))
  have HB0 := hid (below_alloc w (.cells #[] 3))
  go_wp2
  go_loopg [4, 5, 6, 7] xs.length (fun m out p i t wr => ∃ k : Nat, k ≤ xs.length ∧ m = xs.length - k ∧ i = .int .i64 k ∧ p = .int .i64 (prodW (spX (xs.take k))) ∧ Own wr w.heap.size out (spX (xs.take k)) ∧ Below w.heap.size w wr)
  case atStart => exact ⟨0, Nat.zero_le _, rfl, rfl, rfl, HE.out, HB0.out⟩
  case round =>
    obtain ⟨k, hk, rfl, rfl, rfl, hown, hb⟩ := hrel
    have HO := hid hown
    have HB := hid hb
    have hsz := hb.size
    clear HE HB0
    by_cases hlt : k < xs.length
    · have hki : (k : Int) < (xs.length : Int) := by omega
      obtain ⟨b1, o1, rfl, x0⟩ := (h.ext hb).elem k hlt
      have HS := hid (spX_snoc xs k hlt)
      have HL1 := hid (show (spX (xs.take k)).length ≤ 1000000000000 by simp [spX]; omega)
      have hw : IntKind.i64.wrap ((k : Int) + 1) = (k : Int) + 1 := IntWalk.i64_in _ (by omega)
      obtain ⟨A9, c9, e9⟩ := hown.form
      obtain ⟨X, eX⟩ : ∃ X, xs[k] = X := ⟨_, rfl⟩
      rw [eX] at x0 HS
      clear hb hown eX
      subst e9
      by_cases hneg : X < 0
      · rw [if_pos hneg] at HS
        have HPS := hid (show prodW (spX (xs.take (k + 1))) = wrap64 (prodW (spX (xs.take k)) * 1) by rw [HS.out, prodW_snoc])
        go_wp2_with (at_builtin; refine app1 _ rfl _ _ rfl w.heap.size _ (spX (xs.take k)) rfl (HO.out.alloc _) ⟨wr.heap.size, 0, none⟩ 1 1 rfl (cell_new1 _ _ _) HL1.out (le_alloc hsz _) ?_)
        intro v1 w1 ho1 hg1 hat1
        have hq := HB.out.trans (((below_alloc wr (.cells #[.int .i64 1] 3)).mono hsz).trans ((HO.out.alloc _).under hg1 (le_alloc hsz _)))
        clear hg1 hat1
        go_wp2
        go_roundg (xs.length - (k + 1))
        case measure => omega
        case rel => exact ⟨k + 1, by omega, rfl, by congr 1, by rw [HPS.out, Int.mul_one], by rw [HS.out]; exact ho1, hq⟩
      · rw [if_neg hneg] at HS
        have HPS := hid (show prodW (spX (xs.take (k + 1))) = wrap64 (prodW (spX (xs.take k)) * X) by rw [HS.out, prodW_snoc])
        go_wp2_with (at_builtin; refine app1 _ rfl _ _ rfl w.heap.size _ (spX (xs.take k)) rfl (HO.out.alloc _) ⟨wr.heap.size, 0, none⟩ 1 X rfl (cell_new1 _ _ _) HL1.out (le_alloc hsz _) ?_)
        intro v1 w1 ho1 hg1 hat1
        have hq := HB.out.trans (((below_alloc wr (.cells #[.int .i64 X] 3)).mono hsz).trans ((HO.out.alloc _).under hg1 (le_alloc hsz _)))
        clear hg1 hat1
        go_wp2
        go_roundg (xs.length - (k + 1))
        case measure => omega
        case rel => exact ⟨k + 1, by omega, rfl, by congr 1, by rw [HPS.out], by rw [HS.out]; exact ho1, hq⟩
    · have hki : ¬ (k : Int) < (xs.length : Int) := by omega
      have HQ := hid (show spX (xs.take k) = spX xs by rw [List.take_of_length_le (by omega)])
      clear hown hb
      go_wp2
      refine bodyPost_ret (v := .tuple #[u4, .int .i64 (prodW (spX (xs.take k)))]) (by simp [results, Try.results179, go_sem]) rfl ?_
      exact ⟨_, by rw [HQ.out], by rw [← HQ.out]; exact HO.out, HB.out⟩

set_option maxRecDepth 100000 in
set_option maxHeartbeats 6400000 in
theorem goodOut_any (vo ve : Value) (out E : List Int) (w : World) (ho : Ints w vo out) (he : Ints w ve E) (h1 : out.all (inR · 0 4) = true) (h2 : diffL out = true) (h3 : (takenL E out).all (inR · 0 60) = true) (h4 : E.length = 5) (hl : out.length ≤ 1000) :
    Calls Try.prog 178 #[vo, ve] w fun e w' => e = .returned (.bool (isShapeL (takenL E out))) ∧ Below w.heap.size w w' := by
  have HR := hid (show ∀ i ∈ out, 0 ≤ i ∧ i < (E.length : Int) from fun i hi => by
    have := List.all_eq_true.1 h1 i hi
    rw [inR_iff] at this
    omega)
  have H1 := hid h1
  have H2 := hid h2
  have H3 := hid h3
  clear h1 h2 h3 h4
  go_enter Try.func178, Try.ntmps178
  go_wp2_with fail
  refine (allIn_any _ out 0 4 _ ho).mono ?_; rintro e w' ⟨rfl, rfl⟩
  rw [H1.out]
  go_wp2_with fail
  refine (different_any _ out _ ho).mono ?_; rintro e w1 ⟨rfl, hb1⟩
  rw [H2.out]
  have ho1 := ho.ext hb1
  have he1 := he.ext hb1
  go_wp2_with fail
  refine (picked_any _ _ E out _ he1 ho1 HR.out hl).mono ?_; rintro e w2 ⟨r1, rfl, hr1, hb2⟩
  obtain ⟨A1, c1, rfl⟩ := hr1.form
  have hb12 := hb1.nx hb2 hb1.size
  go_wp2_with fail
  refine (allIn_any _ _ 0 60 _ hr1.ints).mono ?_; rintro e w' ⟨rfl, rfl⟩
  rw [H3.out]
  have ho2 := ho.ext hb12
  have he2 := he.ext hb12
  clear hr1 hb2 ho1 he1
  go_wp2_with fail
  refine (picked_any _ _ E out _ he2 ho2 HR.out hl).mono ?_; rintro e w3 ⟨r2, rfl, hr2, hb3⟩
  obtain ⟨A2, c2, rfl⟩ := hr2.form
  have hb13 := hb12.nx hb3 hb12.size
  go_wp2_with fail
  refine (validShape_any _ _ _ hr2.ints).mono ?_; rintro e w' ⟨rfl, rfl⟩
  go_wp2
  go_ret
  exact ⟨rfl, hb13⟩

end Go.Proofs.Ytldblcolnjkcaaa

/-! ## G2 -/
namespace Go.Proofs.Ytldblcolnjkcaaa
open Go.RowKit

def orderL (xs : List Int) (n : Nat) : Bool := decide (xs.length = n) && xs.all (inR · 0 ((n : Int) - 1)) && diffL xs
def permV (V : VL) (O : List Int) : VL := ⟨V.base, pickN V.shape (O.map Int.toNat), pickN V.strides (O.map Int.toNat)⟩
def sumI (xs : List Int) : Int := xs.foldr (· + ·) 0
theorem sumI_perm {xs ys : List Int} (h : xs.Perm ys) : sumI xs = sumI ys := by
  induction h with
  | nil => rfl
  | cons x _ ih => simp only [sumI, List.foldr_cons] at ih ⊢; rw [ih]
  | swap x y l => simp only [sumI, List.foldr_cons]; omega
  | trans _ _ h1 h2 => exact h1.trans h2
theorem prodI_perm {xs ys : List Int} (h : xs.Perm ys) : prodI xs = prodI ys := by
  induction h with
  | nil => rfl
  | cons x _ ih => simp only [prodI, ih]
  | swap x y l => simp only [prodI]; rw [← Int.mul_assoc, ← Int.mul_assoc, Int.mul_comm y x]
  | trans _ _ h1 h2 => exact h1.trans h2
theorem loS_sum (f : Nat → Int) (g : Nat → Int) (P : List Nat) : loS (P.map f) (P.map g) = sumI (P.map fun i => min 0 ((f i - 1) * g i)) := by
  induction P with
  | nil => rfl
  | cons p ps ih => simp only [List.map_cons, loS, ih, sumI, List.foldr_cons]
theorem hiS_sum (f : Nat → Int) (g : Nat → Int) (P : List Nat) : hiS (P.map f) (P.map g) = sumI (P.map fun i => max 0 ((f i - 1) * g i)) := by
  induction P with
  | nil => rfl
  | cons p ps ih => simp only [List.map_cons, hiS, ih, sumI, List.foldr_cons]
theorem few : ∀ (n : Nat) (l : List Nat), l.Nodup → (∀ x ∈ l, x < n) → l.length ≤ n
  | 0, l, _, h => by cases l with | nil => simp | cons x xs => have := h x List.mem_cons_self; omega
  | n + 1, l, hn, h => by
    by_cases hm : n ∈ l
    · have := few n (l.erase n) (hn.erase n) fun x hx => by
        have h1 := (hn.mem_erase_iff.1 hx)
        have := h x h1.2
        have := h1.1
        omega
      rw [List.length_erase_of_mem hm] at this
      omega
    · have := few n l hn fun x hx => by
        have := h x hx
        have : x ≠ n := fun e => hm (e ▸ hx)
        omega
      omega
theorem perm_range : ∀ (n : Nat) (l : List Nat), l.Nodup → (∀ x ∈ l, x < n) → l.length = n → l.Perm (List.range n)
  | 0, l, _, _, hl => by have : l = [] := List.length_eq_zero_iff.1 hl; subst this; exact List.Perm.refl _
  | n + 1, l, hn, h, hl => by
    have hm : n ∈ l := Classical.byContradiction fun hm => by
      have := few n l hn fun x hx => by
        have := h x hx
        have : x ≠ n := fun e => hm (e ▸ hx)
        omega
      omega
    have h1 := perm_range n (l.erase n) (hn.erase n) (fun x hx => by
        have h1 := (hn.mem_erase_iff.1 hx)
        have := h x h1.2
        have := h1.1
        omega) (by rw [List.length_erase_of_mem hm]; omega)
    rw [List.range_succ]
    exact ((List.perm_cons_erase hm).trans (h1.cons n)).trans (List.perm_append_singleton n _).symm
theorem diff_nodup {xs : List Int} (h : diffL xs = true) : ∀ i j (hi : i < xs.length) (hj : j < xs.length), i < j → xs[i] ≠ xs[j] := by
  intro i j hi hj hij e
  simp only [diffL, diffTo, List.all_eq_true, List.mem_range] at h
  have h1 := h j hj
  simp only [freshAt, Bool.not_eq_true', List.getD_eq_getElem?_getD, List.getElem?_eq_getElem hj, Option.getD_some] at h1
  rw [List.contains_eq_mem, decide_eq_false_iff_not] at h1
  apply h1
  rw [← e, List.mem_take_iff_getElem]
  exact ⟨i, by omega, rfl⟩
theorem order_perm {O : List Int} {n : Nat} (h : orderL O n = true) : (O.map Int.toNat).Perm (List.range n) := by
  simp only [orderL, Bool.and_eq_true, decide_eq_true_eq, List.all_eq_true, inR_iff] at h
  obtain ⟨⟨h1, h2⟩, h3⟩ := h
  have hd := diff_nodup h3
  apply perm_range
  · rw [List.nodup_iff_pairwise_ne, List.pairwise_iff_getElem]
    intro i j hi hj hij
    simp only [List.length_map] at hi hj
    simp only [List.getElem_map]
    have := hd i j hi hj hij
    have := h2 _ (List.getElem_mem hi)
    have := h2 _ (List.getElem_mem hj)
    omega
  · intro x hx
    obtain ⟨y, hy, rfl⟩ := List.mem_map.1 hx
    have := h2 y hy
    omega
  · simpa using h1
theorem map_range_getD (xs : List Int) (n : Nat) (h : xs.length = n) : (List.range n).map (fun i => xs.getD i 0) = xs := by
  subst h
  apply List.ext_getElem
  · simp
  · intro i h1 h2
    simp [h2]
theorem permV_valid {V : VL} {O : List Int} (h : isViewL V = true) (ho : orderL O V.shape.length = true) : isViewL (permV V O) = true := by
  have hp := order_perm ho
  rw [valid_iff] at h ⊢
  obtain ⟨h1, h2, h3, h4, h5⟩ := h
  have ps : (permV V O).shape.Perm V.shape := by
    have := hp.map fun i => V.shape.getD i 0
    rwa [map_range_getD V.shape _ rfl] at this
  have pt : (permV V O).strides.Perm V.strides := by
    have := hp.map fun i => V.strides.getD i 0
    rwa [map_range_getD V.strides _ h2] at this
  obtain ⟨s1, s2, s3⟩ := shape_ext h1
  have q1 : (permV V O).shape.length ≤ 4 := by rw [ps.length_eq]; exact s1
  have q2 : ∀ x ∈ (permV V O).shape, 0 ≤ x ∧ x ≤ 60 := fun x hx => s2 x (ps.mem_iff.1 hx)
  have q3 := prodI_perm ps
  refine ⟨?_, ?_, h3, fun x hx => h4 x (pt.mem_iff.1 hx), ?_⟩
  · have a := (shape_prod h1)
    have b := prodW_eq q1 q2
    simp only [isShapeL, Bool.and_eq_true, decide_eq_true_eq, List.all_eq_true, okExt, inR_iff]
    exact ⟨⟨q1, q2⟩, by rw [b.1, q3]; exact a.2.2⟩
  · rw [ps.length_eq, pt.length_eq, h2]
  · rw [q3]
    rcases h5 with h5 | h5
    · exact .inl h5
    · refine .inr ?_
      have e1 : loS (permV V O).shape (permV V O).strides = loS V.shape V.strides := by
        have a := loS_sum (fun i => V.shape.getD i 0) (fun i => V.strides.getD i 0) (List.range V.shape.length)
        rw [map_range_getD V.shape _ rfl, map_range_getD V.strides _ h2] at a
        rw [a]
        refine (loS_sum (fun i => V.shape.getD i 0) (fun i => V.strides.getD i 0) (O.map Int.toNat)).trans ?_
        exact sumI_perm (hp.map _)
      have e2 : hiS (permV V O).shape (permV V O).strides = hiS V.shape V.strides := by
        have a := hiS_sum (fun i => V.shape.getD i 0) (fun i => V.strides.getD i 0) (List.range V.shape.length)
        rw [map_range_getD V.shape _ rfl, map_range_getD V.strides _ h2] at a
        rw [a]
        refine (hiS_sum (fun i => V.shape.getD i 0) (fun i => V.strides.getD i 0) (O.map Int.toNat)).trans ?_
        exact sumI_perm (hp.map _)
      rw [e1, e2]
      exact h5
def permL (V : VL) (O : List Int) : VL := if isViewL V && orderL O V.shape.length then permV V O else VL.zero
def permB (V : VL) (O : List Int) : Bool := isViewL V && orderL O V.shape.length
theorem pickN_len (xs : List Int) (P : List Nat) : (pickN xs P).length = P.length := by simp [pickN]
theorem permL_len (V : VL) (O : List Int) : (permL V O).shape.length ≤ 60 ∧ (permL V O).strides.length ≤ 60 := by
  unfold permL
  split
  · rename_i h
    simp only [Bool.and_eq_true] at h
    have := isViewL_lens (permV_valid h.1 h.2)
    omega
  · simp [VL.zero]

end Go.Proofs.Ytldblcolnjkcaaa

/-! ## E2 -/
namespace Go.Proofs.Ytldblcolnjkcaaa
open Go.RowKit

set_option maxRecDepth 100000 in
set_option maxHeartbeats 800000 in
theorem validOrder_any (v : Value) (O : List Int) (n : Nat) (w : World) (h : Ints w v O) (hn : n ≤ 4) :
    Calls Try.prog 136 #[v, .int .i64 n] w fun e w' => e = .returned (.bool (orderL O n)) ∧ Below w.heap.size w w' := by
  have hints := h
  obtain ⟨A, c, rfl, h1, h2, -⟩ := h
  unfold maxLen at h2
  by_cases hl : O.length = n
  · have hln : ((O.length : Int) == (n : Int)) = true := by simp [hl]
    have hle : (O.length : Int) = (n : Int) := by omega
    cases ha : O.all (inR · 0 ((n : Int) - 1))
    · have HQ := hid (show orderL O n = false by simp only [orderL, ha]; simp)
      have HA := hid ha
      have HL := hid hl
      have HE := hid hle
      clear ha hl hle
      go_enter Try.func136, Try.ntmps136
      go_wp2_with fail
      refine (allIn_any _ O _ _ _ hints).mono ?_; rintro e w' ⟨rfl, rfl⟩
      rw [HA.out]
      go_wp2
      go_ret
      exact ⟨ret_bool HQ.out.symm, Below.refl _ _⟩
    · have HQ := hid (show orderL O n = diffL O by simp only [orderL, ha, hl]; simp)
      have HA := hid ha
      have HL := hid hl
      have HE := hid hle
      clear ha hl hle
      go_enter Try.func136, Try.ntmps136
      go_wp2_with fail
      refine (allIn_any _ O _ _ _ hints).mono ?_; rintro e w' ⟨rfl, rfl⟩
      rw [HA.out]
      go_wp2_with fail
      refine (different_any _ O _ hints).mono ?_; rintro e w1 ⟨rfl, hb1⟩
      go_wp2
      go_ret
      exact ⟨ret_bool HQ.out.symm, hb1⟩
  · have HQ := hid (show orderL O n = false by simp [orderL, hl])
    have hln : ((O.length : Int) == (n : Int)) = false := by simp; omega
    clear hl
    go_enter Try.func136, Try.ntmps136
    go_wp2
    go_ret
    exact ⟨ret_bool HQ.out.symm, Below.refl _ _⟩

theorem permV_snoc {V : VL} {O : List Int} {k j : Nat} (h : k < O.length) (hj : O[k] = (j : Int)) (h1 : j < V.shape.length) (h2 : j < V.strides.length) :
    (permV V (O.take (k + 1))).shape = (permV V (O.take k)).shape ++ [V.shape[j]] ∧ (permV V (O.take (k + 1))).strides = (permV V (O.take k)).strides ++ [V.strides[j]] := by
  have e : (O.take (k + 1)).map Int.toNat = (O.take k).map Int.toNat ++ [j] := by
    rw [take_snocI O k h, List.map_append, hj]; simp
  simp only [permV, e]
  exact ⟨pickN_snoc _ _ _ h1, pickN_snoc _ _ _ h2⟩
theorem permV_len (V : VL) (O : List Int) (k : Nat) : (permV V (O.take k)).shape.length ≤ k ∧ (permV V (O.take k)).strides.length ≤ k := by
  simp [permV, pickN_length]; omega

set_option maxRecDepth 100000 in
set_option maxHeartbeats 6400000 in
theorem permuted_any (v o : Value) (V : VL) (O : List Int) (w : World) (hv : ViewV w v V) (ho : Ints w o O) (hall : ∀ x ∈ O, 0 ≤ x ∧ x < V.shape.length) (hlen : V.shape.length = V.strides.length) (hO : O.length ≤ 4) :
    Calls Try.prog 137 #[v, o] w (RetView w (permV V O)) := by
  obtain ⟨sv, tv, rfl, hsv, htv⟩ := hv
  obtain ⟨As, cs, es⟩ := hsv.form
  subst es
  obtain ⟨At, ct, et⟩ := htv.form
  subst et
  have hints := ho
  obtain ⟨Ao, co, rfl, o1, o2, -⟩ := ho
  unfold maxLen at o2
  have HALL := hid hall
  have HTL := hid hlen
  clear hall hlen
  have hA := ((Blk.new w 43 #[.int .i64 V.base, .slice As V.shape.length cs, .slice At V.strides.length ct]).alloc (.cells #[.int .i64 0, .slice none 0 0, .slice none 0 0] 43)).alloc (.cells #[.int .i64 V.base, .slice none 0 0, .slice none 0 0] 43)
  have hR := (Blk.new (w.alloc (.cells #[.int .i64 V.base, .slice As V.shape.length cs, .slice At V.strides.length ct] 43)) 43 #[.int .i64 0, .slice none 0 0, .slice none 0 0]).alloc (.cells #[.int .i64 V.base, .slice none 0 0, .slice none 0 0] 43)
  have hBx := Blk.new ((w.alloc (.cells #[.int .i64 V.base, .slice As V.shape.length cs, .slice At V.strides.length ct] 43)).alloc (.cells #[.int .i64 0, .slice none 0 0, .slice none 0 0] 43)) 43 #[.int .i64 V.base, .slice none 0 0, .slice none 0 0]
  have hD2 : Below w.heap.size w (((w.alloc (.cells #[.int .i64 V.base, .slice As V.shape.length cs, .slice At V.strides.length ct] 43)).alloc (.cells #[.int .i64 0, .slice none 0 0, .slice none 0 0] 43)).alloc (.cells #[.int .i64 V.base, .slice none 0 0, .slice none 0 0] 43)) := (((Below.refl _ _).alloc (Nat.le_refl _) _).alloc (by simp) _).alloc (by simp; omega) _
  simp only [World.size_alloc] at hR hBx
  have hzW := hBx.lt
  obtain ⟨⟨i0, i1, i2⟩, -⟩ := ((Blk.new w 43 #[.int .i64 V.base, .slice As V.shape.length cs, .slice At V.strides.length ct]).alloc (.cells #[.int .i64 0, .slice none 0 0, .slice none 0 0] 43)).all3
  go_enter Try.func137, Try.ntmps137
  go_wp2_with fail
  generalize ((w.alloc (.cells #[.int .i64 V.base, .slice As V.shape.length cs, .slice At V.strides.length ct] 43)).alloc (.cells #[.int .i64 0, .slice none 0 0, .slice none 0 0] 43)).alloc (.cells #[.int .i64 V.base, .slice none 0 0, .slice none 0 0] 43) = w2 at *
  clear i0 i1 i2
  obtain ⟨B, hB⟩ : ∃ B, B = w.heap.size + 2 := ⟨_, rfl⟩
  have HT0 : Hid (GrowView B w2 B V.base (.slice none 0 0) (.slice none 0 0) (permV V (O.take 0)).shape (permV V (O.take 0)).strides) :=
    hid ⟨by rw [hB]; exact hBx, Own.nil _ _, Own.nil _ _, fun k hk => by simp [Value.ownBlock] at hk, fun k hk => by simp [Value.ownBlock] at hk, Sep.none_left _⟩
  have hzB : B + 1 ≤ w2.heap.size := by omega
  have hB2 : w.heap.size + 2 ≤ B := by omega
  have eB : w.heap.size + 1 + 1 = B := by omega
  rw [eB]
  clear hB eB hBx hzW
  have HB2 := hid hB2
  have HZW := hid hzB
  clear hB2 hzB
  go_loopg [6] O.length (fun m i wr => ∃ k : Nat, k ≤ O.length ∧ m = O.length - k ∧ i = .int .i64 k ∧ Mid w wr B B (B + 1) V.base (.slice As V.shape.length cs) (.slice At V.strides.length ct) V.base (permV V (O.take k)).shape (permV V (O.take k)).strides)
  case atStart => exact ⟨0, Nat.zero_le _, rfl, rfl, _, _, HT0.out, hD2, hA, hR, HZW.out⟩
  case round =>
    obtain ⟨k, hk, hm, rfl, s', t', hG, hb, hAr, hRr, hzr⟩ := hrel
    have HM := hid hm
    clear hm
    have HZ := hid hzr
    clear hzr
    obtain ⟨⟨q0, q1, q2⟩, -⟩ := id hAr.all3
    by_cases hlt : k < O.length
    · obtain ⟨j, hj⟩ : ∃ j : Nat, O[k] = (j : Int) := ⟨(O[k]).toNat, by have := (HALL.out O[k] (List.getElem_mem hlt)).1; omega⟩
      have hjs : j < V.shape.length := by have := (HALL.out O[k] (List.getElem_mem hlt)).2; omega
      have hjt : j < V.strides.length := by have := HTL.out; omega
      obtain ⟨A', c', e', -, -, hr0⟩ := hints
      simp only [Value.slice.injEq, true_and] at e'
      obtain ⟨rfl, rfl⟩ := e'
      obtain ⟨bo, oo, rfl, hbo, hco⟩ := hr0 (by omega)
      obtain ⟨A', c', e', -, hm1, hr1⟩ := hsv
      simp only [Value.slice.injEq, true_and] at e'
      obtain ⟨rfl, rfl⟩ := e'
      obtain ⟨bs, os, rfl, hbs, hcs⟩ := hr1 (by omega)
      obtain ⟨A', c', e', -, hm2, hr2⟩ := htv
      simp only [Value.slice.injEq, true_and] at e'
      obtain ⟨rfl, rfl⟩ := e'
      obtain ⟨bt, ot, rfl, hbt, hct⟩ := hr2 (by omega)
      have hxo := (hb.cell (p := ⟨bo, oo + k, none⟩) hbo).trans (hco k (j : Int) (by rw [← hj]; simp [hlt]))
      have hxs := (hb.cell (p := ⟨bs, os + j, none⟩) hbs).trans (hcs j V.shape[j] (by simp [hjs]))
      have hxt1 := hct j V.strides[j] (by simp [hjt])
      have hxo1 := hco k (j : Int) (by rw [← hj]; simp [hlt])
      unfold maxLen at hm1 hm2
      clear hr0 hr1 hr2 hcs hct hco
      have hki : (k : Int) < (O.length : Int) := by omega
      have hj1 : (j : Int) < (V.shape.length : Int) := by omega
      have hj2 : (j : Int) < (V.strides.length : Int) := by omega
      obtain ⟨hE1, hE2⟩ := permV_snoc hlt hj hjs hjt
      have HE1 := hid hE1
      have HE2 := hid hE2
      have HLN := hid (show (permV V (O.take k)).shape.length ≤ 1000000000000 by have := permV_len V O k; omega)
      have HLM := hid (show (permV V (O.take k)).strides.length ≤ 1000000000000 by have := permV_len V O k; omega)
      have HJ := hid hj
      clear hE1 hE2 hj
      obtain ⟨Sa, Sc, eS⟩ := hG.s.form
      obtain ⟨Ta, Tc, eT⟩ := hG.t.form
      subst eS eT
      have HH := hid (HB2.out)
      have hWo : Below wr.heap.size wr (wr.alloc (.cells #[.int .i64 V.shape[j]] 3)).drew := (below_lit1 wr _).drew
      have hWc : (wr.alloc (.cells #[.int .i64 V.shape[j]] 3)).drew.cell? ⟨wr.heap.size, 0, none⟩ = some (.int .i64 V.shape[j]) := cell_new1 wr _ _
      have hWB : B ≤ (wr.alloc (.cells #[.int .i64 V.shape[j]] 3)).drew.heap.size := by have := HZ.out; simp; omega
      obtain ⟨⟨g0, g1, g2⟩, -⟩ := id hG.box.all3
      go_upto_region 5 with fail
      go_cut [6] from 10 to 41 (fun v4 wx => v4 = .int .i64 k ∧ Mid w wx B B (B + 1) V.base (.slice (some ⟨bs, os, none⟩) V.shape.length cs) (.slice (some ⟨bt, ot, none⟩) V.strides.length ct) V.base ((permV V (O.take k)).shape ++ [V.shape[j]]) (permV V (O.take k)).strides)
      case first =>
        obtain ⟨⟨gg0, gg1, gg2⟩, -⟩ := (hG.box.alloc (.cells #[.int .i64 V.shape[j]] 3)).all3
        obtain ⟨⟨qq0, qq1, qq2⟩, -⟩ := (hAr.alloc (.cells #[.int .i64 V.shape[j]] 3)).all3
        have hxs' : (wr.alloc (.cells #[.int .i64 V.shape[j]] 3)).cell? ⟨bs, os + j, none⟩ = some (.int .i64 V.shape[j]) := ((hb.nx (below_alloc wr _) hb.size).cell (p := ⟨bs, os + j, none⟩) hbs).trans (by have := hb.cell (p := ⟨bs, os + j, none⟩) hbs; rw [← this]; exact hxs)
        have hxo' : (wr.alloc (.cells #[.int .i64 V.shape[j]] 3)).cell? ⟨bo, oo + k, none⟩ = some (.int .i64 (j : Int)) := ((hb.nx (below_alloc wr _) hb.size).cell (p := ⟨bo, oo + k, none⟩) hbo).trans (by have := hb.cell (p := ⟨bo, oo + k, none⟩) hbo; rw [← this]; exact hxo)
        go_region_law (refine step1 _ (by rfl) _ _ (by rfl) B _ _ (by rfl) (hG.s.nx hWo) ⟨wr.heap.size, 0, none⟩ 1 V.shape[j] (by rfl) hWc HLN.out hWB ?_; intro s1 w1 ho1 hg1 hat1; have hB1 := hG.boxS hWo hg1; obtain ⟨⟨b0, b1, b2⟩, bf0, bf1, bf2⟩ := id hB1.all3; obtain ⟨As1, cs1, es1⟩ := ho1.form; subst es1)
        all_goals (go_wp2_with fail; go_meet; simp only [List.length_append, List.length_cons, List.length_nil, Nat.zero_add] at ho1 hat1; exact ⟨rfl, Mid.of_s hG hWo ho1 hg1 hat1 hb HH.out (by omega) HZ.out (by have := HZ.out; omega) hAr hRr⟩)
      case rest =>
        obtain ⟨rfl, s2, t2, hG, hb, hAr, hRr, hzr⟩ := hcut
        clear hWc hWB hWo
        obtain ⟨Sa2, Sc2, eS⟩ := hG.s.form
        obtain ⟨Ta2, Tc2, eT⟩ := hG.t.form
        subst eS eT
        have HZ2 := hid hzr
        clear hzr
        have hxo := (hb.cell (p := ⟨bo, oo + k, none⟩) hbo).trans hxo1
        have hxt := (hb.cell (p := ⟨bt, ot + j, none⟩) hbt).trans hxt1
        have hWo : Below wc.heap.size wc (wc.alloc (.cells #[.int .i64 V.strides[j]] 3)).drew := (below_lit1 wc _).drew
        have hWc : (wc.alloc (.cells #[.int .i64 V.strides[j]] 3)).drew.cell? ⟨wc.heap.size, 0, none⟩ = some (.int .i64 V.strides[j]) := cell_new1 wc _ _
        have hWB : B ≤ (wc.alloc (.cells #[.int .i64 V.strides[j]] 3)).drew.heap.size := by have := HZ2.out; simp; omega
        obtain ⟨⟨q0, q1, q2⟩, -⟩ := id hAr.all3
        obtain ⟨⟨g0, g1, g2⟩, -⟩ := id hG.box.all3
        obtain ⟨⟨gg0, gg1, gg2⟩, -⟩ := (hG.box.alloc (.cells #[.int .i64 V.strides[j]] 3)).all3
        obtain ⟨⟨qq0, qq1, qq2⟩, -⟩ := (hAr.alloc (.cells #[.int .i64 V.strides[j]] 3)).all3
        have hxt' : (wc.alloc (.cells #[.int .i64 V.strides[j]] 3)).cell? ⟨bt, ot + j, none⟩ = some (.int .i64 V.strides[j]) := ((hb.nx (below_alloc wc _) hb.size).cell (p := ⟨bt, ot + j, none⟩) hbt).trans (by have := hb.cell (p := ⟨bt, ot + j, none⟩) hbt; rw [← this]; exact hxt)
        have hxo' : (wc.alloc (.cells #[.int .i64 V.strides[j]] 3)).cell? ⟨bo, oo + k, none⟩ = some (.int .i64 (j : Int)) := ((hb.nx (below_alloc wc _) hb.size).cell (p := ⟨bo, oo + k, none⟩) hbo).trans (by have := hb.cell (p := ⟨bo, oo + k, none⟩) hbo; rw [← this]; exact hxo)
        go_upto_region 6 with fail
        go_region_law (refine step1 _ (by rfl) _ _ (by rfl) B _ _ (by rfl) (hG.t.nx hWo) ⟨wc.heap.size, 0, none⟩ 1 V.strides[j] (by rfl) hWc HLM.out hWB ?_; intro s1 w1 ho1 hg1 hat1; have hB1 := hG.boxT hWo hg1; obtain ⟨⟨b0, b1, b2⟩, bf0, bf1, bf2⟩ := id hB1.all3; obtain ⟨As1, cs1, es1⟩ := ho1.form; subst es1)
        all_goals
          have hM := Mid.of_t (N := B + 1) hG hWo ho1 hg1 hat1 hb HH.out (by omega) HZ2.out (by have := HZ2.out; omega) hAr hRr
          have HMM := hid hM
          clear hM hWc hWB hWo hxt' hxo' ho1 hat1 hB1 b0 b1 b2 bf0 bf1 bf2
          go_wp2_with fail
          go_roundg (O.length - (k + 1))
          case measure => have := HM.out; omega
          case rel => exact ⟨k + 1, by omega, rfl, by go_num, by rw [HE1.out, HE2.out]; simpa using HMM.out⟩
    · have hkl : k = O.length := by omega
      subst hkl
      obtain ⟨Sa, Sc, eS⟩ := hG.s.form
      obtain ⟨Ta, Tc, eT⟩ := hG.t.form
      subst eS eT
      obtain ⟨⟨g0, g1, g2⟩, gf0, gf1, gf2⟩ := id hG.box.all3
      obtain ⟨⟨r0, r1, r2⟩, rf0, rf1, rf2⟩ := id hRr.all3
      have HG := hid hG
      clear hG
      have hBn := HB2.out
      go_wp2
      refine bodyPost_ret (v := .agg #[.int .i64 V.base, .slice Sa (permV V (O.take O.length)).shape.length Sc, .slice Ta (permV V (O.take O.length)).strides.length Tc]) (by simp [results, Try.results137, go_sem, r0, r1, r2]) rfl ?_
      have hG := HG.out
      rw [List.take_length] at hG ⊢
      exact ⟨_, _, rfl, (own3b hG.s (show w.heap.size + 1 < B by omega) _ _ _).mono (by omega), (own3b hG.t (show w.heap.size + 1 < B by omega) _ _ _).mono (by omega), hG.sep, below3 hb (by omega) _ _ _⟩

end Go.Proofs.Ytldblcolnjkcaaa

/-! ## DS2 -/
namespace Go.Proofs.Ytldblcolnjkcaaa
open Go.RowKit

def rgBd (R : RL) : Prop := (-102 ≤ R.a ∧ R.a ≤ 102) ∧ (-102 ≤ R.b ∧ R.b ≤ 102) ∧ (-201 ≤ R.s ∧ R.s ≤ 201)
/-- What drawing a range leaves. -/
def RetRangeR (N g p : Nat) (w : World) (e : Ending) (w' : World) : Prop := ∃ (R : RL) (q : Nat), e = .returned R.val ∧ rgBd R ∧ q ≤ p + 10 ∧ Rd N w' g q ∧ w.grownBy w' (some g)
theorem range_fin {N g p q : Nat} {w wx : World} {T : TypeId} {z cs : Array Value} {t : Nat} (h : DBox N g w T z t wx q cs) (R : RL) (hb : rgBd R) (hq : q ≤ p + 10) (a b c : Value) :
    RetRangeR N g p w (.returned R.val) (((wx.setCell ⟨w.heap.size, 0, none⟩ a).setCell ⟨w.heap.size, 1, none⟩ b).setCell ⟨w.heap.size, 2, none⟩ c) := by
  have hg := h.1.1
  obtain ⟨r1, g1⟩ := DBox.fin h.rd hg h.2.2.1 0 a
  obtain ⟨r2, g2⟩ := DBox.fin r1 hg g1 1 b
  obtain ⟨r3, g3⟩ := DBox.fin r2 hg g2 2 c
  exact ⟨R, q, rfl, hb, hq, r3, g3⟩
theorem DBox.put3 {N g t q : Nat} {w wx : World} {T : TypeId} {z : Array Value} {a b c : Value} (h : DBox N g w T z t wx q #[a, b, c]) (x y u : Value) : DBox N g w T z t (((wx.setCell ⟨t, 0, none⟩ x).setCell ⟨t, 1, none⟩ y).setCell ⟨t, 2, none⟩ u) q #[x, y, u] := by
  have := ((h.put 0 x).put 1 y).put 2 u
  simpa using this

set_option maxRecDepth 100000 in
set_option maxHeartbeats 6400000 in
theorem someRange_any (N g p : Nat) (w : World) (h : Rd N w g p) (hp : p ≤ 900000) :
    Calls Try.prog 119 #[.pointer (some ⟨g, 0, none⟩)] w (RetRangeR N g p w) := by
  have HM0 := hid (DRes.start h 56 #[.int .i64 0, .int .i64 0, .int .i64 0])
  obtain ⟨m, hm⟩ : ∃ m, m = w.heap.size := ⟨_, rfl⟩
  have HMm := hid hm
  go_enter Try.func119, Try.ntmps119
  go_upto_region 1 with fail
  rw [← hm]
  clear hm h
  generalize w.alloc (.cells #[.int .i64 0, .int .i64 0, .int .i64 0] 56) = w0 at *
  go_wp2_with fail
  refine (pick_any _ _ (p) 40 _ HM0.out.rd (by omega) (by omega)).mono ?_; rintro e w1 ⟨r1, rfl, hr1, hR, hG⟩
  have HM1 := hid (HM0.out.ate hR hG)
  clear hR hG
  have hw1 : IntKind.i64.wrap ((r1 : Int) - 20) = (r1 : Int) - 20 := IntWalk.i64_in _ (by omega)
  have hL : Own (w1.alloc (.cells #[.int .i64 0, .int .i64 1, .int .i64 (-3), .int .i64 5, .int .i64 ((r1 : Int) - 20)] 3)) w1.heap.size (.slice (some ⟨w1.heap.size, 0, none⟩) 5 5) [0, 1, -3, 5, ((r1 : Int) - 20)] := own_lit w1 [0, 1, -3, 5, ((r1 : Int) - 20)] (by simp)
  have HA := hid (HM1.out.nx (below_alloc w1 (.cells #[.int .i64 0, .int .i64 1, .int .i64 (-3), .int .i64 5, .int .i64 ((r1 : Int) - 20)] 3)))
  have HE := hid (HM1.out.rd.lit 5 5)
  go_wp2_with fail
  refine (one_any _ _ (p + 1) _ _ _ _ HA.out.rd (by omega) hL (by simp) HE.out).mono ?_; rintro e w2 ⟨r, hr, rfl, hR, hG⟩
  have HM2 := hid (HA.out.ate hR hG)
  obtain ⟨y1, ey, hy1⟩ : ∃ y : Int, [0, 1, -3, 5, ((r1 : Int) - 20)][r] = y ∧ y ∈ ([0, 1, -3, 5, ((r1 : Int) - 20)] : List Int) := ⟨_, rfl, List.getElem_mem hr⟩
  rw [ey]
  clear hR hG ey hr hL HA HE
  have hy1 : -20 ≤ y1 ∧ y1 ≤ 20 := by simp at hy1; omega
  have HY1 := hid hy1
  clear hy1 hw1
  go_wp2_with fail
  refine (pick_any _ _ (p + 2) 60 _ HM2.out.rd (by omega) (by omega)).mono ?_; rintro e w3 ⟨r2, rfl, hr2, hR, hG⟩
  have HM3 := hid (HM2.out.ate hR hG)
  clear hR hG
  have hw2 : IntKind.i64.wrap ((r2 : Int) - 30) = (r2 : Int) - 30 := IntWalk.i64_in _ (by omega)
  have hL : Own (w3.alloc (.cells #[.int .i64 10, .int .i64 7, .int .i64 20, .int .i64 (-8), .int .i64 ((r2 : Int) - 30)] 3)) w3.heap.size (.slice (some ⟨w3.heap.size, 0, none⟩) 5 5) [10, 7, 20, -8, ((r2 : Int) - 30)] := own_lit w3 [10, 7, 20, -8, ((r2 : Int) - 30)] (by simp)
  have HA := hid (HM3.out.nx (below_alloc w3 (.cells #[.int .i64 10, .int .i64 7, .int .i64 20, .int .i64 (-8), .int .i64 ((r2 : Int) - 30)] 3)))
  have HE := hid (HM3.out.rd.lit 5 5)
  go_wp2_with fail
  refine (one_any _ _ (p + 3) _ _ _ _ HA.out.rd (by omega) hL (by simp) HE.out).mono ?_; rintro e w4 ⟨r, hr, rfl, hR, hG⟩
  have HM4 := hid (HA.out.ate hR hG)
  obtain ⟨y2, ey, hy2⟩ : ∃ y : Int, [10, 7, 20, -8, ((r2 : Int) - 30)][r] = y ∧ y ∈ ([10, 7, 20, -8, ((r2 : Int) - 30)] : List Int) := ⟨_, rfl, List.getElem_mem hr⟩
  rw [ey]
  clear hR hG ey hr hL HA HE
  have hy2 : -30 ≤ y2 ∧ y2 ≤ 30 := by simp at hy2; omega
  have HY2 := hid hy2
  clear hy2 hw2
  have hL : Own (w4.alloc (.cells #[.int .i64 1, .int .i64 2, .int .i64 3, .int .i64 (-1), .int .i64 (-2), .int .i64 4, .int .i64 (-5), .int .i64 6, .int .i64 9] 3)) w4.heap.size (.slice (some ⟨w4.heap.size, 0, none⟩) 9 9) [1, 2, 3, -1, -2, 4, -5, 6, 9] := own_lit w4 [1, 2, 3, -1, -2, 4, -5, 6, 9] (by simp)
  have HA := hid (HM4.out.nx (below_alloc w4 (.cells #[.int .i64 1, .int .i64 2, .int .i64 3, .int .i64 (-1), .int .i64 (-2), .int .i64 4, .int .i64 (-5), .int .i64 6, .int .i64 9] 3)))
  have HE := hid (HM4.out.rd.lit 9 9)
  go_wp2_with fail
  refine (one_any _ _ (p + 4) _ _ _ _ HA.out.rd (by omega) hL (by simp) HE.out).mono ?_; rintro e w5 ⟨r, hr, rfl, hR, hG⟩
  have HM5 := hid (HA.out.ate hR hG)
  obtain ⟨y3, ey, hy3⟩ : ∃ y : Int, [1, 2, 3, -1, -2, 4, -5, 6, 9][r] = y ∧ y ∈ ([1, 2, 3, -1, -2, 4, -5, 6, 9] : List Int) := ⟨_, rfl, List.getElem_mem hr⟩
  rw [ey]
  clear hR hG ey hr hL HA HE
  have hy3 : -5 ≤ y3 ∧ y3 ≤ 9 := by simp at hy3; omega
  have HY3 := hid hy3
  clear hy3
  have HB := hid (HM5.out.box #[.int .i64 y1, .int .i64 y2, .int .i64 y3])
  obtain ⟨t, ht⟩ : ∃ t, t = w5.heap.size := ⟨_, rfl⟩
  go_upto_region 2 with fail
  rw [← ht] at HB ⊢
  clear ht HM0 HM1 HM2 HM3 HM4 HM5
  generalize w5.alloc (.cells #[.int .i64 y1, .int .i64 y2, .int .i64 y3] 56) = w1 at *
  have HM1 := HB
  obtain ⟨⟨c0, c1, c2⟩, cf0, cf1, cf2⟩ := HM1.out.blk.all3
  go_cut [27] (fun c wx => ∃ (cb : Bool) (q : Nat), c = .bool cb ∧ q ≤ p + 6 ∧ Hid (DBox N g w 56 #[.int .i64 0, .int .i64 0, .int .i64 0] t wx q #[.int .i64 y1, .int .i64 y2, .int .i64 y3]))
  case first =>
    by_cases hs : y3 < 0
    · go_wp2_with fail
      refine (pick_any _ _ (p + 5) 3 _ HM1.out.rd (by omega) (by omega)).mono ?_; rintro e w2 ⟨r3, rfl, hr3, hR, hG⟩
      have HM2 := hid (HM1.out.ate hR hG)
      clear hR hG
      go_wp2_with fail
      go_meet
      exact ⟨_, p + 5 + 1, rfl, by omega, HM2⟩
    · go_wp2_with fail
      go_meet
      exact ⟨false, p + 4 + 1, rfl, by omega, HM1⟩
  case rest =>
  obtain ⟨cb, q0, rfl, hq0, HM2⟩ := hcut
  obtain ⟨w2, rfl⟩ : ∃ w2, w2 = wc := ⟨_, rfl⟩
  clear c0 c1 c2 cf0 cf1 cf2 HM1 HB
  obtain ⟨⟨c0, c1, c2⟩, cf0, cf1, cf2⟩ := HM2.out.blk.all3
  go_upto_if 27 with fail
  go_cut [] (fun wx => ∃ (f1 f2 f3 : Int) (q : Nat), ((-30 ≤ f1 ∧ f1 ≤ 30) ∧ (-30 ≤ f2 ∧ f2 ≤ 30) ∧ (-5 ≤ f3 ∧ f3 ≤ 9)) ∧ q ≤ p + 6 ∧ Hid (DBox N g w 56 #[.int .i64 0, .int .i64 0, .int .i64 0] t wx q #[.int .i64 f1, .int .i64 f2, .int .i64 f3]))
  case first =>
    cases cb
    · go_wp2_with fail
      go_meet
      exact ⟨y1, y2, y3, q0, by have := HY1.out; have := HY2.out; have := HY3.out; omega, hq0, HM2⟩
    · have HM3 := hid (HM2.out.put3 (.int .i64 y2) (.int .i64 y1) (.int .i64 y3))
      go_wp2_with fail
      go_meet
      exact ⟨y2, y1, y3, q0, by have := HY1.out; have := HY2.out; have := HY3.out; omega, hq0, HM3⟩
  case rest =>
    obtain ⟨f1, f2, f3, q1, hf, hq1, HM4⟩ := hcut
    obtain ⟨w4, rfl⟩ : ∃ w4, w4 = wc := ⟨_, rfl⟩
    have HF1 := hid hf.1
    have HF2 := hid hf.2.1
    have HF3 := hid hf.2.2
    clear hf c0 c1 c2 cf0 cf1 cf2 HM2
    go_wp2_with fail
    refine (pick_any _ _ (q1) 24 _ HM4.out.rd (by omega) (by omega)).mono ?_; rintro e w5 ⟨r, rfl, hr, hR, hG⟩
    have HM5 := hid (HM4.out.ate hR hG)
    clear hR hG
    by_cases h0 : r = 0
    · have h0i : ((r : Int) == 0) = true := by simp [h0]
      clear h0
      have hL : Own (w5.alloc (.cells #[.int .i64 0, .int .i64 201, .int .i64 (-201)] 3)) w5.heap.size (.slice (some ⟨w5.heap.size, 0, none⟩) 3 3) [0, 201, -201] := own_lit w5 [0, 201, -201] (by simp)
      have HA := hid (HM5.out.nx (below_alloc w5 (.cells #[.int .i64 0, .int .i64 201, .int .i64 (-201)] 3)))
      have HE := hid (HM5.out.rd.lit 3 3)
      go_wp2_with fail
      refine (one_any _ _ (q1 + 1) _ _ _ _ HA.out.rd (by omega) hL (by simp) HE.out).mono ?_; rintro e w6 ⟨r, hr, rfl, hR, hG⟩
      have HM6 := hid (HA.out.ate hR hG)
      obtain ⟨x, ey, hx⟩ : ∃ y : Int, [0, 201, -201][r] = y ∧ y ∈ ([0, 201, -201] : List Int) := ⟨_, rfl, List.getElem_mem hr⟩
      rw [ey]
      clear hR hG ey hr hL HA HE
      have hx : -201 ≤ x ∧ x ≤ 201 := by simp at hx; omega
      have HX := hid hx
      obtain ⟨⟨c0, c1, c2⟩, cf0, cf1, cf2⟩ := HM6.out.blk.all3
      have HM7 := hid (HM6.out.put 2 (.int .i64 x))
      simp only [List.setIfInBounds_toArray, List.set_cons_zero, List.set_cons_succ] at HM7
      go_upto_region 11 with fail
      clear c0 c1 c2 cf0 cf1 cf2 hx
      generalize w6.setCell ⟨t, 2, none⟩ (.int .i64 x) = w7 at *
      obtain ⟨⟨c0, c1, c2⟩, -⟩ := id HM7.out.blk.all3
      have hres := HM7.out.res
      rw [← HMm.out] at hres
      obtain ⟨⟨s0, s1, s2⟩, sf0, sf1, sf2⟩ := id hres.all3
      obtain ⟨⟨t0, t1, t2⟩, -⟩ := (hres.store3 (.int .i64 f1) (.int .i64 f2) (.int .i64 x)).all3
      clear hres
      go_wp2
      refine bodyPost_ret (v := .agg #[.int .i64 f1, .int .i64 f2, .int .i64 x]) (by simp [results, Try.results119, go_sem, t0, t1, t2]) rfl ?_
      rw [HMm.out]
      exact range_fin HM7.out ⟨f1, f2, x⟩ (by have := HF1.out; have := HF2.out; have := HF3.out; have := HX.out; refine ⟨?_, ?_, ?_⟩ <;> simp only <;> omega) (by omega) _ _ _
    · have h0i : ((r : Int) == 0) = false := by simp; omega
      by_cases h1 : r = 1
      · have h1i : ((r : Int) == 1) = true := by simp [h1]
        clear h0 h1
        have hL : Own (w5.alloc (.cells #[.int .i64 101, .int .i64 (-101), .int .i64 100] 3)) w5.heap.size (.slice (some ⟨w5.heap.size, 0, none⟩) 3 3) [101, -101, 100] := own_lit w5 [101, -101, 100] (by simp)
        have HA := hid (HM5.out.nx (below_alloc w5 (.cells #[.int .i64 101, .int .i64 (-101), .int .i64 100] 3)))
        have HE := hid (HM5.out.rd.lit 3 3)
        go_wp2_with fail
        refine (one_any _ _ (q1 + 1) _ _ _ _ HA.out.rd (by omega) hL (by simp) HE.out).mono ?_; rintro e w6 ⟨r, hr, rfl, hR, hG⟩
        have HM6 := hid (HA.out.ate hR hG)
        obtain ⟨x, ey, hx⟩ : ∃ y : Int, [101, -101, 100][r] = y ∧ y ∈ ([101, -101, 100] : List Int) := ⟨_, rfl, List.getElem_mem hr⟩
        rw [ey]
        clear hR hG ey hr hL HA HE
        have hx : -101 ≤ x ∧ x ≤ 101 := by simp at hx; omega
        have HX := hid hx
        obtain ⟨⟨c0, c1, c2⟩, cf0, cf1, cf2⟩ := HM6.out.blk.all3
        have HM7 := hid (HM6.out.put 0 (.int .i64 x))
        simp only [List.setIfInBounds_toArray, List.set_cons_zero] at HM7
        go_upto_region 11 with fail
        clear c0 c1 c2 cf0 cf1 cf2 hx
        generalize w6.setCell ⟨t, 0, none⟩ (.int .i64 x) = w7 at *
        obtain ⟨⟨c0, c1, c2⟩, -⟩ := id HM7.out.blk.all3
        have hres := HM7.out.res
        rw [← HMm.out] at hres
        obtain ⟨⟨s0, s1, s2⟩, sf0, sf1, sf2⟩ := id hres.all3
        obtain ⟨⟨t0, t1, t2⟩, -⟩ := (hres.store3 (.int .i64 x) (.int .i64 f2) (.int .i64 f3)).all3
        clear hres
        go_wp2
        refine bodyPost_ret (v := .agg #[.int .i64 x, .int .i64 f2, .int .i64 f3]) (by simp [results, Try.results119, go_sem, t0, t1, t2]) rfl ?_
        rw [HMm.out]
        exact range_fin HM7.out ⟨x, f2, f3⟩ (by have := HF1.out; have := HF2.out; have := HF3.out; have := HX.out; refine ⟨?_, ?_, ?_⟩ <;> simp only <;> omega) (by omega) _ _ _
      · have h1i : ((r : Int) == 1) = false := by simp; omega
        by_cases h2 : r = 2
        · have h2i : ((r : Int) == 2) = true := by simp [h2]
          clear h0 h1 h2
          have hL : Own (w5.alloc (.cells #[.int .i64 102, .int .i64 (-102), .int .i64 101] 3)) w5.heap.size (.slice (some ⟨w5.heap.size, 0, none⟩) 3 3) [102, -102, 101] := own_lit w5 [102, -102, 101] (by simp)
          have HA := hid (HM5.out.nx (below_alloc w5 (.cells #[.int .i64 102, .int .i64 (-102), .int .i64 101] 3)))
          have HE := hid (HM5.out.rd.lit 3 3)
          go_wp2_with fail
          refine (one_any _ _ (q1 + 1) _ _ _ _ HA.out.rd (by omega) hL (by simp) HE.out).mono ?_; rintro e w6 ⟨r, hr, rfl, hR, hG⟩
          have HM6 := hid (HA.out.ate hR hG)
          obtain ⟨x, ey, hx⟩ : ∃ y : Int, [102, -102, 101][r] = y ∧ y ∈ ([102, -102, 101] : List Int) := ⟨_, rfl, List.getElem_mem hr⟩
          rw [ey]
          clear hR hG ey hr hL HA HE
          have hx : -102 ≤ x ∧ x ≤ 102 := by simp at hx; omega
          have HX := hid hx
          obtain ⟨⟨c0, c1, c2⟩, cf0, cf1, cf2⟩ := HM6.out.blk.all3
          have HM7 := hid (HM6.out.put 1 (.int .i64 x))
          simp only [List.setIfInBounds_toArray, List.set_cons_zero, List.set_cons_succ] at HM7
          go_upto_region 11 with fail
          clear c0 c1 c2 cf0 cf1 cf2 hx
          generalize w6.setCell ⟨t, 1, none⟩ (.int .i64 x) = w7 at *
          obtain ⟨⟨c0, c1, c2⟩, -⟩ := id HM7.out.blk.all3
          have hres := HM7.out.res
          rw [← HMm.out] at hres
          obtain ⟨⟨s0, s1, s2⟩, sf0, sf1, sf2⟩ := id hres.all3
          obtain ⟨⟨t0, t1, t2⟩, -⟩ := (hres.store3 (.int .i64 f1) (.int .i64 x) (.int .i64 f3)).all3
          clear hres
          go_wp2
          refine bodyPost_ret (v := .agg #[.int .i64 f1, .int .i64 x, .int .i64 f3]) (by simp [results, Try.results119, go_sem, t0, t1, t2]) rfl ?_
          rw [HMm.out]
          exact range_fin HM7.out ⟨f1, x, f3⟩ (by have := HF1.out; have := HF2.out; have := HF3.out; have := HX.out; refine ⟨?_, ?_, ?_⟩ <;> simp only <;> omega) (by omega) _ _ _
        · have h2i : ((r : Int) == 2) = false := by simp; omega
          clear h0 h1 h2
          go_upto_region 11 with fail
          obtain ⟨⟨c0, c1, c2⟩, -⟩ := id HM5.out.blk.all3
          have hres := HM5.out.res
          rw [← HMm.out] at hres
          obtain ⟨⟨s0, s1, s2⟩, sf0, sf1, sf2⟩ := id hres.all3
          obtain ⟨⟨t0, t1, t2⟩, -⟩ := (hres.store3 (.int .i64 f1) (.int .i64 f2) (.int .i64 f3)).all3
          clear hres
          go_wp2
          refine bodyPost_ret (v := .agg #[.int .i64 f1, .int .i64 f2, .int .i64 f3]) (by simp [results, Try.results119, go_sem, t0, t1, t2]) rfl ?_
          rw [HMm.out]
          exact range_fin HM5.out ⟨f1, f2, f3⟩ (by have := HF1.out; have := HF2.out; have := HF3.out; refine ⟨?_, ?_, ?_⟩ <;> simp only <;> omega) (by omega) _ _ _

end Go.Proofs.Ytldblcolnjkcaaa
