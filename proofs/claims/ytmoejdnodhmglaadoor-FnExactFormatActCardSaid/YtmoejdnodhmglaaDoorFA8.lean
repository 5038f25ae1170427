/- From the listed tables to what the walk reads. No conditions. -/
import Derived.Test.YtmoejdnodhmglaaDoorFA7
import Derived.Test.YtmoejdnodhmglaaDoorOpA
import Derived.Lib.LaidTab
namespace Go.Proofs.YtmoejdnodhmglaaDoor
open Go.ChangeShapes Go.WideShapes Go.ChangeAt Go.RowKit Go.Joins Go.Deep

theorem gNames : Tryd.prog.globalNamed "loop.example/strideviews/impl.actNames" = some 0 := by kernel_rfl
theorem gCounts : Tryd.prog.globalNamed "loop.example/strideviews/impl.actCounts" = some 1 := by kernel_rfl
theorem gPow : Tryd.prog.globalNamed "internal/strconv.uint64pow10" = some 2 := by kernel_rfl
theorem tNames : (Tryd.prog.globals[0]?).map (·.type) = some 37 := by kernel_rfl
theorem tCounts : (Tryd.prog.globals[1]?).map (·.type) = some 43 := by kernel_rfl
theorem tPow : (Tryd.prog.globals[2]?).map (·.type) = some 56 := by kernel_rfl

theorem cellOn {w w' : World} (hb : Below w.heap.size w w') {a : Addr} {v : Value} (hc : w.cell? a = some v) : w'.cell? a = some v := (hb.cell (World.block_lt_of_cell? w a hc)).trans hc
theorem tabOn {P : Program} {n : String} {g : Nat} {k : IntKind} {zs : List Int} {w w' : World} (hg : P.globalNamed n = some g) (h : Lib.TabIs P w n k zs) (hb : Below w.heap.size w w') : Lib.TabIs P w' n k zs := by
  have hlt : g < w.heap.size := by
    rcases Nat.lt_or_ge g w.heap.size with h' | h'
    · exact h'
    · simp [Lib.TabIs, World.var?, hg, Array.getElem?_eq_none h'] at h
  unfold Lib.TabIs at h ⊢
  rw [← h]
  simp only [World.var?, hg, Option.bind_some, hb.block g hlt]

/-- An array of strings that reads as these holds these. -/
theorem cells_of_strs {H : Type} {enc : TypeId × Value → H} {P : Program} {w : World} {base : Nat} {sp : Nat → Bool} {held : Bool} {fuel : Nat} {t e : TypeId} {n : Nat} {cs : List Value} {zs : List (List UInt8)} {p : List MemPlace}
    (ht : P.underlying t = some (.array n e)) (he : P.underlying e = some .string) (hce : P.cellsOf e = 1) (hct : P.cellsOf t = n)
    (h : DataW.trod enc P w base sp held fuel t cs = some (.agg (zs.map fun z => .lit (.string z)), p)) : cs = zs.map fun z => Value.string (bs z) := by
  cases fuel with
  | zero => simp [DataW.trod] at h
  | succ fuel =>
    simp only [DataW.trod, ht, hce, hct, Nat.mul_one] at h
    split at h
    · rename_i hl
      obtain ⟨xs, hm, hx⟩ := Option.map_eq_some_iff.1 h
      have hxs : xs.map (·.1) = zs.map fun z => (DataW.lit (.string z) : DataW H) := by
        have := congrArg Prod.fst hx
        simpa using this
      have hxl : xs.length = n := by simpa using Lib.mapM_length hm
      have hzl : zs.length = n := by
        have := congrArg List.length hxs
        simp at this
        omega
      apply List.ext_getElem?
      intro i
      by_cases hi : i < n
      · obtain ⟨b, hb, hf⟩ := Lib.mapM_at hm i i (by simp [hi])
        obtain ⟨z, hc, rfl, _⟩ := DataW.trod_string he hf
        have h1 : cs[i]? = some (.string z) := by
          have := congrArg (·[0]?) hc
          simpa [List.getElem?_take, List.getElem?_drop] using this
        have h2 : (xs.map (·.1))[i]? = some (DataW.lit (.string z.data.toList) : DataW H) := by simp [hb]
        rw [hxs] at h2
        simp only [List.getElem?_map, Option.map_eq_some_iff, DataW.lit.injEq, Lit.string.injEq] at h2
        obtain ⟨z', hz', e2⟩ := h2
        rw [h1, List.getElem?_map, hz', Option.map_some, e2]
        rfl
      · rw [List.getElem?_eq_none (by omega), List.getElem?_eq_none (by simp; omega)]
    · cases h

def wordL : List (List UInt8) := [[115, 105, 122, 101], [118, 105, 101, 119], [112, 97, 114, 116], [102, 108, 105, 112], [102, 105, 108, 108], [99, 111, 112, 121], [108, 111, 97, 100], [102, 114, 101, 101]]

set_option maxRecDepth 100000 in
theorem tabs_of_laid {W : World} (h : laidMet Tryd.prog Rows.fnExactFormatActRow.laid W) : Tabs W := by
  obtain ⟨ps, ⟨g0, t0, cs0, f0, p0, q0, _, _, _, _, ⟨g1, t1, cs1, f1, p1, q1, _, _, _, _, ⟨g2, t2, cs2, f2, p2, q2, hg2, ht2, hv2, hd2, ⟨g3, t3, cs3, f3, p3, q3, hg3, ht3, hv3, hd3, ⟨g4, t4, cs4, f4, p4, q4, hg4, ht4, hv4, hd4, _, _⟩, _⟩, _⟩, _⟩, _⟩, _, _⟩ := h
  obtain rfl := Option.some.inj (gPow.symm.trans hg2)
  obtain rfl := Option.some.inj (tPow.symm.trans ht2)
  obtain rfl := Option.some.inj (gNames.symm.trans hg3)
  obtain rfl := Option.some.inj (tNames.symm.trans ht3)
  obtain rfl := Option.some.inj (gCounts.symm.trans hg4)
  obtain rfl := Option.some.inj (tCounts.symm.trans ht4)
  have e2 := Lib.cells_of_tab (k := .u64) (zs := Lib.pow10Tab) Tryd.underlying56 Tryd.underlying49 (by kernel_rfl) (by kernel_rfl) (p := p2) (by rw [hd2]; kernel_rfl)
  have e3 := cells_of_strs (zs := wordL) Tryd.underlying37 Tryd.underlying9 (by kernel_rfl) (by kernel_rfl) (p := p3) (by rw [hd3]; kernel_rfl)
  have e4 := Lib.cells_of_tab (k := .i64) (zs := counts) Tryd.underlying43 Tryd.underlying3 (by kernel_rfl) (by kernel_rfl) (p := p4) (by rw [hd4]; kernel_rfl)
  have hP : Lib.TabIs Tryd.prog W "internal/strconv.uint64pow10" .u64 Lib.pow10Tab := by unfold Lib.TabIs; rw [hv2, ← e2]
  have hN : ∀ m, m < 8 → W.cell? ⟨0, m, none⟩ = some (.string (words.getD m ⟨#[]⟩)) := fun m hm => by
    rw [World.var?_cell gNames hv3 m]
    obtain ⟨l3⟩ := cs3
    simp only at e3
    subst e3
    rcases eight hm with rfl | rfl | rfl | rfl | rfl | rfl | rfl | rfl <;> rfl
  have hC : ∀ m, m < 8 → W.cell? ⟨1, m, none⟩ = some (.int .i64 (counts.getD m 0)) := fun m hm => by
    rw [World.var?_cell gCounts hv4 m]
    obtain ⟨l4⟩ := cs4
    simp only at e4
    subst e4
    rcases eight hm with rfl | rfl | rfl | rfl | rfl | rfl | rfl | rfl <;> rfl
  refine fun w' hb => ⟨tabOn gPow hP hb, fun m hm => cellOn hb (hN m hm), fun m hm => cellOn hb (hC m hm)⟩

end Go.Proofs.YtmoejdnodhmglaaDoor
