/- The region rule's entries for views that a call makes. No conditions. -/
import Derived.Test.YtfiphjifnjnmbaaGw
import Derived.Test.YtfiphjifnjnmbaaT0
import Derived.Test.YtfiphjifnjnmbaaV7
namespace Go.Proofs.Ytfiphjifnjnmbaa
open Go.RowKit

def holds2 (s t : Value) (b : Nat) : Prop := s.ownBlock = some b ∨ t.ownBlock = some b
def viewOk (N : Nat) (V : VL) (w : World) (s t : Value) : Prop := Own w N s V.shape ∧ Own w N t V.strides ∧ Sep s t
theorem viewOk.nx {N : Nat} {V : VL} {w w' : World} {s t : Value} (h : viewOk N V w s t) (hb : Below w.heap.size w w') : viewOk N V w' s t := ⟨h.1.ext hb, h.2.1.ext hb, h.2.2⟩
theorem viewOk.lt {N : Nat} {V : VL} {w : World} {s t : Value} (h : viewOk N V w s t) {b : Nat} (hb : holds2 s t b) : N ≤ b ∧ b < w.heap.size := by
  rcases hb with hb | hb
  · exact h.1.lt b hb
  · exact h.2.1.lt b hb
/-- Between two blocks of the two rows. -/
def within2 (s t : Value) (b : Nat) : Prop := ∃ i j, holds2 s t i ∧ holds2 s t j ∧ i ≤ b ∧ b ≤ j
def Ent.view (f : Value → Value) (N : Nat) (V : VL) : Ent :=
  ⟨fun _ w v => ∃ s t, v = f (.agg #[.int .i64 V.base, s, t]) ∧ viewOk N V w s t,
   fun v => ∃ A c A' c', v = f (.agg #[.int .i64 V.base, .slice A V.shape.length c, .slice A' V.strides.length c']),
   fun v b => ∃ s t, v = f (.agg #[.int .i64 V.base, s, t]) ∧ within2 s t b⟩
theorem Ent.view_good (f : Value → Value) (hf : ∀ a b, f a = f b → a = b) (N : Nat) (V : VL) : Good (Ent.view f N V) := by
  refine ⟨fun _ _ _ _ hb ⟨s, t, h1, h2⟩ => ⟨s, t, h1, h2.nx hb⟩, fun _ _ _ ⟨s, t, h1, h2⟩ => ?_, ⟨_, none, 0, none, 0, rfl⟩, fun _ _ _ b ⟨s, t, h1, h2⟩ ⟨s', t', h3, i, j, _, hj, _, hbj⟩ => ?_⟩
  · obtain ⟨A, c, e⟩ := h2.1.form
    obtain ⟨A', c', e'⟩ := h2.2.1.form
    exact ⟨A, c, A', c', by rw [h1, e, e']⟩
  · have e := hf _ _ (h1.symm.trans h3)
    have e' : s = s' ∧ t = t' := by simpa using e
    obtain ⟨rfl, rfl⟩ := e'
    have := (h2.lt hj).2
    omega

section
variable {P : Program} {ops : Array Oper} {W : World} {R : Act → World → Prop} {k : Nat} {Es : List Ent} {o : Oper} {rest : List Oper} {a : Act} {s : Seen}
theorem grow_viewF (f : Value → Value) (hf : ∀ a b, f a = f b → a = b) (V : VL) (hw : Region.wanted o (yielded ops a.tmps) = true)
    (h : ∀ x : ExtW W, (∀ j, (autoDeps ops k).contains j = true → s.fact j x.v) → ∀ (K : Act → World → Prop) (Q : Exit → Act → World → Prop),
      (∀ s t w', Below x.v.heap.size x.v w' → Own w' x.v.heap.size s V.shape → Own w' x.v.heap.size t V.strides → Sep s t → K (a.put o.dst (f (.agg #[.int .i64 V.base, s, t]))) w') → o.wp P a x.v K Q)
    (hr : ∀ A c A' c', ∀ (F : World → Prop) (O : Nat → Prop), (∀ w, F w → viewOk W.heap.size V w (.slice A V.shape.length c) (.slice A' V.strides.length c')) →
      (∀ b, within2 (.slice A V.shape.length c) (.slice A' V.strides.length c') b → O b) →
      wpGrow P ops W R (k + 1) Es rest (a.put o.dst (f (.agg #[.int .i64 V.base, .slice A V.shape.length c, .slice A' V.strides.length c']))) (s.push (f (.agg #[.int .i64 V.base, .slice A V.shape.length c, .slice A' V.strides.length c'])) F O)) :
    wpGrow P ops W R k (Ent.view f W.heap.size V :: Es) (o :: rest) a s := by
  refine grow_mk _ (Ent.view_good f hf _ _) hw (fun x hF _ K Q hK => h x hF K Q fun s t w' hb h1 h2 h3 => hK _ w' hb ⟨s, t, rfl, h1.mono x.h.size, h2.mono x.h.size, h3⟩ fun b ⟨s', t', e, i, j, hi, _, hib, _⟩ => ?_) fun v hV F O hF hO => ?_
  · have e' := hf _ _ e
    have e2 : s = s' ∧ t = t' := by simpa using e'
    obtain ⟨rfl, rfl⟩ := e2
    have : x.v.heap.size ≤ i := by
      rcases hi with hi | hi
      · exact (h1.lt i hi).1
      · exact (h2.lt i hi).1
    omega
  · obtain ⟨A, c, A', c', rfl⟩ := hV
    refine hr A c A' c' F O (fun w hw => ?_) fun b hb => hO b ⟨_, _, rfl, hb⟩
    obtain ⟨s', t', e, h2⟩ := hF w hw
    have e' := hf _ _ e
    have e2 : .slice A V.shape.length c = s' ∧ .slice A' V.strides.length c' = t' := by simpa using e'
    rw [e2.1, e2.2]
    exact h2
end
def tupB (b : Bool) (v : Value) : Value := .tuple #[v, .bool b]
theorem tupB_inj (b : Bool) (x y : Value) (h : tupB b x = tupB b y) : x = y := by simpa [tupB] using h
theorem id_inj (x y : Value) (h : id x = id y) : x = y := h
def tupAt (i : Nat) : Value → Value
  | .tuple vs => vs.getD i undef
  | _ => undef
/-- An interval that holds the rows and not the block. -/
theorem ival {s t : Value} {N M g : Nat} (hs : Seg s N M) (ht : Seg t N M) (hd : ∀ b, within2 s t b → b ≠ g) (hg : N ≤ g) (hgM : g < M) :
    ∃ lo hi, N ≤ lo ∧ lo ≤ hi ∧ hi ≤ M ∧ Seg s lo hi ∧ Seg t lo hi ∧ (g < lo ∨ hi ≤ g) := by
  by_cases hex : ∃ i, holds2 s t i ∧ i ≤ g
  · obtain ⟨i, hi, hig⟩ := hex
    have hlt : ∀ j, holds2 s t j → j < g := fun j hj => by
      rcases Nat.lt_or_ge j g with h | h
      · exact h
      · exact absurd rfl (hd g ⟨i, j, hi, hj, hig, h⟩)
    exact ⟨N, g, Nat.le_refl _, hg, by omega, fun k hk => ⟨(hs k hk).1, hlt k (.inl hk)⟩, fun k hk => ⟨(ht k hk).1, hlt k (.inr hk)⟩, .inr (Nat.le_refl _)⟩
  · have hgt : ∀ j, holds2 s t j → g < j := fun j hj => by
      rcases Nat.lt_or_ge g j with h | h
      · exact h
      · exact absurd ⟨j, hj, h⟩ hex
    exact ⟨g + 1, M, by omega, by omega, Nat.le_refl _, fun k hk => ⟨hgt k (.inl hk), (hs k hk).2⟩, fun k hk => ⟨hgt k (.inr hk), (ht k hk).2⟩, .inl (by omega)⟩

end Go.Proofs.Ytfiphjifnjnmbaa
