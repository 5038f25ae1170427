/- The region rule's entries for tensors that a call makes; a tensor's box. No conditions. -/
import Derived.Test.YtfiphjifnjnmbaaGv
namespace Go.Proofs.Ytfiphjifnjnmbaa
open Go.RowKit

def tensOk (N : Nat) (V : TL) (w : World) (s t : Value) : Prop := Own w N s V.shape ∧ Own w N t V.values ∧ Sep s t
theorem tensOk.nx {N : Nat} {V : TL} {w w' : World} {s t : Value} (h : tensOk N V w s t) (hb : Below w.heap.size w w') : tensOk N V w' s t := ⟨h.1.ext hb, h.2.1.ext hb, h.2.2⟩
theorem tensOk.lt {N : Nat} {V : TL} {w : World} {s t : Value} (h : tensOk N V w s t) {b : Nat} (hb : holds2 s t b) : N ≤ b ∧ b < w.heap.size := by
  rcases hb with hb | hb
  · exact h.1.lt b hb
  · exact h.2.1.lt b hb
def Ent.tens (f : Value → Value) (N : Nat) (V : TL) : Ent :=
  ⟨fun _ w v => ∃ s t, v = f (.agg #[s, t]) ∧ tensOk N V w s t,
   fun v => ∃ A c A' c', v = f (.agg #[.slice A V.shape.length c, .slice A' V.values.length c']),
   fun v b => ∃ s t, v = f (.agg #[s, t]) ∧ within2 s t b⟩
theorem Ent.tens_good (f : Value → Value) (hf : ∀ a b, f a = f b → a = b) (N : Nat) (V : TL) : Good (Ent.tens f N V) := by
  refine ⟨fun _ _ _ _ hb ⟨s, t, h1, h2⟩ => ⟨s, t, h1, h2.nx hb⟩, fun _ _ _ ⟨s, t, h1, h2⟩ => ?_, ⟨_, none, 0, none, 0, rfl⟩, fun _ _ _ b ⟨s, t, h1, h2⟩ ⟨s', t', h3, i, j, _, hj, _, hbj⟩ => ?_⟩
  · obtain ⟨A, c, e⟩ := h2.1.form
    obtain ⟨A', c', e'⟩ := h2.2.1.form
    exact ⟨A, c, A', c', by rw [h1, e, e']⟩
  · have e := hf _ _ (h1.symm.trans h3)
    have e' : s = s' ∧ t = t' := by simpa using e
    obtain ⟨rfl, rfl⟩ := e'
    have := (h2.lt hj).2
    omega

section
variable {P : Program} {ops : Array Oper} {W : World} {R : Act → World → Prop} {k : Nat} {Es : List Ent} {o : Oper} {rest : List Oper} {a : Act} {s : Seen}
theorem grow_tensF (f : Value → Value) (hf : ∀ a b, f a = f b → a = b) (V : TL) (hw : Region.wanted o (yielded ops a.tmps) = true)
    (h : ∀ x : ExtW W, (∀ j, (autoDeps ops k).contains j = true → s.fact j x.v) → ∀ (K : Act → World → Prop) (Q : Exit → Act → World → Prop),
      (∀ s t w', Below x.v.heap.size x.v w' → Own w' x.v.heap.size s V.shape → Own w' x.v.heap.size t V.values → Sep s t → K (a.put o.dst (f (.agg #[s, t]))) w') → o.wp P a x.v K Q)
    (hr : ∀ A c A' c', ∀ (F : World → Prop) (O : Nat → Prop), (∀ w, F w → tensOk W.heap.size V w (.slice A V.shape.length c) (.slice A' V.values.length c')) →
      (∀ b, within2 (.slice A V.shape.length c) (.slice A' V.values.length c') b → O b) →
      wpGrow P ops W R (k + 1) Es rest (a.put o.dst (f (.agg #[.slice A V.shape.length c, .slice A' V.values.length c']))) (s.push (f (.agg #[.slice A V.shape.length c, .slice A' V.values.length c'])) F O)) :
    wpGrow P ops W R k (Ent.tens f W.heap.size V :: Es) (o :: rest) a s := by
  refine grow_mk _ (Ent.tens_good f hf _ _) hw (fun x hF _ K Q hK => h x hF K Q fun s t w' hb h1 h2 h3 => hK _ w' hb ⟨s, t, rfl, h1.mono x.h.size, h2.mono x.h.size, h3⟩ fun b ⟨s', t', e, i, j, hi, _, hib, _⟩ => ?_) fun v hV F O hF hO => ?_
  · have e' := hf _ _ e
    have e2 : s = s' ∧ t = t' := by simpa using e'
    obtain ⟨rfl, rfl⟩ := e2
    have : x.v.heap.size ≤ i := by
      rcases hi with hi | hi
      · exact (h1.lt i hi).1
      · exact (h2.lt i hi).1
    omega
  · obtain ⟨A, c, A', c', rfl⟩ := hV
    refine hr A c A' c' F O (fun w hw => ?_) fun b hb => hO b ⟨_, _, rfl, hb⟩
    obtain ⟨s', t', e, h2⟩ := hF w hw
    have e' := hf _ _ e
    have e2 : .slice A V.shape.length c = s' ∧ .slice A' V.values.length c' = t' := by simpa using e'
    rw [e2.1, e2.2]
    exact h2
end
/-- A tensor's box and its rows. -/
structure GrowT (N : Nat) (W : World) (g : Nat) (sv tv : Value) (xs ys : List Int) : Prop where
  box : Blk W g 25 #[sv, tv]
  s : Own W N sv xs
  t : Own W N tv ys
  sep : Sep sv tv
theorem built_tens {W1 W : World} {g : Nat} {sv tv : Value} {xs ys : List Int} {x y : Value} (hX : Blk W g 25 #[x, y]) (hU : Below W1.heap.size W1 W) (h1 : Own W W1.heap.size sv xs)
    (h2 : Own W W1.heap.size tv ys) (hs : Sep sv tv) (hg : W1.heap.size ≤ g) (n1 : ∀ k, sv.ownBlock = some k → k ≠ g) (n2 : ∀ k, tv.ownBlock = some k → k ≠ g) :
    GrowT W1.heap.size ((W.setCell ⟨g, 0, none⟩ sv).setCell ⟨g, 1, none⟩ tv) g sv tv xs ys ∧ Below W1.heap.size W1 ((W.setCell ⟨g, 0, none⟩ sv).setCell ⟨g, 1, none⟩ tv) :=
  ⟨⟨hX.store2 _ _, (h1.off n1 _).off n1 _, (h2.off n2 _).off n2 _, hs⟩, below2 hU hg _ _⟩

end Go.Proofs.Ytfiphjifnjnmbaa
