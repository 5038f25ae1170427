/- The region rule where some operations that touch no world need not come before the tail. No conditions. (printed by mkgp.py from the text of Gw) -/
import Derived.Test.YtldblcolnjkcaaaGw
namespace Go.Proofs.Ytldblcolnjkcaaa
open Go.RowKit

section
variable {P : Program}

/-- The checks: as growB; the operations of 'late' need not be waited for by the tail: whatever is not behind them is apart from them. -/
def growL (ops : Array Oper) (n : Nat) (late : List Nat) : Bool :=
  Region.noSelect ops && decide (n ≤ ops.size) &&
  (let A := ancT ops
   (List.range ops.size).all fun k =>
    match ops[k]? with
    | none => false
    | some o =>
      (o.after.all fun e => !Region.binds .any e || decide (e.on < k)) &&
      ((List.range ops.size).all fun j => !(A.getD k 0).testBit j || o.after.any fun e => Region.binds .any e && (decide (e.on = j) || (A.getD e.on 0).testBit j)) &&
      (if k < n then (autoDeps ops k).all fun j => (A.getD k 0).testBit j else (List.range k).all fun j => late.contains j || (A.getD k 0).testBit j) &&
      ((o.looksAt ops).all fun t => (List.range ops.size).all fun j => decide (j < k) || ((ops[j]?).bind (·.dst)) != some t) &&
      ((List.range k).all fun j => match o.dst with | none => true | some t => ((ops[j]?).bind (·.dst)) != some t)) &&
  (late.all fun i => decide (i < n) && match ops[i]? with
    | none => false
    | some oi => (List.range ops.size).all fun j => match ops[j]? with
      | none => true
      | some oj => decide (j = i) || (oj.after.any fun e => Region.binds .any e && decide (e.on = i)) || (((ancT ops).getD i 0).testBit j || oi.apart ops oj))

structure GrowL (ops : Array Oper) (n : Nat) (late : List Nat) : Prop where
  sel : Region.noSelect ops = true
  le : n ≤ ops.size
  back : ∀ (k : Nat) (o : Oper), ops[k]? = some o → ∀ e ∈ o.after, Region.binds .any e = true → e.on < k
  anc : ∀ (k : Nat) (o : Oper), ops[k]? = some o → ∀ j, j < ops.size → ((ancT ops).getD k 0).testBit j = true → ∃ e ∈ o.after, Region.binds .any e = true ∧ (e.on = j ∨ ((ancT ops).getD e.on 0).testBit j = true)
  dep : ∀ k, k < n → ∀ j ∈ autoDeps ops k, ((ancT ops).getD k 0).testBit j = true
  tail : ∀ k, n ≤ k → k < ops.size → ∀ j, j < k → j ∉ late → ((ancT ops).getD k 0).testBit j = true
  look : ∀ (k : Nat) (o : Oper), ops[k]? = some o → ∀ t ∈ o.looksAt ops, ∀ (j : Nat) (o' : Oper), ops[j]? = some o' → o'.dst = some t → j ∈ autoDeps ops k
  once : ∀ (i j : Nat) (o o' : Oper) (t : Tmp), ops[i]? = some o → ops[j]? = some o' → o.dst = some t → o'.dst = some t → i = j
  lt : ∀ i ∈ late, i < n
  free : ∀ i ∈ late, ∀ (oi : Oper), ops[i]? = some oi → ∀ (j : Nat) (oj : Oper), ops[j]? = some oj → j ≠ i → (∀ e ∈ oj.after, Region.binds .any e = true → e.on ≠ i) → ((ancT ops).getD i 0).testBit j = true ∨ oi.apart ops oj = true

theorem growLOk {ops : Array Oper} {n : Nat} {late : List Nat} (h : growL ops n late = true) : GrowL ops n late := by
  simp only [growL, Bool.and_eq_true, List.all_eq_true, List.mem_range] at h
  obtain ⟨⟨⟨hs, hn⟩, h⟩, hlate⟩ := h
  have H : ∀ (k : Nat) (o : Oper), ops[k]? = some o → _ := fun k o ho => h k (Array.getElem?_eq_some_iff.1 ho).1
  refine ⟨hs, by simpa using hn, fun k o ho e he hb => ?_, fun k o ho j hjs hj => ?_, fun k hk j hj => ?_, fun k hk hks j hj hjl => ?_, fun k o ho t ht j o' hj hd => ?_, fun i j o o' t hi hj hd hd' => ?_, fun i hi => ?_, fun i hi oi hoi j oj hoj hne hno => ?_⟩
  · have := H k o ho
    simp only [ho, Bool.and_eq_true] at this
    have := (Array.all_eq_true_iff_forall_mem.1 this.1.1.1.1) e he
    simpa [hb] using this
  · have := H k o ho
    simp only [ho, Bool.and_eq_true] at this
    have := (List.all_eq_true.1 this.1.1.1.2) j (List.mem_range.2 hjs)
    simp only [hj, Bool.not_true, Bool.false_or, Array.any_eq_true'] at this
    obtain ⟨e, he, h2⟩ := this
    simp only [Bool.and_eq_true, Bool.or_eq_true, decide_eq_true_eq] at h2
    exact ⟨e, he, h2.1, h2.2⟩
  · have hks : k < ops.size := Nat.lt_of_lt_of_le hk (by simpa using hn)
    have := H k ops[k] (by simp [hks])
    simp only [Array.getElem?_eq_getElem hks, Bool.and_eq_true, if_pos hk] at this
    exact (List.all_eq_true.1 this.1.1.2) j hj
  · have := H k ops[k] (by simp [hks])
    simp only [Array.getElem?_eq_getElem hks, Bool.and_eq_true, if_neg (Nat.not_lt.2 hk)] at this
    have := (List.all_eq_true.1 this.1.1.2) j (List.mem_range.2 hj)
    simpa [hjl] using this
  · have := H k o ho
    simp only [ho, Bool.and_eq_true] at this
    have := (List.all_eq_true.1 ((List.all_eq_true.1 this.1.2) t ht)) j (List.mem_range.2 (Array.getElem?_eq_some_iff.1 hj).1)
    have hjk : j < k := by simpa [hj, hd] using this
    unfold autoDeps
    simp only [ho]
    exact List.mem_filter.2 ⟨List.mem_range.2 hjk, by simp [hj, hd, ht]⟩
  · have key : ∀ (i j : Nat) (o o' : Oper), ops[i]? = some o → ops[j]? = some o' → o.dst = some t → o'.dst = some t → ¬ i < j := fun i j o o' hi hj hd hd' hlt => by
      have := H j o' hj
      simp only [hj, Bool.and_eq_true] at this
      have := (List.all_eq_true.1 this.2) i (List.mem_range.2 hlt)
      simp [hd', hi, hd] at this
    have h1 := key i j o o' hi hj hd hd'
    have h2 := key j i o' o hj hi hd' hd
    omega
  · have := hlate i hi
    simp only [decide_eq_true_eq] at this
    exact this.1
  · have := hlate i hi
    simp only [decide_eq_true_eq, hoi] at this
    have := (List.all_eq_true.1 this.2) j (List.mem_range.2 (Array.getElem?_eq_some_iff.1 hoj).1)
    simp only [hoj, Bool.or_eq_true, decide_eq_true_eq, hne, false_or] at this
    rcases this with h1 | h1
    · rw [Array.any_eq_true'] at h1
      obtain ⟨e, he, h2⟩ := h1
      simp only [Bool.and_eq_true, decide_eq_true_eq] at h2
      exact absurd h2.2 (hno e he h2.1)
    · exact h1

theorem full_of_invL {l tail : List Oper} {late : List Nat} {W : World} {E : Nat → Ent} {a0 a : Act} {listed : Array Bool} {u : Nat → Value} {w : World}
    (hok : GrowL (l ++ tail).toArray l.length late) (hI : Inv (l ++ tail).toArray l.length W E a0 listed u a w) (hall : ∀ k, k < l.length → listed.getD k false = true) : a = fullAct l 0 u a0 := by
  have hget : ∀ (j : Nat) (o : Oper), l[j]? = some o → (l ++ tail).toArray[j]? = some o := fun j o hj => by
    have hjl : j < l.length := (List.getElem?_eq_some_iff.1 hj).1
    simpa [List.getElem?_append_left hjl] using hj
  refine act_ext (fun t => ?_) (by rw [fullAct_defers, hI.defers])
  by_cases hex : ∃ (j : Nat) (o : Oper), l[j]? = some o ∧ o.dst = some t
  · obtain ⟨j, o, hj, hd⟩ := hex
    have hjl : j < l.length := (List.getElem?_eq_some_iff.1 hj).1
    by_cases ht' : t < a0.tmps.size
    · rw [hI.at_ j o t (hget j o hj) hd (hall j hjl) ht', fullAct_at l 0 u a0 t j o hj hd ht' fun i o' hi hd' => hok.once i j o' o t (hget i o' hi) (hget j o hj) hd' hd, Nat.zero_add]
    · rw [Array.getElem?_eq_none (by rw [hI.tsize]; exact Nat.le_of_not_lt ht'), Array.getElem?_eq_none (by rw [fullAct_size]; exact Nat.le_of_not_lt ht')]
  · have hno : ∀ (j : Nat) (o : Oper), l[j]? = some o → o.dst ≠ some t := fun j o hj hd => hex ⟨j, o, hj, hd⟩
    rw [fullAct_other l 0 u a0 t hno, hI.other t fun k o hk hd => ?_]
    cases hc : listed.getD k false with
    | false => rfl
    | true =>
      have hkl := hI.only k hc
      refine absurd hd (hno k o ?_)
      simpa [List.getElem?_append_left hkl] using hk

/-- What is left when only the tail is left: it comes in its order. -/
theorem wpAny_tailL {l tail : List Oper} {n : Nat} {late : List Nat} (hok : GrowL (l ++ tail).toArray n late) {Q : Exit → Act → World → Prop} :
    ∀ (m k : Nat), k + m = (l ++ tail).length → n ≤ k → ∀ (fuel : Nat) (listed : Array Bool) (a : Act) (w : World), left listed ≤ fuel → listed.size = (l ++ tail).length → (∀ j, listed.getD j false = true ↔ j < k) →
      wpList P (l ++ tail).toArray Q ((l ++ tail).drop k) a w → wpAny P .any (l ++ tail).toArray Q fuel listed a w := by
  intro m
  induction m with
  | zero =>
    intro k hk hn fuel listed a w hl hs hj h
    rw [List.drop_of_length_le (by omega)] at h
    have hr : Region.ready .any (l ++ tail).toArray listed = [] := by
      cases hr : Region.ready .any (l ++ tail).toArray listed with
      | nil => rfl
      | cons i rs =>
        exfalso
        have hi : i ∈ Region.ready .any (l ++ tail).toArray listed := by rw [hr]; exact List.mem_cons_self ..
        obtain ⟨h1, o, ho, _⟩ := mem_ready.1 hi
        have hil : i < (l ++ tail).length := by have := (Array.getElem?_eq_some_iff.1 ho).1; simpa using this
        have := (hj i).2 (by omega)
        simp only [Array.getD_eq_getD_getElem?] at h1 this
        rw [Array.getElem?_eq_getElem (by omega)] at h1 this
        simp only [Option.getD_some] at h1 this
        rw [h1] at this
        cases this
    exact wpAny_done hr h fuel
  | succ m ih =>
    intro k hk hn fuel listed a w hl hs hj h
    have hkl : k < (l ++ tail).length := by omega
    have hkf : listed.getD k false = false := by
      cases hc : listed.getD k false with
      | false => rfl
      | true => have := (hj k).1 hc; omega
    have hkt : listed.getD k true = false := by
      simp only [Array.getD_eq_getD_getElem?] at hkf ⊢
      rw [Array.getElem?_eq_getElem (by omega)] at hkf ⊢
      simpa using hkf
    have hok' : (l ++ tail).toArray[k]? = some (l ++ tail)[k] := by simp
    have hrk : k ∈ Region.ready .any (l ++ tail).toArray listed := mem_ready.2 ⟨hkt, _, hok', fun e he hb => (hj _).2 (hok.back k _ hok' e he hb)⟩
    rw [List.drop_eq_getElem_cons hkl] at h
    cases fuel with
    | zero => have := left_set hkt; omega
    | succ fuel =>
      refine ⟨fun h0 => (by rw [h0] at hrk; cases hrk), fun i hi => ?_⟩
      obtain ⟨h1, o, ho, hall⟩ := mem_ready.1 hi
      have hil : i < (l ++ tail).length := by have := (Array.getElem?_eq_some_iff.1 ho).1; simpa using this
      have hik : k ≤ i := by
        rcases Nat.lt_or_ge i k with h' | h'
        · exfalso
          have := (hj i).2 h'
          simp only [Array.getD_eq_getD_getElem?] at h1 this
          rw [Array.getElem?_eq_getElem (by omega)] at h1 this
          simp only [Option.getD_some] at h1 this
          rw [h1] at this
          cases this
        · exact h'
      have hie : i = k := by
        rcases Nat.eq_or_lt_of_le hik with h' | h'
        · exact h'.symm
        · exfalso
          have hcl : ∀ d i : Nat, i ≤ d → ∀ o, (l ++ tail).toArray[i]? = some o → (∀ e ∈ o.after, Region.binds .any e = true → listed.getD e.on false = true) → ∀ j, j < (l ++ tail).length → ((ancT (l ++ tail).toArray).getD i 0).testBit j = true → listed.getD j false = true := fun d => by
            induction d with
            | zero =>
              intro i hi o ho hall j hjl hb
              obtain ⟨e, he, hbi, _⟩ := hok.anc i o ho j (by simpa using hjl) hb
              have := hok.back i o ho e he hbi
              omega
            | succ d ihd =>
              intro i hi o ho hall j hjl hb
              obtain ⟨e, he, hbi, h2⟩ := hok.anc i o ho j (by simpa using hjl) hb
              rcases h2 with rfl | h2
              · exact hall e he hbi
              · have hlt := hok.back i o ho e he hbi
                have hel := hall e he hbi
                have hek := (hj e.on).1 hel
                have hes : e.on < (l ++ tail).length := by omega
                refine ihd e.on (by omega) (l ++ tail)[e.on] (by simp) (fun e' he' hb' => (hj _).2 ?_) j hjl h2
                have := hok.back e.on _ (show (l ++ tail).toArray[e.on]? = some (l ++ tail)[e.on] by simp) e' he' hb'
                omega
          have := hcl i i (Nat.le_refl _) o ho hall k (by omega) (hok.tail i (by omega) (by simpa using hil) k h' (fun hl => by have := hok.lt k hl; omega))
          rw [hkf] at this
          cases this
      subst hie
      unfold wpOp
      simp only [hok']
      simp only [wpList] at h
      have hset : ∀ j, (listed.setIfInBounds i true).getD j false = true ↔ j < i + 1 := fun j => by
        by_cases hjk : j = i
        · subst hjk
          have : j < listed.size := by omega
          simp [this]
        · rw [getD_set_ne false (Ne.symm hjk), hj]; omega
      have next : ∀ a w, wpList P (l ++ tail).toArray Q ((l ++ tail).drop (i + 1)) a w → wpAny P .any (l ++ tail).toArray Q fuel (listed.setIfInBounds i true) a w := fun a w h =>
        ih (i + 1) (by omega) (by omega) fuel _ a w (by have := left_set hkt; omega) (by simpa using hs) hset h
      split
      · rename_i hw
        simp only [hw, if_true] at h
        exact h.imp (Oper.wp_mono next) id
      · rename_i hw
        simp only [hw] at h
        exact next _ _ h

theorem Inv.step {l tail : List Oper} {late : List Nat} (hok : GrowL (l ++ tail).toArray l.length late) {W : World} {E : Nat → Ent} (hE : ∀ k, Good (E k)) {a0 : Act} {listed : Array Bool} {u : Nat → Value} {a : Act} {w : World} (hI : Inv (l ++ tail).toArray l.length W E a0 listed u a w)
    {k : Nat} {o : Oper} (hkl : k < l.length) (hun : listed.getD k true = false) (ho : (l ++ tail).toArray[k]? = some o) (hall : ∀ e ∈ o.after, Region.binds .any e = true → listed.getD e.on false = true)
    {v : Value} {w' : World} (hG : Below w.heap.size w w') (hv : (E k).Φ ((autoDeps (l ++ tail).toArray k).map u) w' v) (hfr : ∀ b, (E k).H v b → w.heap.size ≤ b) :
    Inv (l ++ tail).toArray l.length W E a0 (listed.setIfInBounds k true) (fun j => if j = k then v else u j) (a.put o.dst v) w' := by
  have hks : k < listed.size := by rw [hI.size]; simp; omega
  have hunf : listed.getD k false = false := by simpa [hks] using hun
  have hancs : ∀ j, j < (l ++ tail).toArray.size → ((ancT (l ++ tail).toArray).getD k 0).testBit j = true → listed.getD j false = true := fun j hjs hj => by
    obtain ⟨e, he, hb, h2⟩ := hok.anc k o ho j hjs hj
    rcases h2 with rfl | h2
    · exact hall e he hb
    · exact hI.closed e.on (hall e he hb) j hjs h2
  have hdeps : ∀ j ∈ autoDeps (l ++ tail).toArray k, listed.getD j false = true := fun j hj => hancs j (by have := autoDeps_lt hj; simp; omega) (hok.dep k hkl j hj)
  have hkd : ∀ j, listed.getD j false = true → k ∉ autoDeps (l ++ tail).toArray j := fun j hj hkj => by
    have := hI.closed j hj k (by simp; omega) (hok.dep j (hI.only j hj) k hkj)
    rw [hunf] at this
    cases this
  have hset : ∀ j, (listed.setIfInBounds k true).getD j false = true ↔ j = k ∨ listed.getD j false = true := fun j => by
    by_cases hjk : j = k
    · subst hjk; simp [hks]
    · rw [getD_set_ne false (Ne.symm hjk)]; simp [hjk]
  have hmap : ∀ j, k ∉ autoDeps (l ++ tail).toArray j → (autoDeps (l ++ tail).toArray j).map (fun j => if j = k then v else u j) = (autoDeps (l ++ tail).toArray j).map u := fun j hj =>
    List.map_congr_left fun i hi => by
      have : i ≠ k := fun e => hj (e ▸ hi)
      simp [this]
  have hkk : k ∉ autoDeps (l ++ tail).toArray k := fun h => by have := autoDeps_lt h; omega
  have hold : ∀ j, listed.getD j false = true → j ≠ k := fun j hj e => by rw [e, hunf] at hj; cases hj
  refine ⟨by simpa using hI.size, hI.cls.trans (hG.mono hI.cls.size), fun j => ?_, fun j hj => ?_, fun i j hne hi hj b hbi hbj => ?_, fun j hj i his hi => ?_, fun j hj => ?_, by rw [put_defers]; exact hI.defers, by rw [put_size]; exact hI.tsize, fun j o' t hj hd hl' hts => ?_, fun t hno => ?_⟩
  · by_cases hjk : j = k
    · subst hjk; simp only [if_true]; exact (hE j).imp _ _ _ hv
    · simp only [hjk, if_false]; exact hI.vals j
  · rcases (hset j).1 hj with rfl | h
    · simp only [if_true, hmap _ hkk]; exact hv
    · simp only [hold j h, if_false, hmap _ (hkd j h)]; exact (hE j).mono _ w w' _ hG (hI.facts j h)
  · rcases (hset i).1 hi with rfl | h1
    · rcases (hset j).1 hj with rfl | h2
      · exact hne rfl
      · simp only [if_true] at hbi
        simp only [hold j h2, if_false] at hbj
        have h3 := hfr b hbi
        have h4 := (hE j).lt _ _ _ _ (hI.facts j h2) hbj
        omega
    · rcases (hset j).1 hj with rfl | h2
      · simp only [if_true] at hbj
        simp only [hold i h1, if_false] at hbi
        have h3 := hfr b hbj
        have h4 := (hE i).lt _ _ _ _ (hI.facts i h1) hbi
        omega
      · simp only [hold i h1, if_false] at hbi
        simp only [hold j h2, if_false] at hbj
        exact hI.sep i j hne h1 h2 b hbi hbj
  · rcases (hset j).1 hj with rfl | h
    · exact (hset i).2 (.inr (hancs i his hi))
    · exact (hset i).2 (.inr (hI.closed j h i his hi))
  · rcases (hset j).1 hj with rfl | h
    · exact hkl
    · exact hI.only j h
  · by_cases hjk : j = k
    · subst hjk
      have : o' = o := by rw [ho] at hj; simpa using hj.symm
      subst this
      rw [hd, put_get _ _ _ (by rw [hI.tsize]; exact hts)]
      simp
    · have hlj : listed.getD j false = true := by rcases (hset j).1 hl' with h | h; exact absurd h hjk; exact h
      rw [put_get_ne _ _ _ _ fun e => hjk (hok.once j k o' o t hj ho hd e), hI.at_ j o' t hj hd hlj hts]
      simp [hjk]
  · have hdk : o.dst ≠ some t := fun e => by
      have := hno k o ho e
      rw [(hset k).2 (.inl rfl)] at this
      cases this
    rw [put_get_ne _ _ _ _ hdk]
    refine hI.other t fun j o' hj hd => ?_
    have := hno j o' hj hd
    cases hc : listed.getD j false with
    | false => rfl
    | true => rw [(hset j).2 (.inr hc)] at this; cases this


theorem wpAny_growL {l tail : List Oper} {late : List Nat} (hok : GrowL (l ++ tail).toArray l.length late) (W : World) (E : Nat → Ent) (hE : ∀ k, Good (E k)) {a0 : Act} {Q : Exit → Act → World → Prop}
    (hQ : ∀ c (a : Act) (t : Tmp) v w, Q (.panic c) (a.put (some t) v) w → Q (.panic c) a w)
    (hops : ∀ (k : Nat) (o : Oper), l[k]? = some o → ∀ (u : Nat → Value) (w : World), (∀ j, (E j).V (u j)) → Below W.heap.size W w →
      (∀ j ∈ autoDeps (l ++ tail).toArray k, (E j).Φ ((autoDeps (l ++ tail).toArray j).map u) w (u j)) →
      (∀ i ∈ autoDeps (l ++ tail).toArray k, ∀ j ∈ autoDeps (l ++ tail).toArray k, i ≠ j → ∀ b, (E i).H (u i) b → (E j).H (u j) b → False) →
      wpStepK P (l ++ tail).toArray o (fullAct (l.take k) 0 u a0) w fun v w' => Below w.heap.size w w' ∧ (E k).Φ ((autoDeps (l ++ tail).toArray k).map u) w' v ∧ ∀ b, (E k).H v b → w.heap.size ≤ b)
    (hlate : ∀ (k : Nat) (o : Oper), k ∈ late → l[k]? = some o → ∀ (u : Nat → Value) (w : World), (∀ j, (E j).V (u j)) → Below W.heap.size W w →
      (∀ j ∈ autoDeps (l ++ tail).toArray k, (E j).Φ ((autoDeps (l ++ tail).toArray j).map u) w (u j)) →
      ∃ c v, Region.wanted o (yielded (l ++ tail).toArray (fullAct (l.take k) 0 u a0).tmps) = true ∧ (∀ w', (execOp (fullAct (l.take k) 0 u a0).eval o).run P w' = .ok (.value c) w') ∧
        (fullAct (l.take k) 0 u a0).put o.dst c = (fullAct (l.take k) 0 u a0).put o.dst v ∧ (E k).Φ ((autoDeps (l ++ tail).toArray k).map u) w v ∧ ∀ b, ¬ (E k).H v b)
    (hend : ∀ (u : Nat → Value) (w : World), (∀ j, (E j).V (u j)) → Below W.heap.size W w → (∀ k, k < l.length → (E k).Φ ((autoDeps (l ++ tail).toArray k).map u) w (u k)) →
      (∀ i, i < l.length → ∀ j, j < l.length → i ≠ j → ∀ b, (E i).H (u i) b → (E j).H (u j) b → False) → wpList P (l ++ tail).toArray Q tail (fullAct l 0 u a0) w) :
    ∀ (fuel : Nat) (listed : Array Bool) (u : Nat → Value) (a : Act) (w : World), left listed ≤ fuel → Inv (l ++ tail).toArray l.length W E a0 listed u a w → wpAny P .any (l ++ tail).toArray Q fuel listed a w := by
  have hget : ∀ (j : Nat) (o : Oper), l[j]? = some o → (l ++ tail).toArray[j]? = some o := fun j o hj => by
    have hjl : j < l.length := (List.getElem?_eq_some_iff.1 hj).1
    simpa [List.getElem?_append_left hjl] using hj
  -- what an operation sees is what the walk in the order of the text sees
  have hseen : ∀ (listed : Array Bool) (u : Nat → Value) (a : Act) (w : World), Inv (l ++ tail).toArray l.length W E a0 listed u a w → ∀ (k : Nat) (o : Oper), k < l.length → l[k]? = some o →
      (∀ e ∈ o.after, Region.binds .any e = true → listed.getD e.on false = true) →
      (∀ j ∈ autoDeps (l ++ tail).toArray k, listed.getD j false = true) ∧ (∀ t ∈ o.looksAt (l ++ tail).toArray, a.tmps[t]? = (fullAct (l.take k) 0 u a0).tmps[t]?) := fun listed u a w hI k o hkl hol hall => by
    have ho := hget k o hol
    have hancs : ∀ j, j < (l ++ tail).toArray.size → ((ancT (l ++ tail).toArray).getD k 0).testBit j = true → listed.getD j false = true := fun j hjs hj => by
      obtain ⟨e, he, hb, h2⟩ := hok.anc k o ho j hjs hj
      rcases h2 with rfl | h2
      · exact hall e he hb
      · exact hI.closed e.on (hall e he hb) j hjs h2
    have hdeps : ∀ j ∈ autoDeps (l ++ tail).toArray k, listed.getD j false = true := fun j hj => hancs j (by have := autoDeps_lt hj; simp; omega) (hok.dep k hkl j hj)
    refine ⟨hdeps, fun t ht => ?_⟩
    by_cases hex : ∃ (j : Nat) (o' : Oper), (l ++ tail)[j]? = some o' ∧ o'.dst = some t
    · obtain ⟨j, o', hj, hd⟩ := hex
      have hjd := hok.look k o ho t ht j o' (by simpa using hj) hd
      have hjk := autoDeps_lt hjd
      have hjl : l[j]? = some o' := by rw [List.getElem?_append_left (by omega)] at hj; exact hj
      by_cases ht' : t < a0.tmps.size
      · rw [hI.at_ j o' t (hget j o' hjl) hd (hdeps j hjd) ht', fullAct_at (l.take k) 0 u a0 t j o' (by rw [List.getElem?_take, if_pos hjk]; exact hjl) hd ht' fun i o'' hi hd' => ?_, Nat.zero_add]
        rw [List.getElem?_take] at hi
        split at hi
        · exact hok.once i j o'' o' t (hget i o'' hi) (hget j o' hjl) hd' hd
        · cases hi
      · rw [Array.getElem?_eq_none (by rw [hI.tsize]; exact Nat.le_of_not_lt ht'), Array.getElem?_eq_none (by rw [fullAct_size]; exact Nat.le_of_not_lt ht')]
    · have hno : ∀ (j : Nat) (o' : Oper), (l ++ tail)[j]? = some o' → o'.dst ≠ some t := fun j o' hj hd => hex ⟨j, o', hj, hd⟩
      rw [hI.other t fun j o' hj hd => absurd hd (hno j o' (by simpa using hj)), fullAct_other]
      intro j o' hj
      rw [List.getElem?_take] at hj
      split at hj
      · exact hno j o' (by have := hget j o' hj; simpa using this)
      · cases hj
  -- all of l is listed: the tail is left
  have hdone : ∀ (fuel : Nat) (listed : Array Bool) (u : Nat → Value) (a : Act) (w : World), left listed ≤ fuel → Inv (l ++ tail).toArray l.length W E a0 listed u a w → (∀ k, k < l.length → listed.getD k false = true) → wpAny P .any (l ++ tail).toArray Q fuel listed a w := fun fuel listed u a w hl hI hall => by
    have e := full_of_invL hok hI hall
    refine wpAny_tailL hok tail.length l.length (by simp) (Nat.le_refl _) fuel listed a w hl (by have := hI.size; simpa using this) (fun j => ⟨hI.only j, hall j⟩) ?_
    rw [List.drop_left, e]
    exact hend u w hI.vals hI.cls (fun k hk => hI.facts k (hall k hk)) fun i hi j hj hne => hI.sep i j hne (hall i hi) (hall j hj)
  -- all but late ones are listed: these are taken first
  have hlast : ∀ (m fuel : Nat) (listed : Array Bool) (u : Nat → Value) (a : Act) (w : World), left listed ≤ m → left listed ≤ fuel → Inv (l ++ tail).toArray l.length W E a0 listed u a w → (∀ k, k < l.length → k ∉ late → listed.getD k false = true) →
      wpAny P .any (l ++ tail).toArray Q fuel listed a w := by
    intro m
    induction m with
    | zero =>
      intro fuel listed u a w hm hl hI hall
      refine hdone fuel listed u a w hl hI fun k hk => ?_
      cases hc : listed.getD k false with
      | true => rfl
      | false =>
        exfalso
        have hks : k < listed.size := by rw [hI.size]; simp; omega
        have hun : listed.getD k true = false := by simpa [hks] using hc
        have := left_set hun
        omega
    | succ m ih =>
      intro fuel listed u a w hm hl hI hall
      by_cases hfull : ∀ k, k < l.length → listed.getD k false = true
      · exact hdone fuel listed u a w hl hI hfull
      · -- the first that is not listed
        have hleast : ∀ n, (∃ k, k < n ∧ k < l.length ∧ listed.getD k false = false) → ∃ k, k < l.length ∧ listed.getD k false = false ∧ ∀ j, j < k → listed.getD j false = true := fun n => by
          induction n with
          | zero => rintro ⟨k, hk, _⟩; omega
          | succ n ihn =>
            rintro ⟨k, hk, hkl, hkf⟩
            by_cases hex : ∃ k, k < n ∧ k < l.length ∧ listed.getD k false = false
            · exact ihn hex
            · refine ⟨k, hkl, hkf, fun j hj => ?_⟩
              cases hc : listed.getD j false with
              | true => rfl
              | false => exact absurd ⟨j, by omega, by omega, hc⟩ hex
        have hex : ∃ k, k < l.length ∧ k < l.length ∧ listed.getD k false = false := by
          refine Classical.byContradiction fun hno => hfull fun k hk => ?_
          cases hc : listed.getD k false with
          | true => rfl
          | false => exact absurd ⟨k, hk, hk, hc⟩ hno
        obtain ⟨k, hkl, hkf, hmin⟩ := hleast _ hex
        have hks : k < listed.size := by rw [hI.size]; simp; omega
        have hun : listed.getD k true = false := by simpa [hks] using hkf
        have hkL : k ∈ late := Classical.byContradiction fun hn => by rw [hall k hkl hn] at hkf; cases hkf
        have hol : l[k]? = some l[k] := by simp [hkl]
        have ho := hget k _ hol
        have hedges : ∀ e ∈ l[k].after, Region.binds .any e = true → listed.getD e.on false = true := fun e he hb => hmin e.on (hok.back k _ ho e he hb)
        have hready : k ∈ Region.ready .any (l ++ tail).toArray listed := mem_ready.2 ⟨hun, _, ho, hedges⟩
        obtain ⟨hdeps, hsame⟩ := hseen listed u a w hI k l[k] hkl hol hedges
        obtain ⟨c, v, hw, hrun, heq, hΦ, hH⟩ := hlate k l[k] hkL hol u w hI.vals hI.cls fun j hj => hI.facts j (hdeps j hj)
        have hexec : execOp a.eval l[k] = execOp (fullAct (l.take k) 0 u a0).eval l[k] := execOp_congr l[k] (fun cs b => Region.noSelect_spec hok.sel k l[k] cs b ho) fun x hx => eval_same fun t e => hsame t (looks_tmp (by rw [← e]; exact hx))
        have hsize : a.tmps.size = (fullAct (l.take k) 0 u a0).tmps.size := by rw [fullAct_size, hI.tsize]
        have hy : Yields P (l ++ tail).toArray l[k] c a := .inl ⟨by rw [wanted_same hsame]; exact hw, fun w' => by rw [hexec]; exact hrun w'⟩
        have hls := left_set hun
        cases fuel with
        | zero => omega
        | succ fuel =>
          have hancs : ∀ j, j < (l ++ tail).toArray.size → ((ancT (l ++ tail).toArray).getD k 0).testBit j = true → listed.getD j false = true := fun j hjs hj => by
            obtain ⟨e, he, hb, h2⟩ := hok.anc k _ ho j hjs hj
            rcases h2 with rfl | h2
            · exact hedges e he hb
            · exact hI.closed e.on (hedges e he hb) j hjs h2
          refine wpAny_first ho (Region.noSelect_spec hok.sel) (fun c' a' w' => ?_) fuel listed a w (fun j oj hoj hne hunj hno => (hok.free k hkL _ ho j oj hoj hne hno).resolve_left fun hb => ?_) hready hy ?_
          · cases hd : l[k].dst with
            | none => exact fun h => h
            | some t => exact hQ c' a' t c w'
          · have hjs := (Array.getElem?_eq_some_iff.1 hoj).1
            have hjt := hancs j hjs hb
            have hjs2 : j < listed.size := by rw [hI.size]; exact hjs
            simp only [Array.getD_eq_getD_getElem?, Array.getElem?_eq_getElem hjs2, Option.getD_some] at hjt hunj
            rw [hjt] at hunj
            cases hunj
          · rw [put_inj heq hsize]
            refine ih fuel _ _ _ w (by omega) (by omega) (hI.step hok hE hkl hun ho hedges (Below.refl _ _) hΦ fun b hb => absurd hb (hH b)) fun j hj hjn => ?_
            by_cases hjk : j = k
            · subst hjk; simp [hks]
            · rw [getD_set_ne false (Ne.symm hjk)]; exact hall j hj hjn
  have hopen : ∀ (listed : Array Bool) (u : Nat → Value) (a : Act) (w : World), Inv (l ++ tail).toArray l.length W E a0 listed u a w → ∀ i ∈ Region.ready .any (l ++ tail).toArray listed, l.length ≤ i → ∀ k, k < l.length → k ∉ late → listed.getD k false = true := fun listed u a w hI i hi hli k hk hkn => by
    obtain ⟨_, o, ho, hall⟩ := mem_ready.1 hi
    have his : i < (l ++ tail).toArray.size := (Array.getElem?_eq_some_iff.1 ho).1
    have hks : k < (l ++ tail).toArray.size := by simp; omega
    obtain ⟨e, he, hb, h2⟩ := hok.anc i o ho k hks (hok.tail i hli his k (by omega) hkn)
    rcases h2 with rfl | h2
    · exact hall e he hb
    · exact hI.closed e.on (hall e he hb) k hks h2
  have hnone : ∀ (listed : Array Bool) (u : Nat → Value) (a : Act) (w : World), Inv (l ++ tail).toArray l.length W E a0 listed u a w → Region.ready .any (l ++ tail).toArray listed = [] → ∀ k, k < l.length → listed.getD k false = true := fun listed u a w hI hr => by
    have hall : ∀ n k, k < n → k < l.length → listed.getD k false = true := fun n => by
      induction n with
      | zero => intro k hk; omega
      | succ n ih =>
        intro k hk hkl
        by_cases hlt : k < n
        · exact ih k hlt hkl
        · obtain rfl : k = n := by omega
          cases hc : listed.getD k false with
          | true => rfl
          | false =>
            exfalso
            have hks : k < listed.size := by rw [hI.size]; simp; omega
            have : k ∈ Region.ready .any (l ++ tail).toArray listed := by
              refine mem_ready.2 ⟨by simpa [hks] using hc, l[k], hget k _ (by simp [hkl]), fun e he hb => ?_⟩
              have hlt' := hok.back k l[k] (hget k _ (by simp [hkl])) e he hb
              exact ih e.on hlt' (by omega)
            rw [hr] at this
            cases this
    exact fun k hk => hall l.length k hk hk
  intro fuel
  induction fuel with
  | zero =>
    intro listed u a w hl hI
    refine hdone 0 listed u a w hl hI (hnone listed u a w hI ?_)
    cases hr : Region.ready .any (l ++ tail).toArray listed with
    | nil => rfl
    | cons i rs =>
      have hi : i ∈ Region.ready .any (l ++ tail).toArray listed := by rw [hr]; exact List.mem_cons_self ..
      have := left_set (mem_ready.1 hi).1
      omega
  | succ fuel ih =>
    intro listed u a w hl hI
    by_cases hfull : ∀ k, k < l.length → k ∉ late → listed.getD k false = true
    · exact hlast _ _ listed u a w (Nat.le_refl _) hl hI hfull
    refine ⟨fun hr => absurd (fun k hk _ => hnone listed u a w hI hr k hk) hfull, fun k hk => ?_⟩
    have hkl : k < l.length := by
      rcases Nat.lt_or_ge k l.length with h | h
      · exact h
      · exact absurd (hopen listed u a w hI k hk h) hfull
    obtain ⟨hun, o, ho, hall⟩ := mem_ready.1 hk
    have hol : l[k]? = some o := by simpa [List.getElem?_append_left hkl] using ho
    obtain ⟨hdeps, hsame⟩ := hseen listed u a w hI k o hkl hol hall
    have hstep := hops k o hol u w hI.vals hI.cls (fun j hj => hI.facts j (hdeps j hj)) fun i hi j hj hne => hI.sep i j hne (hdeps i hi) (hdeps j hj)
    have hsize : a.tmps.size = (fullAct (l.take k) 0 u a0).tmps.size := by rw [fullAct_size, hI.tsize]
    refine hstep.move ho (execOp_congr o (fun cs b => Region.noSelect_spec hok.sel k o cs b ho) fun x hx => eval_same fun t e => hsame t (looks_tmp (by rw [← e]; exact hx))) (wanted_same hsame) hsize ?_
    rintro v w' ⟨hG, hv, hfr⟩
    exact ih (listed.setIfInBounds k true) (fun j => if j = k then v else u j) (a.put o.dst v) w' (by have := left_set hun; omega) (hI.step hok hE hkl hun ho hall hG hv hfr)

/-- The value of an operation that takes a part of a tuple: the same in every world. -/
theorem late_extract {ops : Array Oper} {o : Oper} {a : Act} {w : World} {E : Ent} (hE : Good E) {d : List Value} {x : Operand} {i : Nat} (hop : o.op = .extract x i) (hg : o.guard = none)
    (h : wpStepK P ops o a w fun v w' => Below w.heap.size w w' ∧ E.Φ d w' v ∧ ∀ b, E.H v b → w.heap.size ≤ b) :
    ∃ c v, Region.wanted o (yielded ops a.tmps) = true ∧ (∀ w', (execOp a.eval o).run P w' = .ok (.value c) w') ∧ a.put o.dst c = a.put o.dst v ∧ E.Φ d w v ∧ ∀ b, ¬ E.H v b := by
  have hw : Region.wanted o (yielded ops a.tmps) = true := by simp [Region.wanted, hg]
  have h1 := h (fun a'' w'' => ∃ v, a'' = a.put o.dst v ∧ Below w.heap.size w w'' ∧ E.Φ d w'' v ∧ ∀ b, E.H v b → w.heap.size ≤ b) (fun _ _ _ => False) (fun v w' hv => ⟨v, rfl, hv⟩)
  rw [if_pos hw] at h1
  unfold Oper.wp at h1
  have hcase : (∃ c, ∀ w', (execOp a.eval o).run P w' = .ok (.value c) w') ∨ ∃ y, (execOp a.eval o).run P w = .halt (.stuck y) w := by
    simp only [execOp, hop, Instr.extract]
    cases a.eval x with
    | tuple vs =>
      cases hv : vs[i]? with
      | some v => exact .inl ⟨v, fun w' => by simp [Sem.run_pure, hv]⟩
      | none => simp [hv, stuck]
    | _ => simp [stuck]
  rcases hcase with ⟨c, hc⟩ | ⟨y, hy⟩
  · rw [hc w] at h1
    simp only [Oper.upon] at h1
    obtain ⟨v, e, _, hΦ, hf⟩ := h1
    exact ⟨c, v, hw, hc, e, hΦ, fun b hb => by have := hf b hb; have := hE.lt _ _ _ _ hΦ hb; omega⟩
  · rw [hy] at h1
    simp only [Oper.upon] at h1

theorem extract_deps {ops : List Oper} {n : Nat} {late : List Nat} (hok : GrowL ops.toArray n late) {k : Nat} {o : Oper} (hko : ops[k]? = some o) {x : Operand} {i0 : Nat} (hop : o.op = .extract x i0) (hg : o.guard = none)
    {i j : Nat} (hi : i ∈ autoDeps ops.toArray k) (hj : j ∈ autoDeps ops.toArray k) : i = j := by
  have hl : ∀ t ∈ o.looksAt ops.toArray, x = .tmp t := fun t ht => by
    simp only [Oper.looksAt, hop, hg, Op.operands, List.append_nil, List.mem_filterMap] at ht
    obtain ⟨y, hy, e⟩ := ht
    have : y = x := by simpa using hy
    subst this
    cases y <;> simp at e
    rw [e]
  have hsrc : ∀ m ∈ autoDeps ops.toArray k, ∃ t om, ops[m]? = some om ∧ om.dst = some t ∧ t ∈ o.looksAt ops.toArray := fun m hm => by
    unfold autoDeps at hm
    have hk' : ops.toArray[k]? = some o := by simpa using hko
    simp only [hk'] at hm
    have h2 := (List.mem_filter.1 hm).2
    cases hom : ops.toArray[m]? with
    | none => simp [hom] at h2
    | some om =>
      simp only [hom, Option.bind_some] at h2
      cases hd : om.dst with
      | none => simp [hd] at h2
      | some t =>
        simp only [hd, List.contains_iff_mem] at h2
        exact ⟨t, om, by simpa using hom, hd, h2⟩
  obtain ⟨t, oi, h1, h2, h3⟩ := hsrc i hi
  obtain ⟨t', oj, h1', h2', h3'⟩ := hsrc j hj
  have e := (hl t h3).symm.trans (hl t' h3')
  simp only [Operand.tmp.injEq] at e
  subst e
  exact hok.once i j oi oj t (by simpa using h1) (by simpa using h1') h2 h2'

def isExtract (o : Oper) : Bool := (match o.op with | .extract .. => true | _ => false) && o.guard.isNone
theorem isExtract_spec {o : Oper} (h : isExtract o = true) : (∃ x i, o.op = .extract x i) ∧ o.guard = none := by
  unfold isExtract at h
  simp only [Bool.and_eq_true, Option.isNone_iff_eq_none] at h
  refine ⟨?_, h.2⟩
  have h1 := h.1
  split at h1
  · rename_i x i e; exact ⟨x, i, e⟩
  · cases h1

/-- The rule, walked in the order of the text; 'late': operations that only take a part of a tuple, which the tail need not wait for. -/
theorem region_mkL {ops : List Oper} {id : Nat} (n : Nat) (late : List Nat) (hm : P.follows .mixedOrders = true) (hB : growL ops.toArray n late = true)
    (hX : (late.all fun k => match ops[k]? with | some o => isExtract o | none => true) = true) {a0 : Act} {W : World} {Q : Exit → Act → World → Prop}
    (hQ : ∀ c (a : Act) (t : Tmp) v w, Q (.panic c) (a.put (some t) v) w → Q (.panic c) a w)
    (hx : ∃ Es, wpGrow P ops.toArray W (wpList P ops.toArray Q (ops.drop n)) 0 Es (ops.take n) a0 Seen.none) : (Code.region id ops.toArray true).wp P Q a0 W := by
  obtain ⟨Es, h⟩ := hx
  have hok := growLOk hB
  have hn : n ≤ ops.length := by have := hok.le; simpa using this
  have hlen : (ops.take n).length = n := by simp [hn]
  have happ : ops.take n ++ ops.drop n = ops := List.take_append_drop n ops
  have hgood := grow_good _ _ _ _ _ h
  have hE : ∀ k, Good (if k < n then Es.getD k noEnt else noEnt) := fun k => by
    by_cases hk : k < n
    · obtain ⟨E, he, hg⟩ := hgood k (by omega)
      simpa [hk, he] using hg
    · simpa [hk] using noEnt_good
  have key : ∀ u : Nat → Value, (∀ j, (if j < n then Es.getD j noEnt else noEnt).V (u j)) → _ := fun u hV =>
    grow_walk (P := P) (Ef := fun k => if k < n then Es.getD k noEnt else noEnt) (a0 := a0) hV (ops.take n) (ops.take n) [] Es rfl (fun j hj => by
      obtain ⟨E, he, _⟩ := hgood j hj
      have hjn : j < n := by omega
      simp [he, hjn]) h
  have hstep : ∀ (k : Nat) (o : Oper), (ops.take n)[k]? = some o → ∀ (u : Nat → Value) (w : World), (∀ j, (if j < n then Es.getD j noEnt else noEnt).V (u j)) → Below W.heap.size W w →
      (∀ j ∈ autoDeps ops.toArray k, (if j < n then Es.getD j noEnt else noEnt).Φ ((autoDeps ops.toArray j).map u) w (u j)) →
      (∀ i ∈ autoDeps ops.toArray k, ∀ j ∈ autoDeps ops.toArray k, i ≠ j → ∀ b, (if i < n then Es.getD i noEnt else noEnt).H (u i) b → (if j < n then Es.getD j noEnt else noEnt).H (u j) b → False) →
      wpStepK P ops.toArray o (fullAct ((ops.take n).take k) 0 u a0) w fun v w' => Below w.heap.size w w' ∧ (if k < n then Es.getD k noEnt else noEnt).Φ ((autoDeps ops.toArray k).map u) w' v ∧ ∀ b, (if k < n then Es.getD k noEnt else noEnt).H v b → w.heap.size ≤ b := fun k o ho u w hV hC hF hS => by
    have := (key u hV).1 k o (Nat.zero_le _) ho w hC (fun j hj => by
        have hj := List.contains_iff_mem.1 hj
        rw [firsts_fact (autoDeps_lt hj)]; exact hF j hj)
      (fun i j hi hj hne b => by
        have hi := List.contains_iff_mem.1 hi
        have hj := List.contains_iff_mem.1 hj
        rw [firsts_own (autoDeps_lt hi), firsts_own (autoDeps_lt hj)]; exact hS i hi j hj hne b)
    rw [firsts_vals] at this
    exact this
  refine wp_region_any hm ?_
  have main := wpAny_growL (P := P) (l := ops.take n) (tail := ops.drop n) (late := late) (by rw [happ, hlen]; exact hok) W (fun k => if k < n then Es.getD k noEnt else noEnt) hE (a0 := a0) (Q := Q) hQ
    (fun k o ho u w hV hC hF hS => by
      rw [happ] at hF hS ⊢
      exact hstep k o ho u w hV hC hF hS)
    (fun k o hk ho u w hV hC hF => by
      rw [happ] at hF ⊢
      have hko : ops[k]? = some o := by
        rw [List.getElem?_take] at ho
        split at ho
        · exact ho
        · cases ho
      have hx := (List.all_eq_true.1 hX) k hk
      simp only [hko] at hx
      obtain ⟨⟨x, i, hop⟩, hg⟩ := isExtract_spec hx
      -- an extract looks at one temporary: no two of its sources
      refine late_extract (hE k) hop hg (hstep k o ho u w hV hC hF fun i hi j hj hne b h1 h2 => ?_)
      exact absurd (extract_deps hok hko hop hg hi hj) hne)
    (fun u w hV hC hF hS => by
      rw [happ] at hF ⊢
      refine (key u hV).2 w hC (fun j hj => ?_) fun i j hi hj hne b => ?_
      · rw [firsts_fact hj]; exact hF j hj
      · rw [firsts_own hi, firsts_own hj]; exact hS i hi j hj hne b)
  rw [happ] at main
  refine main _ _ (fun k => ((hE k).ne).choose) a0 _ ?_ ⟨by simp, ((Below.refl _ _).drew : Below W.heap.size W W.drew), fun k => ((hE k).ne).choose_spec, fun k hk => absurd hk getD_rep, fun i j _ hi => absurd hi getD_rep,
    fun k hk => absurd hk getD_rep, fun k hk => absurd hk getD_rep, rfl, rfl, fun k o t _ _ hk => absurd hk getD_rep, fun t _ => rfl⟩
  simp [left]
end
end Go.Proofs.Ytldblcolnjkcaaa
