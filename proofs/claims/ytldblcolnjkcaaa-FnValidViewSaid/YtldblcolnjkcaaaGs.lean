/- A region that draws its order with calls in it that all else waits for, or that all later operations wait for: it is walked phase by phase. No conditions. -/
import Derived.Test.YtldblcolnjkcaaaGw
namespace Go.Proofs.Ytldblcolnjkcaaa
open Go.RowKit

section
variable {P : Program}

/-- The checks for a phase: operation n waits for all before it, all later ones wait for it. -/
def growS (ops : Array Oper) (n : Nat) : Bool :=
  Region.noSelect ops && decide (n < ops.size) &&
  (let A := ancT ops
   (List.range ops.size).all fun k =>
    match ops[k]? with
    | none => false
    | some o =>
      (o.after.all fun e => !Region.binds .any e || decide (e.on < k)) &&
      ((List.range ops.size).all fun j => !(A.getD k 0).testBit j || o.after.any fun e => Region.binds .any e && (decide (e.on = j) || (A.getD e.on 0).testBit j)) &&
      (if k < n then (autoDeps ops k).all fun j => (A.getD k 0).testBit j else (List.range (n + 1)).all fun j => decide (j = k) || (A.getD k 0).testBit j) &&
      ((o.looksAt ops).all fun t => (List.range ops.size).all fun j => decide (j < k) || decide (n ≤ j) || ((ops[j]?).bind (·.dst)) != some t) &&
      ((List.range k).all fun j => match o.dst with | none => true | some t => ((ops[j]?).bind (·.dst)) != some t))

structure GrowOkS (ops : Array Oper) (n : Nat) : Prop where
  sel : Region.noSelect ops = true
  le : n ≤ ops.size
  back : ∀ (k : Nat) (o : Oper), ops[k]? = some o → ∀ e ∈ o.after, Region.binds .any e = true → e.on < k
  anc : ∀ (k : Nat) (o : Oper), ops[k]? = some o → ∀ j, j < ops.size → ((ancT ops).getD k 0).testBit j = true → ∃ e ∈ o.after, Region.binds .any e = true ∧ (e.on = j ∨ ((ancT ops).getD e.on 0).testBit j = true)
  dep : ∀ k, k < n → ∀ j ∈ autoDeps ops k, ((ancT ops).getD k 0).testBit j = true
  tail : ∀ k, n ≤ k → k < ops.size → ∀ j, j < n → ((ancT ops).getD k 0).testBit j = true
  look : ∀ (k : Nat) (o : Oper), ops[k]? = some o → ∀ t ∈ o.looksAt ops, ∀ (j : Nat) (o' : Oper), ops[j]? = some o' → o'.dst = some t → n ≤ j ∨ j ∈ autoDeps ops k
  once : ∀ (i j : Nat) (o o' : Oper) (t : Tmp), ops[i]? = some o → ops[j]? = some o' → o.dst = some t → o'.dst = some t → i = j

theorem GrowOk.phase {ops : Array Oper} {n : Nat} (h : GrowOk ops n) : GrowOkS ops n :=
  ⟨h.sel, h.le, h.back, h.anc, h.dep, fun k hk hks j hj => h.tail k hk hks j (by omega), h.look, h.once⟩
theorem growOkS {ops : Array Oper} {n : Nat} (h : growS ops n = true) : GrowOkS ops n ∧ n < ops.size ∧ ∀ k, n < k → k < ops.size → ((ancT ops).getD k 0).testBit n = true := by
  simp only [growS, Bool.and_eq_true, List.all_eq_true, List.mem_range] at h
  obtain ⟨⟨hs, hn⟩, h⟩ := h
  have H : ∀ (k : Nat) (o : Oper), ops[k]? = some o → _ := fun k o ho => h k (Array.getElem?_eq_some_iff.1 ho).1
  have hn : n < ops.size := by simpa using hn
  refine ⟨⟨hs, Nat.le_of_lt hn, fun k o ho e he hb => ?_, fun k o ho j hjs hj => ?_, fun k hk j hj => ?_, fun k hk hks j hj => ?_, fun k o ho t ht j o' hj hd => ?_, fun i j o o' t hi hj hd hd' => ?_⟩, hn, fun k hk hks => ?_⟩
  · have := H k o ho
    simp only [ho, Bool.and_eq_true] at this
    have := (Array.all_eq_true_iff_forall_mem.1 this.1.1.1.1) e he
    simpa [hb] using this
  · have := H k o ho
    simp only [ho, Bool.and_eq_true] at this
    have := (List.all_eq_true.1 this.1.1.1.2) j (List.mem_range.2 hjs)
    simp only [hj, Bool.not_true, Bool.false_or, Array.any_eq_true'] at this
    obtain ⟨e, he, h2⟩ := this
    simp only [Bool.and_eq_true, Bool.or_eq_true, decide_eq_true_eq] at h2
    exact ⟨e, he, h2.1, h2.2⟩
  · have hks : k < ops.size := Nat.lt_trans hk hn
    have := H k ops[k] (by simp [hks])
    simp only [Array.getElem?_eq_getElem hks, Bool.and_eq_true, if_pos hk] at this
    exact (List.all_eq_true.1 this.1.1.2) j hj
  · have := H k ops[k] (by simp [hks])
    simp only [Array.getElem?_eq_getElem hks, Bool.and_eq_true, if_neg (Nat.not_lt.2 hk)] at this
    have := (List.all_eq_true.1 this.1.1.2) j (List.mem_range.2 (by omega))
    have hjk : j ≠ k := by omega
    simpa [hjk] using this
  · have := H k o ho
    simp only [ho, Bool.and_eq_true] at this
    have := (List.all_eq_true.1 ((List.all_eq_true.1 this.1.2) t ht)) j (List.mem_range.2 (Array.getElem?_eq_some_iff.1 hj).1)
    have hjk : j < k ∨ n ≤ j := by simpa [hj, hd] using this
    rcases hjk with hjk | hjk
    case inr => exact .inl hjk
    refine .inr ?_
    unfold autoDeps
    simp only [ho]
    exact List.mem_filter.2 ⟨List.mem_range.2 hjk, by simp [hj, hd, ht]⟩
  · have key : ∀ (i j : Nat) (o o' : Oper), ops[i]? = some o → ops[j]? = some o' → o.dst = some t → o'.dst = some t → ¬ i < j := fun i j o o' hi hj hd hd' hlt => by
      have := H j o' hj
      simp only [hj, Bool.and_eq_true] at this
      have := (List.all_eq_true.1 this.2) i (List.mem_range.2 hlt)
      simp [hd', hi, hd] at this
    have h1 := key i j o o' hi hj hd hd'
    have h2 := key j i o' o hj hi hd' hd
    omega
  · have := H k ops[k] (by simp [hks])
    simp only [Array.getElem?_eq_getElem hks, Bool.and_eq_true, if_neg (Nat.not_lt.2 (Nat.le_of_lt hk))] at this
    have := (List.all_eq_true.1 this.1.1.2) n (List.mem_range.2 (by omega))
    have hjk : n ≠ k := by omega
    simpa [hjk] using this

theorem full_of_invS {l tail : List Oper} {W : World} {E : Nat → Ent} {a0 a : Act} {listed : Array Bool} {u : Nat → Value} {w : World}
    (hok : GrowOkS (l ++ tail).toArray l.length) (hI : Inv (l ++ tail).toArray l.length W E a0 listed u a w) (hall : ∀ k, k < l.length → listed.getD k false = true) : a = fullAct l 0 u a0 := by
  have hget : ∀ (j : Nat) (o : Oper), l[j]? = some o → (l ++ tail).toArray[j]? = some o := fun j o hj => by
    have hjl : j < l.length := (List.getElem?_eq_some_iff.1 hj).1
    simpa [List.getElem?_append_left hjl] using hj
  refine act_ext (fun t => ?_) (by rw [fullAct_defers, hI.defers])
  by_cases hex : ∃ (j : Nat) (o : Oper), l[j]? = some o ∧ o.dst = some t
  · obtain ⟨j, o, hj, hd⟩ := hex
    have hjl : j < l.length := (List.getElem?_eq_some_iff.1 hj).1
    by_cases ht' : t < a0.tmps.size
    · rw [hI.at_ j o t (hget j o hj) hd (hall j hjl) ht', fullAct_at l 0 u a0 t j o hj hd ht' fun i o' hi hd' => hok.once i j o' o t (hget i o' hi) (hget j o hj) hd' hd, Nat.zero_add]
    · rw [Array.getElem?_eq_none (by rw [hI.tsize]; exact Nat.le_of_not_lt ht'), Array.getElem?_eq_none (by rw [fullAct_size]; exact Nat.le_of_not_lt ht')]
  · have hno : ∀ (j : Nat) (o : Oper), l[j]? = some o → o.dst ≠ some t := fun j o hj hd => hex ⟨j, o, hj, hd⟩
    rw [fullAct_other l 0 u a0 t hno, hI.other t fun k o hk hd => ?_]
    cases hc : listed.getD k false with
    | false => rfl
    | true =>
      have hkl := hI.only k hc
      refine absurd hd (hno k o ?_)
      simpa [List.getElem?_append_left hkl] using hk

theorem wpAny_growD {l tail : List Oper} (hok : GrowOkS (l ++ tail).toArray l.length) (W : World) (E : Nat → Ent) (hE : ∀ k, Good (E k)) {a0 : Act} {Q : Exit → Act → World → Prop}
    (h0 : Nat) (hops : ∀ (k : Nat) (o : Oper), h0 ≤ k → l[k]? = some o → ∀ (u : Nat → Value) (w : World), (∀ j, (E j).V (u j)) → Below W.heap.size W w →
      (∀ j ∈ autoDeps (l ++ tail).toArray k, (E j).Φ ((autoDeps (l ++ tail).toArray j).map u) w (u j)) →
      (∀ i ∈ autoDeps (l ++ tail).toArray k, ∀ j ∈ autoDeps (l ++ tail).toArray k, i ≠ j → ∀ b, (E i).H (u i) b → (E j).H (u j) b → False) →
      wpStepK P (l ++ tail).toArray o (fullAct (l.take k) 0 u a0) w fun v w' => Below w.heap.size w w' ∧ (E k).Φ ((autoDeps (l ++ tail).toArray k).map u) w' v ∧ ∀ b, (E k).H v b → w.heap.size ≤ b)
    (hdone : ∀ (fuel : Nat) (listed : Array Bool) (u : Nat → Value) (a : Act) (w : World), left listed ≤ fuel → Inv (l ++ tail).toArray l.length W E a0 listed u a w → (∀ k, k < l.length → listed.getD k false = true) → wpAny P .any (l ++ tail).toArray Q fuel listed a w) :
    ∀ (fuel : Nat) (listed : Array Bool) (u : Nat → Value) (a : Act) (w : World), left listed ≤ fuel → (∀ k, k < h0 → listed.getD k false = true) → Inv (l ++ tail).toArray l.length W E a0 listed u a w → wpAny P .any (l ++ tail).toArray Q fuel listed a w := by
  have hget : ∀ (j : Nat) (o : Oper), l[j]? = some o → (l ++ tail).toArray[j]? = some o := fun j o hj => by
    have hjl : j < l.length := (List.getElem?_eq_some_iff.1 hj).1
    simpa [List.getElem?_append_left hjl] using hj
  have hopen : ∀ (listed : Array Bool) (u : Nat → Value) (a : Act) (w : World), Inv (l ++ tail).toArray l.length W E a0 listed u a w → ∀ i ∈ Region.ready .any (l ++ tail).toArray listed, l.length ≤ i → ∀ k, k < l.length → listed.getD k false = true := fun listed u a w hI i hi hli k hk => by
    obtain ⟨_, o, ho, hall⟩ := mem_ready.1 hi
    have his : i < (l ++ tail).toArray.size := (Array.getElem?_eq_some_iff.1 ho).1
    have hks : k < (l ++ tail).toArray.size := by simp; omega
    obtain ⟨e, he, hb, h2⟩ := hok.anc i o ho k hks (hok.tail i hli his k hk)
    rcases h2 with rfl | h2
    · exact hall e he hb
    · exact hI.closed e.on (hall e he hb) k hks h2
  have hnone : ∀ (listed : Array Bool) (u : Nat → Value) (a : Act) (w : World), Inv (l ++ tail).toArray l.length W E a0 listed u a w → Region.ready .any (l ++ tail).toArray listed = [] → ∀ k, k < l.length → listed.getD k false = true := fun listed u a w hI hr => by
    have hall : ∀ n k, k < n → k < l.length → listed.getD k false = true := fun n => by
      induction n with
      | zero => intro k hk; omega
      | succ n ih =>
        intro k hk hkl
        by_cases hlt : k < n
        · exact ih k hlt hkl
        · obtain rfl : k = n := by omega
          cases hc : listed.getD k false with
          | true => rfl
          | false =>
            exfalso
            have hks : k < listed.size := by rw [hI.size]; simp; omega
            have : k ∈ Region.ready .any (l ++ tail).toArray listed := by
              refine mem_ready.2 ⟨by simpa [hks] using hc, l[k], hget k _ (by simp [hkl]), fun e he hb => ?_⟩
              have hlt' := hok.back k l[k] (hget k _ (by simp [hkl])) e he hb
              exact ih e.on hlt' (by omega)
            rw [hr] at this
            cases this
    exact fun k hk => hall l.length k hk hk
  intro fuel
  induction fuel with
  | zero =>
    intro listed u a w hl hL hI
    refine hdone 0 listed u a w hl hI (hnone listed u a w hI ?_)
    cases hr : Region.ready .any (l ++ tail).toArray listed with
    | nil => rfl
    | cons i rs =>
      have hi : i ∈ Region.ready .any (l ++ tail).toArray listed := by rw [hr]; exact List.mem_cons_self ..
      have := left_set (mem_ready.1 hi).1
      omega
  | succ fuel ih =>
    intro listed u a w hl hL hI
    by_cases hfull : ∀ k, k < l.length → listed.getD k false = true
    · exact hdone _ listed u a w hl hI hfull
    refine ⟨fun hr => absurd (hnone listed u a w hI hr) hfull, fun k hk => ?_⟩
    have hkl : k < l.length := by
      rcases Nat.lt_or_ge k l.length with h | h
      · exact h
      · exact absurd (hopen listed u a w hI k hk h) hfull
    obtain ⟨hun, o, ho, hall⟩ := mem_ready.1 hk
    have hol : l[k]? = some o := by simpa [List.getElem?_append_left hkl] using ho
    have hks : k < listed.size := by rw [hI.size]; simp; omega
    have hk0 : h0 ≤ k := by
      rcases Nat.lt_or_ge k h0 with h | h
      · have := hL k h
        simp only [Array.getD_eq_getD_getElem?] at hun this
        rw [Array.getElem?_eq_getElem hks] at hun this
        simp only [Option.getD_some] at hun this
        rw [hun] at this
        cases this
      · exact h
    have hunf : listed.getD k false = false := by simpa [hks] using hun
    have hancs : ∀ j, j < (l ++ tail).toArray.size → ((ancT (l ++ tail).toArray).getD k 0).testBit j = true → listed.getD j false = true := fun j hjs hj => by
      obtain ⟨e, he, hb, h2⟩ := hok.anc k o ho j hjs hj
      rcases h2 with rfl | h2
      · exact hall e he hb
      · exact hI.closed e.on (hall e he hb) j hjs h2
    have hdeps : ∀ j ∈ autoDeps (l ++ tail).toArray k, listed.getD j false = true := fun j hj => hancs j (by have := autoDeps_lt hj; simp; omega) (hok.dep k hkl j hj)
    have hkd : ∀ j, listed.getD j false = true → k ∉ autoDeps (l ++ tail).toArray j := fun j hj hkj => by
      have := hI.closed j hj k (by simp; omega) (hok.dep j (hI.only j hj) k hkj)
      rw [hunf] at this
      cases this
    have hstep := hops k o hk0 hol u w hI.vals hI.cls (fun j hj => hI.facts j (hdeps j hj)) fun i hi j hj hne => hI.sep i j hne (hdeps i hi) (hdeps j hj)
    have hsame : ∀ t ∈ o.looksAt (l ++ tail).toArray, a.tmps[t]? = (fullAct (l.take k) 0 u a0).tmps[t]? := fun t ht => by
      by_cases hex : ∃ (j : Nat) (o' : Oper), l[j]? = some o' ∧ o'.dst = some t
      · obtain ⟨j, o', hjl, hd⟩ := hex
        have hjn : j < l.length := (List.getElem?_eq_some_iff.1 hjl).1
        have hjd : j ∈ autoDeps (l ++ tail).toArray k := by
          rcases hok.look k o ho t ht j o' (hget j o' hjl) hd with h | h
          · omega
          · exact h
        have hjk := autoDeps_lt hjd
        by_cases ht' : t < a0.tmps.size
        · rw [hI.at_ j o' t (hget j o' hjl) hd (hdeps j hjd) ht', fullAct_at (l.take k) 0 u a0 t j o' (by rw [List.getElem?_take, if_pos hjk]; exact hjl) hd ht' fun i o'' hi hd' => ?_, Nat.zero_add]
          rw [List.getElem?_take] at hi
          split at hi
          · exact hok.once i j o'' o' t (hget i o'' hi) (hget j o' hjl) hd' hd
          · cases hi
        · rw [Array.getElem?_eq_none (by rw [hI.tsize]; exact Nat.le_of_not_lt ht'), Array.getElem?_eq_none (by rw [fullAct_size]; exact Nat.le_of_not_lt ht')]
      · have hno : ∀ (j : Nat) (o' : Oper), l[j]? = some o' → o'.dst ≠ some t := fun j o' hj hd => hex ⟨j, o', hj, hd⟩
        rw [hI.other t fun j o' hj hd => ?_, fullAct_other]
        · intro j o' hj
          rw [List.getElem?_take] at hj
          split at hj
          · exact hno j o' hj
          · cases hj
        · cases hc : listed.getD j false with
          | false => rfl
          | true =>
            have hjn := hI.only j hc
            exact absurd hd (hno j o' (by simpa [List.getElem?_append_left hjn] using hj))
    have hsize : a.tmps.size = (fullAct (l.take k) 0 u a0).tmps.size := by rw [fullAct_size, hI.tsize]
    refine hstep.move ho (execOp_congr o (fun cs b => Region.noSelect_spec hok.sel k o cs b ho) fun x hx => eval_same fun t e => hsame t (looks_tmp (by rw [← e]; exact hx))) (wanted_same hsame) hsize ?_
    rintro v w' ⟨hG, hv, hfr⟩
    have hset : ∀ j, (listed.setIfInBounds k true).getD j false = true ↔ j = k ∨ listed.getD j false = true := fun j => by
      by_cases hjk : j = k
      · subst hjk; simp [hks]
      · rw [getD_set_ne false (Ne.symm hjk)]; simp [hjk]
    refine ih (listed.setIfInBounds k true) (fun j => if j = k then v else u j) (a.put o.dst v) w' (by have := left_set hun; omega) (fun j hj => (hset j).2 (.inr (hL j hj))) ?_
    have hmap : ∀ j, k ∉ autoDeps (l ++ tail).toArray j → (autoDeps (l ++ tail).toArray j).map (fun j => if j = k then v else u j) = (autoDeps (l ++ tail).toArray j).map u := fun j hj =>
      List.map_congr_left fun i hi => by
        have : i ≠ k := fun e => hj (e ▸ hi)
        simp [this]
    have hkk : k ∉ autoDeps (l ++ tail).toArray k := fun h => by have := autoDeps_lt h; omega
    have hold : ∀ j, listed.getD j false = true → j ≠ k := fun j hj e => by rw [e, hunf] at hj; cases hj
    refine ⟨by simpa using hI.size, hI.cls.trans (hG.mono hI.cls.size), fun j => ?_, fun j hj => ?_, fun i j hne hi hj b hbi hbj => ?_, fun j hj i his hi => ?_, fun j hj => ?_, by rw [put_defers]; exact hI.defers, by rw [put_size]; exact hI.tsize, fun j o' t hj hd hl' hts => ?_, fun t hno => ?_⟩
    · by_cases hjk : j = k
      · subst hjk; simp only [if_true]; exact (hE j).imp _ _ _ hv
      · simp only [hjk, if_false]; exact hI.vals j
    · rcases (hset j).1 hj with rfl | h
      · simp only [if_true, hmap _ hkk]; exact hv
      · simp only [hold j h, if_false, hmap _ (hkd j h)]; exact (hE j).mono _ w w' _ hG (hI.facts j h)
    · rcases (hset i).1 hi with rfl | h1
      · rcases (hset j).1 hj with rfl | h2
        · exact hne rfl
        · simp only [if_true] at hbi
          simp only [hold j h2, if_false] at hbj
          have h3 := hfr b hbi
          have h4 := (hE j).lt _ _ _ _ (hI.facts j h2) hbj
          omega
      · rcases (hset j).1 hj with rfl | h2
        · simp only [if_true] at hbj
          simp only [hold i h1, if_false] at hbi
          have h3 := hfr b hbj
          have h4 := (hE i).lt _ _ _ _ (hI.facts i h1) hbi
          omega
        · simp only [hold i h1, if_false] at hbi
          simp only [hold j h2, if_false] at hbj
          exact hI.sep i j hne h1 h2 b hbi hbj
    · rcases (hset j).1 hj with rfl | h
      · exact (hset i).2 (.inr (hancs i his hi))
      · exact (hset i).2 (.inr (hI.closed j h i his hi))
    · rcases (hset j).1 hj with rfl | h
      · exact hkl
      · exact hI.only j h
    · by_cases hjk : j = k
      · subst hjk
        have : o' = o := by rw [ho] at hj; simpa using hj.symm
        subst this
        rw [hd, put_get _ _ _ (by rw [hI.tsize]; exact hts)]
        simp
      · have hlj : listed.getD j false = true := by rcases (hset j).1 hl' with h | h; exact absurd h hjk; exact h
        rw [put_get_ne _ _ _ _ fun e => hjk (hok.once j k o' o t hj ho hd e), hI.at_ j o' t hj hd hlj hts]
        simp [hjk]
    · have hdk : o.dst ≠ some t := fun e => by
        have := hno k o ho e
        rw [(hset k).2 (.inl rfl)] at this
        cases this
      rw [put_get_ne _ _ _ _ hdk]
      refine hI.other t fun j o' hj hd => ?_
      have := hno j o' hj hd
      cases hc : listed.getD j false with
      | false => rfl
      | true => rw [(hset j).2 (.inr hc)] at this; cases this


/-- The operations before number h have come up, no other one. -/
def At (P : Program) (ops : Array Oper) (Q : Exit → Act → World → Prop) (h : Nat) (a : Act) (w : World) : Prop :=
  ∀ (fuel : Nat) (listed : Array Bool), left listed ≤ fuel → listed.size = ops.size → (∀ j, listed.getD j false = true ↔ j < h) → wpAny P .any ops Q fuel listed a w
def Seen.blank (vs : List Value) (h : Nat) : Seen := ⟨vs, List.replicate h (fun _ => True), List.replicate h (fun _ => False)⟩

theorem anc_lt {ops : Array Oper} {n : Nat} (hok : GrowOkS ops n) : ∀ d k, k ≤ d → ∀ j, k < ops.size → j < ops.size → ((ancT ops).getD k 0).testBit j = true → j < k := by
  intro d
  induction d with
  | zero =>
    intro k hk j hks hjs hb
    obtain ⟨e, he, hbi, _⟩ := hok.anc k ops[k] (by simp [hks]) j hjs hb
    have := hok.back k ops[k] (by simp [hks]) e he hbi
    omega
  | succ d ih =>
    intro k hk j hks hjs hb
    obtain ⟨e, he, hbi, h2⟩ := hok.anc k ops[k] (by simp [hks]) j hjs hb
    have := hok.back k ops[k] (by simp [hks]) e he hbi
    rcases h2 with rfl | h2
    · exact this
    · exact Nat.lt_trans (ih e.on (by omega) j (by omega) hjs h2) this
theorem put_same (a : Act) (d : Option Tmp) (v : Value) (h : ∀ t, d = some t → v = a.tmps.getD t undef) : a.put d v = a := by
  cases d with
  | none => rfl
  | some t =>
    refine act_ext (fun s => ?_) rfl
    simp only [Act.put]
    by_cases hs : t = s
    · subst hs
      rw [h t rfl]
      by_cases ht : t < a.tmps.size
      · simp [ht]
      · rw [Array.setIfInBounds_eq_of_size_le (Nat.le_of_not_lt ht)]
    · rw [Array.getElem?_setIfInBounds_ne hs]
theorem fullAct_same : ∀ (l : List Oper) (k : Nat) (u : Nat → Value) (a : Act), (∀ (j : Nat) (o : Oper) (t : Tmp), l[j]? = some o → o.dst = some t → u (k + j) = a.tmps.getD t undef) → fullAct l k u a = a
  | [], _, _, _, _ => rfl
  | o :: rest, k, u, a, h => by
    rw [fullAct, put_same a o.dst (u k) fun t ht => h 0 o t rfl ht]
    exact fullAct_same rest (k + 1) u a fun j o' t hj hd => by
      have := h (j + 1) o' t (by simpa using hj) hd
      rwa [Nat.add_assoc, Nat.add_comm 1 j]

/-- What operation number j has left in a. -/
def leftBy (ops : Array Oper) (a : Act) (j : Nat) : Value := match (ops[j]?).bind (·.dst) with | some t => a.tmps.getD t undef | none => undef
theorem blank_of {ops : Array Oper} {E : Nat → Ent} {u : Nat → Value} {h : Nat} (hF : ∀ j, j < h → ∀ w, (E j).Φ ((autoDeps ops j).map u) w (u j)) (hH : ∀ j, j < h → ∀ b, ¬ (E j).H (u j) b) :
    firsts ops E u h = Seen.blank ((List.range h).map u).reverse h := by
  simp only [firsts, Seen.blank, Seen.mk.injEq, true_and]
  refine ⟨List.eq_replicate_iff.2 ⟨by simp, fun f hf => ?_⟩, List.eq_replicate_iff.2 ⟨by simp, fun f hf => ?_⟩⟩
  · simp only [List.mem_reverse, List.mem_map, List.mem_range] at hf
    obtain ⟨j, hj, rfl⟩ := hf
    exact funext fun w => propext ⟨fun _ => trivial, fun _ => hF j hj w⟩
  · simp only [List.mem_reverse, List.mem_map, List.mem_range] at hf
    obtain ⟨j, hj, rfl⟩ := hf
    exact funext fun b => propext ⟨fun hb => hH j hj b hb, fun h => h.elim⟩

theorem at_grow {l tail : List Oper} {h : Nat} (hok : GrowOkS (l ++ tail).toArray l.length) (hh : h ≤ l.length) {a : Act} {W W1 : World} (hW : Below W.heap.size W W1) {Q : Exit → Act → World → Prop} {R : Act → World → Prop}
    (hx : ∃ Es, ∀ vs, wpGrow P (l ++ tail).toArray W R h Es (l.drop h) a (Seen.blank vs h))
    (hR : ∀ a' w', R a' w' → At P (l ++ tail).toArray Q l.length a' w') : At P (l ++ tail).toArray Q h a W1 := by
  intro fuel listed hl hs hj
  obtain ⟨Es, hx⟩ := hx
  have hgood := grow_good _ _ _ _ _ (hx [])
  obtain ⟨E, hEd⟩ : ∃ E : Nat → Ent, E = fun k => if k < h then Ent.is (leftBy (l ++ tail).toArray a k) else if k < l.length then Es.getD (k - h) noEnt else noEnt := ⟨_, rfl⟩
  have hE1 : ∀ k, k < h → E k = Ent.is (leftBy (l ++ tail).toArray a k) := fun k hk => by rw [hEd]; simp [hk]
  have hE2 : ∀ k, h ≤ k → k < l.length → Es[k - h]? = some (E k) ∧ Good (E k) := fun k hk hkl => by
    obtain ⟨e, he, hg⟩ := hgood (k - h) (by simp; omega)
    have : E k = e := by rw [hEd]; simp [Nat.not_lt.2 hk, hkl, he]
    rw [this]
    exact ⟨he, hg⟩
  have hE : ∀ k, Good (E k) := fun k => by
    by_cases h1 : k < h
    · rw [hE1 k h1]; exact Ent.is_good _
    · by_cases h2 : k < l.length
      · exact (hE2 k (by omega) h2).2
      · rw [hEd]; simp [h1, h2]; exact noEnt_good
  have hget : ∀ (j : Nat) (o : Oper), l[j]? = some o → (l ++ tail).toArray[j]? = some o := fun j o hj => by
    have hjl : j < l.length := (List.getElem?_eq_some_iff.1 hj).1
    simpa [List.getElem?_append_left hjl] using hj
  have key : ∀ u : Nat → Value, (∀ j, (E j).V (u j)) → _ := fun u hV =>
    grow_walk (P := P) (ops := (l ++ tail).toArray) (W := W) (R := R) (Ef := E) (a0 := a) hV l (l.drop h) (l.take h) Es (List.take_append_drop h l).symm (fun j hj => by
      have hj' : j < l.length - h := by simpa using hj
      have := (hE2 (h + j) (by omega) (by omega)).1
      rw [List.length_take, Nat.min_eq_left hh]
      rwa [show h + j - h = j by omega] at this) (by
      have hu : ∀ j, j < h → u j = leftBy (l ++ tail).toArray a j := fun j hj => by have := hV j; rw [hE1 j hj] at this; exact this
      have e1 : fullAct (l.take h) 0 u a = a := fullAct_same _ _ _ _ fun j o t hj hd => by
        rw [List.getElem?_take] at hj
        split at hj
        · rename_i hjh
          rw [Nat.zero_add, hu j hjh, leftBy, hget j o hj]
          simp [hd]
        · cases hj
      rw [List.length_take, Nat.min_eq_left hh, e1, blank_of (fun j hj w => by rw [hE1 j hj]; exact hu j hj) (fun j hj b hb => by rw [hE1 j hj] at hb; exact hb)]
      exact hx _)
  have hlen : (l.take h).length = h := by rw [List.length_take, Nat.min_eq_left hh]
  refine wpAny_growD hok W E hE (a0 := a) h (fun k o hk ho u w hV hC hF hS => ?_) (fun fuel listed u a' w hl' hI hall => ?_) fuel listed (fun k => if k < h then leftBy (l ++ tail).toArray a k else (hE k).ne.choose) a W1 hl (fun k hk => (hj k).2 hk)
    ⟨by simpa using hs, hW, fun k => ?_, fun k hk => ?_, fun i j _ hi _ b hb => ?_, fun k hk j hjs hb => ?_, fun k hk => by have := (hj k).1 hk; omega, rfl, rfl, fun k o t ho hd hk ht => ?_, fun t _ => rfl⟩
  · have := (key u hV).1 k o (by rw [hlen]; exact hk) ho w hC (fun j hj => by
        have hj := List.contains_iff_mem.1 hj
        rw [firsts_fact (autoDeps_lt hj)]; exact hF j hj)
      (fun i j hi hj hne b => by
        have hi := List.contains_iff_mem.1 hi
        have hj := List.contains_iff_mem.1 hj
        rw [firsts_own (autoDeps_lt hi), firsts_own (autoDeps_lt hj)]; exact hS i hi j hj hne b)
    rw [firsts_vals] at this
    exact this
  · have e := full_of_invS hok hI hall
    subst e
    refine hR _ w ((key u hI.vals).2 w hI.cls (fun j hj => ?_) fun i j hi hj hne b => ?_) fuel listed hl' (by simpa using hI.size) fun j => ⟨hI.only j, hall j⟩
    · rw [firsts_fact hj]; exact hI.facts j (hall j hj)
    · rw [firsts_own hi, firsts_own hj]; exact hI.sep i j hne (hall i hi) (hall j hj) b
  · by_cases hk : k < h
    · simp only [hk, if_true]; rw [hE1 k hk]; rfl
    · simp only [hk, if_false]; exact (hE k).ne.choose_spec
  · have hk := (hj k).1 hk
    simp only [hk, if_true]; rw [hE1 k hk]; rfl
  · have hi := (hj i).1 hi
    simp only [hi, if_true] at hb
    rw [hE1 i hi] at hb
    exact hb.elim
  · have hk := (hj k).1 hk
    have hks : k < (l ++ tail).toArray.size := by simp; omega
    have := anc_lt hok k k (Nat.le_refl _) j hks hjs hb
    exact (hj j).2 (by omega)
  · have hk := (hj k).1 hk
    simp only [hk, if_true, leftBy, ho, Option.bind_some, hd]
    simp [ht]

theorem at_next {l tail : List Oper} {o : Oper} (hok : GrowOkS (l ++ o :: tail).toArray l.length) (hmid : ∀ k, l.length < k → k < (l ++ o :: tail).toArray.size → ((ancT (l ++ o :: tail).toArray).getD k 0).testBit l.length = true)
    {a : Act} {w : World} {Q : Exit → Act → World → Prop} (h : wpOp P (l ++ o :: tail).toArray Q l.length (At P (l ++ o :: tail).toArray Q (l.length + 1)) a w) : At P (l ++ o :: tail).toArray Q l.length a w := by
  intro fuel listed hl hs hj
  have hns : l.length < (l ++ o :: tail).toArray.size := by simp
  have hkf : listed.getD l.length false = false := by
    cases hc : listed.getD l.length false with
    | false => rfl
    | true => have := (hj _).1 hc; omega
  have hkt : listed.getD l.length true = false := by
    simp only [Array.getD_eq_getD_getElem?] at hkf ⊢
    rw [Array.getElem?_eq_getElem (by omega)] at hkf ⊢
    simpa using hkf
  have ho : (l ++ o :: tail).toArray[l.length]? = some o := by simp
  have hrk : l.length ∈ Region.ready .any (l ++ o :: tail).toArray listed := mem_ready.2 ⟨hkt, _, ho, fun e he hb => (hj _).2 (hok.back _ _ ho e he hb)⟩
  cases fuel with
  | zero => have := left_set hkt; omega
  | succ fuel =>
    refine ⟨fun h0 => (by rw [h0] at hrk; cases hrk), fun i hi => ?_⟩
    obtain ⟨h1, o', ho', hall⟩ := mem_ready.1 hi
    have his : i < (l ++ o :: tail).toArray.size := (Array.getElem?_eq_some_iff.1 ho').1
    have hil : l.length ≤ i := by
      rcases Nat.lt_or_ge i l.length with h' | h'
      · have := (hj i).2 h'
        simp only [Array.getD_eq_getD_getElem?] at h1 this
        rw [Array.getElem?_eq_getElem (by omega)] at h1 this
        simp only [Option.getD_some] at h1 this
        rw [h1] at this
        cases this
      · exact h'
    have hie : i = l.length := by
      rcases Nat.eq_or_lt_of_le hil with h' | h'
      · exact h'.symm
      · exfalso
        obtain ⟨e, he, hb, h2⟩ := hok.anc i o' ho' l.length hns (hmid i h' his)
        have hel := (hj _).1 (hall e he hb)
        rcases h2 with h2 | h2
        · omega
        · have := anc_lt hok e.on e.on (Nat.le_refl _) l.length (by omega) hns h2
          omega
    subst hie
    refine wpOp_mono (fun a' w' h' => h' fuel _ ?_ (by simpa using hs) fun j => ?_) h
    · have := left_set hkt; omega
    · by_cases hjk : j = l.length
      · subst hjk
        have : l.length < listed.size := by omega
        simp [this]
      · rw [getD_set_ne false (Ne.symm hjk), hj]; omega

/-- A phase that ends with an operation that waits for all before it and that all later ones wait for. -/
theorem phase_next {ops : List Oper} (h n : Nat) (hB : growS ops.toArray n = true) (hh : h ≤ n) {a : Act} {W W1 : World} (hW : Below W.heap.size W W1) {Q : Exit → Act → World → Prop}
    (hx : ∃ Es, ∀ vs, wpGrow P ops.toArray W (wpOp P ops.toArray Q n (At P ops.toArray Q (n + 1))) h Es ((ops.take n).drop h) a (Seen.blank vs h)) : At P ops.toArray Q h a W1 := by
  obtain ⟨hok, hns, hmid⟩ := growOkS hB
  have hns' : n < ops.length := by simpa using hns
  have hlen : (ops.take n).length = n := by simp; omega
  have e : ops.take n ++ ops[n] :: ops.drop (n + 1) = ops := by rw [← List.drop_eq_getElem_cons hns', List.take_append_drop]
  have hok' : GrowOkS (ops.take n ++ ops[n] :: ops.drop (n + 1)).toArray (ops.take n).length := by rw [e, hlen]; exact hok
  have := at_grow (P := P) (l := ops.take n) (tail := ops[n] :: ops.drop (n + 1)) hok' (by rw [hlen]; exact hh) (a := a) hW (Q := Q) (R := wpOp P ops.toArray Q n (At P ops.toArray Q (n + 1))) (by rw [e]; exact hx)
    (fun a' w' h' => at_next hok' (by rw [e, hlen]; exact hmid) (by rw [e, hlen]; exact h'))
  rwa [e] at this
/-- The last phase; the operations from number n on are its tail. -/
theorem phase_last {ops : List Oper} (h n : Nat) (hB : growB ops.toArray n = true) (hh : h ≤ n) {a : Act} {W W1 : World} (hW : Below W.heap.size W W1) {Q : Exit → Act → World → Prop}
    (hx : ∃ Es, ∀ vs, wpGrow P ops.toArray W (wpList P ops.toArray Q (ops.drop n)) h Es ((ops.take n).drop h) a (Seen.blank vs h)) : At P ops.toArray Q h a W1 := by
  have hok := growOk hB
  have hn : n ≤ ops.length := by simpa using hok.le
  have hlen : (ops.take n).length = n := by simp; omega
  have e : ops.take n ++ ops.drop n = ops := List.take_append_drop n ops
  have := at_grow (P := P) (l := ops.take n) (tail := ops.drop n) (by rw [e, hlen]; exact hok.phase) (by rw [hlen]; exact hh) (a := a) hW (Q := Q) (R := wpList P ops.toArray Q (ops.drop n)) (by rw [e]; exact hx)
    (fun a' w' h' => by
      intro fuel listed hl hs hj
      rw [hlen] at hj
      have hok2 : GrowOk (ops.take n ++ ops.drop n).toArray n := by rw [e]; exact hok
      refine wpAny_tail (P := P) (l := ops.take n) (tail := ops.drop n) hok2 (ops.length - n) n (by rw [e]; omega) (Nat.le_refl _) fuel listed a' w' hl (by simpa using hs) hj ?_
      rw [e]
      exact h')
  rwa [e] at this
/-- A region walked in phases. -/
theorem region_at {ops : List Oper} {id : Nat} (hm : P.follows .mixedOrders = true) {a0 : Act} {W : World} {Q : Exit → Act → World → Prop} (h : At P ops.toArray Q 0 a0 W.drew) : (Code.region id ops.toArray true).wp P Q a0 W := by
  refine wp_region_any hm (h _ _ ?_ (by simp) fun j => ?_)
  · simp [left]
  · exact ⟨fun hk => absurd hk getD_rep, fun hk => by omega⟩
theorem wpOp_go {ops : Array Oper} {n : Nat} {o : Oper} {a : Act} {w : World} {K : Act → World → Prop} {Q : Exit → Act → World → Prop} (ho : ops[n]? = some o) (hw : Region.wanted o (yielded ops a.tmps) = true) (h : o.wp P a w K Q) : wpOp P ops Q n K a w := by
  unfold wpOp
  simp only [ho]
  rw [if_pos hw]
  exact .inl h
theorem wpOp_skip {ops : Array Oper} {n : Nat} {o : Oper} {a : Act} {w : World} {K : Act → World → Prop} {Q : Exit → Act → World → Prop} (ho : ops[n]? = some o) (hw : Region.wanted o (yielded ops a.tmps) = false) (h : K (a.put o.dst undef) w) : wpOp P ops Q n K a w := by
  unfold wpOp
  simp only [ho]
  rw [if_neg (by simp [hw])]
  exact h

end
end Go.Proofs.Ytldblcolnjkcaaa
