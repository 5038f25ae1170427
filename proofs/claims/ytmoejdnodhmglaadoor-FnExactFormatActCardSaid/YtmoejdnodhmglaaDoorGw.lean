/- A region that draws its order and whose operations each leave a fact that lasts: one look at each operation, in whatever world, serves every order. No conditions. -/
import Derived.Test.YtmoejdnodhmglaaDoorBase
import Derived.Orders
import Derived.Deep.Draws
import Derived.KernelRfl
import Derived.Tactics
import Derived.Tactics2
import Derived.Below
namespace Go.Proofs.YtmoejdnodhmglaaDoor
open Go.RowKit

section
variable {P : Program}

/-- What is asked of one operation: its value and the world behind it have Ψ. -/
def wpStepK (P : Program) (ops : Array Oper) (o : Oper) (a : Act) (w : World) (Ψ : Value → World → Prop) : Prop :=
  ∀ (K : Act → World → Prop) (Q : Exit → Act → World → Prop), (∀ v w', Ψ v w' → K (a.put o.dst v) w') → if Region.wanted o (yielded ops a.tmps) = true then o.wp P a w K Q else K (a.put o.dst undef) w

theorem put_inj {a b : Act} {d : Option Tmp} {u v : Value} (h : a.put d u = a.put d v) (hs : b.tmps.size = a.tmps.size) : b.put d u = b.put d v := by
  cases d with
  | none => rfl
  | some t =>
    have e : a.tmps.setIfInBounds t u = a.tmps.setIfInBounds t v := congrArg Act.tmps h
    simp only [Act.put]
    by_cases ht : t < a.tmps.size
    · have e1 : (a.tmps.setIfInBounds t u)[t]? = (a.tmps.setIfInBounds t v)[t]? := by rw [e]
      simp [ht] at e1
      rw [e1]
    · have ha : a.tmps.size ≤ t := Nat.le_of_not_lt ht
      have hb : b.tmps.size ≤ t := hs ▸ ha
      rw [Array.setIfInBounds_eq_of_size_le hb, Array.setIfInBounds_eq_of_size_le hb]

theorem wpStepK.move {ops : Array Oper} {i : Nat} {o : Oper} {a a' : Act} {w : World} {Ψ : Value → World → Prop} (hi : ops[i]? = some o) (h : wpStepK P ops o a w Ψ)
    (he : execOp a'.eval o = execOp a.eval o) (hw : Region.wanted o (yielded ops a'.tmps) = Region.wanted o (yielded ops a.tmps)) (hs : a'.tmps.size = a.tmps.size)
    {K : Act → World → Prop} {Q : Exit → Act → World → Prop} (hK : ∀ v w', Ψ v w' → K (a'.put o.dst v) w') : wpOp P ops Q i K a' w := by
  have h1 := h (fun a'' w'' => ∃ v, a'' = a.put o.dst v ∧ Ψ v w'') (fun _ _ _ => False) (fun v w' hv => ⟨v, rfl, hv⟩)
  unfold wpOp
  simp only [hi]
  rw [hw]
  have go : ∀ u w'', (∃ v, a.put o.dst u = a.put o.dst v ∧ Ψ v w'') → K (a'.put o.dst u) w'' := fun u w'' ⟨v, e, hv⟩ => by
    rw [put_inj e hs]; exact hK v w'' hv
  split
  · rename_i hwt
    rw [if_pos hwt] at h1
    refine .inl ?_
    unfold Oper.wp at *
    rw [he]
    generalize (execOp a.eval o).run P w = r at *
    cases r with
    | ok n w' =>
      cases n <;> simp only [Oper.upon] at h1 ⊢
      case value u => exact go u w' h1
      case skip => exact go undef w' h1
      case defer d =>
        obtain ⟨v, e, _⟩ := h1
        have := congrArg Act.defers e
        cases hd : o.dst <;> simp [Act.put, hd] at this
      case enter f args =>
        refine Calls.mono h1 fun e w'' hh => ?_
        cases e with
        | returned u => exact go u w'' hh
        | panicked c => exact False.elim hh
        | outgrown => obtain ⟨_, _, hf⟩ := hh; exact False.elim hf
      case row row args => exact Rows.mono h1 fun u w'' hh => go u w'' hh
    | halt x w' =>
      cases x <;> simp only [Oper.upon] at h1
  · rename_i hwt
    rw [if_neg hwt] at h1
    exact go undef w h1

/-- All of the operations' values put into their temporaries. -/
def fullAct : List Oper → Nat → (Nat → Value) → Act → Act
  | [], _, _, a => a
  | o :: rest, k, u, a => fullAct rest (k + 1) u (a.put o.dst (u k))

theorem fullAct_defers : ∀ (l : List Oper) (k : Nat) (u : Nat → Value) (a : Act), (fullAct l k u a).defers = a.defers
  | [], _, _, _ => rfl
  | o :: rest, k, u, a => by
    rw [fullAct, fullAct_defers rest]
    cases o.dst <;> rfl
theorem put_size (a : Act) (d : Option Tmp) (v : Value) : (a.put d v).tmps.size = a.tmps.size := by cases d <;> simp [Act.put]
theorem put_defers (a : Act) (d : Option Tmp) (v : Value) : (a.put d v).defers = a.defers := by cases d <;> rfl
theorem fullAct_size : ∀ (l : List Oper) (k : Nat) (u : Nat → Value) (a : Act), (fullAct l k u a).tmps.size = a.tmps.size
  | [], _, _, _ => rfl
  | o :: rest, k, u, a => by rw [fullAct, fullAct_size rest, put_size]
theorem put_get_ne (a : Act) (d : Option Tmp) (v : Value) (t : Nat) (h : d ≠ some t) : (a.put d v).tmps[t]? = a.tmps[t]? := by
  cases d with
  | none => rfl
  | some s =>
    have : s ≠ t := fun e => h (by rw [e])
    simp [Act.put, Array.getElem?_setIfInBounds_ne this]
theorem put_get (a : Act) (v : Value) (t : Nat) (h : t < a.tmps.size) : (a.put (some t) v).tmps[t]? = some v := by
  simp [Act.put, h]
theorem fullAct_other : ∀ (l : List Oper) (k : Nat) (u : Nat → Value) (a : Act) (t : Tmp), (∀ (j : Nat) (o : Oper), l[j]? = some o → o.dst ≠ some t) → (fullAct l k u a).tmps[t]? = a.tmps[t]?
  | [], _, _, _, _, _ => rfl
  | o :: rest, k, u, a, t, h => by
    rw [fullAct, fullAct_other rest _ _ _ _ fun j o' hj => h (j + 1) o' (by simpa using hj), put_get_ne _ _ _ _ (h 0 o rfl)]
theorem fullAct_at : ∀ (l : List Oper) (k : Nat) (u : Nat → Value) (a : Act) (t : Tmp) (j : Nat) (o : Oper), l[j]? = some o → o.dst = some t → t < a.tmps.size →
    (∀ (i : Nat) (o' : Oper), l[i]? = some o' → o'.dst = some t → i = j) → (fullAct l k u a).tmps[t]? = some (u (k + j))
  | [], _, _, _, _, _, _, h, _, _, _ => by simp at h
  | o' :: rest, k, u, a, t, 0, o, h, hd, ht, hu => by
    simp only [List.getElem?_cons_zero, Option.some.injEq] at h
    subst h
    rw [fullAct, fullAct_other rest _ _ _ _ fun j o hj e => by have := hu (j + 1) o (by simpa using hj) e; omega, hd, put_get _ _ _ ht, Nat.add_zero]
  | o' :: rest, k, u, a, t, j + 1, o, h, hd, ht, hu => by
    have h' : rest[j]? = some o := by simpa using h
    rw [fullAct, fullAct_at rest (k + 1) u _ t j o h' hd (by rw [put_size]; exact ht) fun i o'' hi e => by have := hu (i + 1) o'' (by simpa using hi) e; omega]
    congr 2
    omega


/-- Which earlier operations write what operation number k looks at. -/
def autoDeps (ops : Array Oper) (k : Nat) : List Nat :=
  match ops[k]? with
  | none => []
  | some o => (List.range k).filter fun j => match (ops[j]?).bind (·.dst) with | some t => (o.looksAt ops).contains t | none => false

/-- What stands behind which edges, as bits. -/
def ancGo : List Oper → List Nat → List Nat
  | [], acc => acc
  | o :: rest, acc => ancGo rest (acc ++ [o.after.foldl (fun m e => if Region.binds .any e then m ||| ((1 <<< e.on) ||| acc.getD e.on 0) else m) 0])
def ancT (ops : Array Oper) : List Nat := ancGo ops.toList []

/-- The checks over a region, by the kernel: edges go back; what an operation looks at is written by earlier ones that it waits for; no temporary is written twice; the operations from number n on wait for all before them. -/
def growB (ops : Array Oper) (n : Nat) : Bool :=
  Region.noSelect ops && decide (n ≤ ops.size) &&
  (let A := ancT ops
   (List.range ops.size).all fun k =>
    match ops[k]? with
    | none => false
    | some o =>
      (o.after.all fun e => !Region.binds .any e || decide (e.on < k)) &&
      ((List.range ops.size).all fun j => !(A.getD k 0).testBit j || o.after.any fun e => Region.binds .any e && (decide (e.on = j) || (A.getD e.on 0).testBit j)) &&
      (if k < n then (autoDeps ops k).all fun j => (A.getD k 0).testBit j else (List.range k).all fun j => (A.getD k 0).testBit j) &&
      ((o.looksAt ops).all fun t => (List.range ops.size).all fun j => decide (j < k) || decide (n ≤ j) || ((ops[j]?).bind (·.dst)) != some t) &&
      ((List.range k).all fun j => match o.dst with | none => true | some t => ((ops[j]?).bind (·.dst)) != some t))

structure GrowOk (ops : Array Oper) (n : Nat) : Prop where
  sel : Region.noSelect ops = true
  le : n ≤ ops.size
  back : ∀ (k : Nat) (o : Oper), ops[k]? = some o → ∀ e ∈ o.after, Region.binds .any e = true → e.on < k
  anc : ∀ (k : Nat) (o : Oper), ops[k]? = some o → ∀ j, j < ops.size → ((ancT ops).getD k 0).testBit j = true → ∃ e ∈ o.after, Region.binds .any e = true ∧ (e.on = j ∨ ((ancT ops).getD e.on 0).testBit j = true)
  dep : ∀ k, k < n → ∀ j ∈ autoDeps ops k, ((ancT ops).getD k 0).testBit j = true
  tail : ∀ k, n ≤ k → k < ops.size → ∀ j, j < k → ((ancT ops).getD k 0).testBit j = true
  look : ∀ (k : Nat) (o : Oper), ops[k]? = some o → ∀ t ∈ o.looksAt ops, ∀ (j : Nat) (o' : Oper), ops[j]? = some o' → o'.dst = some t → n ≤ j ∨ j ∈ autoDeps ops k
  once : ∀ (i j : Nat) (o o' : Oper) (t : Tmp), ops[i]? = some o → ops[j]? = some o' → o.dst = some t → o'.dst = some t → i = j

theorem growOk {ops : Array Oper} {n : Nat} (h : growB ops n = true) : GrowOk ops n := by
  simp only [growB, Bool.and_eq_true, List.all_eq_true, List.mem_range] at h
  obtain ⟨⟨hs, hn⟩, h⟩ := h
  have H : ∀ (k : Nat) (o : Oper), ops[k]? = some o → _ := fun k o ho => h k (Array.getElem?_eq_some_iff.1 ho).1
  refine ⟨hs, by simpa using hn, fun k o ho e he hb => ?_, fun k o ho j hjs hj => ?_, fun k hk j hj => ?_, fun k hk hks j hj => ?_, fun k o ho t ht j o' hj hd => ?_, fun i j o o' t hi hj hd hd' => ?_⟩
  · have := H k o ho
    simp only [ho, Bool.and_eq_true] at this
    have := (Array.all_eq_true_iff_forall_mem.1 this.1.1.1.1) e he
    simpa [hb] using this
  · have := H k o ho
    simp only [ho, Bool.and_eq_true] at this
    have := (List.all_eq_true.1 this.1.1.1.2) j (List.mem_range.2 hjs)
    simp only [hj, Bool.not_true, Bool.false_or, Array.any_eq_true'] at this
    obtain ⟨e, he, h2⟩ := this
    simp only [Bool.and_eq_true, Bool.or_eq_true, decide_eq_true_eq] at h2
    exact ⟨e, he, h2.1, h2.2⟩
  · have hks : k < ops.size := Nat.lt_of_lt_of_le hk (by simpa using hn)
    have := H k ops[k] (by simp [hks])
    simp only [Array.getElem?_eq_getElem hks, Bool.and_eq_true, if_pos hk] at this
    exact (List.all_eq_true.1 this.1.1.2) j hj
  · have := H k ops[k] (by simp [hks])
    simp only [Array.getElem?_eq_getElem hks, Bool.and_eq_true, if_neg (Nat.not_lt.2 hk)] at this
    exact (List.all_eq_true.1 this.1.1.2) j (List.mem_range.2 hj)
  · have := H k o ho
    simp only [ho, Bool.and_eq_true] at this
    have := (List.all_eq_true.1 ((List.all_eq_true.1 this.1.2) t ht)) j (List.mem_range.2 (Array.getElem?_eq_some_iff.1 hj).1)
    have hjk : j < k ∨ n ≤ j := by simpa [hj, hd] using this
    rcases hjk with hjk | hjk
    case inr => exact .inl hjk
    refine .inr ?_
    unfold autoDeps
    simp only [ho]
    exact List.mem_filter.2 ⟨List.mem_range.2 hjk, by simp [hj, hd, ht]⟩
  · have key : ∀ (i j : Nat) (o o' : Oper), ops[i]? = some o → ops[j]? = some o' → o.dst = some t → o'.dst = some t → ¬ i < j := fun i j o o' hi hj hd hd' hlt => by
      have := H j o' hj
      simp only [hj, Bool.and_eq_true] at this
      have := (List.all_eq_true.1 this.2) i (List.mem_range.2 hlt)
      simp [hd', hi, hd] at this
    have h1 := key i j o o' hi hj hd hd'
    have h2 := key j i o' o hj hi hd' hd
    omega
theorem autoDeps_lt {ops : Array Oper} {k j : Nat} (h : j ∈ autoDeps ops k) : j < k := by
  unfold autoDeps at h
  split at h
  · cases h
  · exact List.mem_range.1 (List.mem_filter.1 h).1

/-- What is said of one operation: Φ (given the values that it looks at) of the world behind it and of its value; V of its value alone; H: which blocks are its value's own. -/
structure Ent where
  Φ : List Value → World → Value → Prop
  V : Value → Prop
  H : Value → Nat → Prop
structure Good (e : Ent) : Prop where
  mono : ∀ d w w' v, Below w.heap.size w w' → e.Φ d w v → e.Φ d w' v
  imp : ∀ d w v, e.Φ d w v → e.V v
  ne : ∃ v, e.V v
  lt : ∀ d w v b, e.Φ d w v → e.H v b → b < w.heap.size

/-- The state behind the listed operations. -/
structure Inv (ops : Array Oper) (n : Nat) (W : World) (E : Nat → Ent) (a0 : Act) (listed : Array Bool) (u : Nat → Value) (a : Act) (w : World) : Prop where
  size : listed.size = ops.size
  cls : Below W.heap.size W w
  vals : ∀ k, (E k).V (u k)
  facts : ∀ k, listed.getD k false = true → (E k).Φ ((autoDeps ops k).map u) w (u k)
  sep : ∀ i j, i ≠ j → listed.getD i false = true → listed.getD j false = true → ∀ b, (E i).H (u i) b → (E j).H (u j) b → False
  closed : ∀ k, listed.getD k false = true → ∀ j, j < ops.size → ((ancT ops).getD k 0).testBit j = true → listed.getD j false = true
  only : ∀ k, listed.getD k false = true → k < n
  defers : a.defers = a0.defers
  tsize : a.tmps.size = a0.tmps.size
  at_ : ∀ (k : Nat) (o : Oper) (t : Tmp), ops[k]? = some o → o.dst = some t → listed.getD k false = true → t < a0.tmps.size → a.tmps[t]? = some (u k)
  other : ∀ t : Tmp, (∀ (k : Nat) (o : Oper), ops[k]? = some o → o.dst = some t → listed.getD k false = false) → a.tmps[t]? = a0.tmps[t]?

theorem looks_tmp {ops : Array Oper} {o : Oper} {t : Tmp} (h : Operand.tmp t ∈ o.op.operands) : t ∈ o.looksAt ops :=
  List.mem_append_left _ (List.mem_filterMap.2 ⟨.tmp t, by simpa using h, rfl⟩)

theorem eval_same {a b : Act} {x : Operand} (h : ∀ t, x = .tmp t → a.tmps[t]? = b.tmps[t]?) : a.eval x = b.eval x := by
  cases x with
  | tmp t => simp only [Act.eval]; have := h t rfl; simp [Array.getD_eq_getD_getElem?, this]
  | _ => rfl
theorem wanted_same {ops : Array Oper} {o : Oper} {a b : Act} (h : ∀ t ∈ o.looksAt ops, a.tmps[t]? = b.tmps[t]?) : Region.wanted o (yielded ops a.tmps) = Region.wanted o (yielded ops b.tmps) := by
  unfold Region.wanted
  cases hg : o.guard with
  | none => rfl
  | some gw =>
    obtain ⟨g, want⟩ := gw
    have hy : yielded ops a.tmps g = yielded ops b.tmps g := by
      unfold yielded
      cases ht : (ops[g]?).bind (·.dst) with
      | none => rfl
      | some t =>
        have := h t (by simp [Oper.looksAt, hg, ht])
        simp [this]
    simp only [hy]

theorem act_ext {a b : Act} (h : ∀ t : Nat, a.tmps[t]? = b.tmps[t]?) (hd : a.defers = b.defers) : a = b := by
  cases a; cases b
  simp only [Act.mk.injEq]
  exact ⟨Array.ext_getElem? h, hd⟩

/-- How many are not listed. -/
def left (listed : Array Bool) : Nat := listed.toList.count false
theorem left_set {listed : Array Bool} {i : Nat} (h : listed.getD i true = false) : left (listed.setIfInBounds i true) + 1 = left listed := by
  unfold left
  have hi : i < listed.size := by
    rcases Nat.lt_or_ge i listed.size with h' | h'
    · exact h'
    · simp [Array.getElem?_eq_none h'] at h
  have hv : listed.toList[i]'(by simpa using hi) = false := by simpa [hi] using h
  rw [Array.toList_setIfInBounds, List.count_set (by simpa using hi)]
  have hp : 0 < listed.toList.count false := List.count_pos_iff.2 (hv ▸ List.getElem_mem _)
  rw [hv]
  simp only [BEq.rfl, if_true]
  have : (true == false) = false := rfl
  rw [this]
  simp only [Bool.false_eq_true, if_false]
  omega


theorem full_of_inv {l tail : List Oper} {W : World} {E : Nat → Ent} {a0 a : Act} {listed : Array Bool} {u : Nat → Value} {w : World}
    (hok : GrowOk (l ++ tail).toArray l.length) (hI : Inv (l ++ tail).toArray l.length W E a0 listed u a w) (hall : ∀ k, k < l.length → listed.getD k false = true) : a = fullAct l 0 u a0 := by
  have hget : ∀ (j : Nat) (o : Oper), l[j]? = some o → (l ++ tail).toArray[j]? = some o := fun j o hj => by
    have hjl : j < l.length := (List.getElem?_eq_some_iff.1 hj).1
    simpa [List.getElem?_append_left hjl] using hj
  refine act_ext (fun t => ?_) (by rw [fullAct_defers, hI.defers])
  by_cases hex : ∃ (j : Nat) (o : Oper), l[j]? = some o ∧ o.dst = some t
  · obtain ⟨j, o, hj, hd⟩ := hex
    have hjl : j < l.length := (List.getElem?_eq_some_iff.1 hj).1
    by_cases ht' : t < a0.tmps.size
    · rw [hI.at_ j o t (hget j o hj) hd (hall j hjl) ht', fullAct_at l 0 u a0 t j o hj hd ht' fun i o' hi hd' => hok.once i j o' o t (hget i o' hi) (hget j o hj) hd' hd, Nat.zero_add]
    · rw [Array.getElem?_eq_none (by rw [hI.tsize]; exact Nat.le_of_not_lt ht'), Array.getElem?_eq_none (by rw [fullAct_size]; exact Nat.le_of_not_lt ht')]
  · have hno : ∀ (j : Nat) (o : Oper), l[j]? = some o → o.dst ≠ some t := fun j o hj hd => hex ⟨j, o, hj, hd⟩
    rw [fullAct_other l 0 u a0 t hno, hI.other t fun k o hk hd => ?_]
    cases hc : listed.getD k false with
    | false => rfl
    | true =>
      have hkl := hI.only k hc
      refine absurd hd (hno k o ?_)
      simpa [List.getElem?_append_left hkl] using hk

/-- What is left when only the tail is left: it comes in its order. -/
theorem wpAny_tail {l tail : List Oper} {n : Nat} (hok : GrowOk (l ++ tail).toArray n) {Q : Exit → Act → World → Prop} :
    ∀ (m k : Nat), k + m = (l ++ tail).length → n ≤ k → ∀ (fuel : Nat) (listed : Array Bool) (a : Act) (w : World), left listed ≤ fuel → listed.size = (l ++ tail).length → (∀ j, listed.getD j false = true ↔ j < k) →
      wpList P (l ++ tail).toArray Q ((l ++ tail).drop k) a w → wpAny P .any (l ++ tail).toArray Q fuel listed a w := by
  intro m
  induction m with
  | zero =>
    intro k hk hn fuel listed a w hl hs hj h
    rw [List.drop_of_length_le (by omega)] at h
    have hr : Region.ready .any (l ++ tail).toArray listed = [] := by
      cases hr : Region.ready .any (l ++ tail).toArray listed with
      | nil => rfl
      | cons i rs =>
        exfalso
        have hi : i ∈ Region.ready .any (l ++ tail).toArray listed := by rw [hr]; exact List.mem_cons_self ..
        obtain ⟨h1, o, ho, _⟩ := mem_ready.1 hi
        have hil : i < (l ++ tail).length := by have := (Array.getElem?_eq_some_iff.1 ho).1; simpa using this
        have := (hj i).2 (by omega)
        simp only [Array.getD_eq_getD_getElem?] at h1 this
        rw [Array.getElem?_eq_getElem (by omega)] at h1 this
        simp only [Option.getD_some] at h1 this
        rw [h1] at this
        cases this
    exact wpAny_done hr h fuel
  | succ m ih =>
    intro k hk hn fuel listed a w hl hs hj h
    have hkl : k < (l ++ tail).length := by omega
    have hkf : listed.getD k false = false := by
      cases hc : listed.getD k false with
      | false => rfl
      | true => have := (hj k).1 hc; omega
    have hkt : listed.getD k true = false := by
      simp only [Array.getD_eq_getD_getElem?] at hkf ⊢
      rw [Array.getElem?_eq_getElem (by omega)] at hkf ⊢
      simpa using hkf
    have hok' : (l ++ tail).toArray[k]? = some (l ++ tail)[k] := by simp
    have hrk : k ∈ Region.ready .any (l ++ tail).toArray listed := mem_ready.2 ⟨hkt, _, hok', fun e he hb => (hj _).2 (hok.back k _ hok' e he hb)⟩
    rw [List.drop_eq_getElem_cons hkl] at h
    cases fuel with
    | zero => have := left_set hkt; omega
    | succ fuel =>
      refine ⟨fun h0 => (by rw [h0] at hrk; cases hrk), fun i hi => ?_⟩
      obtain ⟨h1, o, ho, hall⟩ := mem_ready.1 hi
      have hil : i < (l ++ tail).length := by have := (Array.getElem?_eq_some_iff.1 ho).1; simpa using this
      have hik : k ≤ i := by
        rcases Nat.lt_or_ge i k with h' | h'
        · exfalso
          have := (hj i).2 h'
          simp only [Array.getD_eq_getD_getElem?] at h1 this
          rw [Array.getElem?_eq_getElem (by omega)] at h1 this
          simp only [Option.getD_some] at h1 this
          rw [h1] at this
          cases this
        · exact h'
      have hie : i = k := by
        rcases Nat.eq_or_lt_of_le hik with h' | h'
        · exact h'.symm
        · exfalso
          have hcl : ∀ d i : Nat, i ≤ d → ∀ o, (l ++ tail).toArray[i]? = some o → (∀ e ∈ o.after, Region.binds .any e = true → listed.getD e.on false = true) → ∀ j, j < (l ++ tail).length → ((ancT (l ++ tail).toArray).getD i 0).testBit j = true → listed.getD j false = true := fun d => by
            induction d with
            | zero =>
              intro i hi o ho hall j hjl hb
              obtain ⟨e, he, hbi, _⟩ := hok.anc i o ho j (by simpa using hjl) hb
              have := hok.back i o ho e he hbi
              omega
            | succ d ihd =>
              intro i hi o ho hall j hjl hb
              obtain ⟨e, he, hbi, h2⟩ := hok.anc i o ho j (by simpa using hjl) hb
              rcases h2 with rfl | h2
              · exact hall e he hbi
              · have hlt := hok.back i o ho e he hbi
                have hel := hall e he hbi
                have hek := (hj e.on).1 hel
                have hes : e.on < (l ++ tail).length := by omega
                refine ihd e.on (by omega) (l ++ tail)[e.on] (by simp) (fun e' he' hb' => (hj _).2 ?_) j hjl h2
                have := hok.back e.on _ (show (l ++ tail).toArray[e.on]? = some (l ++ tail)[e.on] by simp) e' he' hb'
                omega
          have := hcl i i (Nat.le_refl _) o ho hall k (by omega) (hok.tail i (by omega) (by simpa using hil) k h')
          rw [hkf] at this
          cases this
      subst hie
      unfold wpOp
      simp only [hok']
      simp only [wpList] at h
      have hset : ∀ j, (listed.setIfInBounds i true).getD j false = true ↔ j < i + 1 := fun j => by
        by_cases hjk : j = i
        · subst hjk
          have : j < listed.size := by omega
          simp [this]
        · rw [getD_set_ne false (Ne.symm hjk), hj]; omega
      have next : ∀ a w, wpList P (l ++ tail).toArray Q ((l ++ tail).drop (i + 1)) a w → wpAny P .any (l ++ tail).toArray Q fuel (listed.setIfInBounds i true) a w := fun a w h =>
        ih (i + 1) (by omega) (by omega) fuel _ a w (by have := left_set hkt; omega) (by simpa using hs) hset h
      split
      · rename_i hw
        simp only [hw, if_true] at h
        exact h.imp (Oper.wp_mono next) id
      · rename_i hw
        simp only [hw] at h
        exact next _ _ h

theorem wpAny_grow {l tail : List Oper} (hok : GrowOk (l ++ tail).toArray l.length) (W : World) (E : Nat → Ent) (hE : ∀ k, Good (E k)) {a0 : Act} {Q : Exit → Act → World → Prop}
    (hops : ∀ (k : Nat) (o : Oper), l[k]? = some o → ∀ (u : Nat → Value) (w : World), (∀ j, (E j).V (u j)) → Below W.heap.size W w →
      (∀ j ∈ autoDeps (l ++ tail).toArray k, (E j).Φ ((autoDeps (l ++ tail).toArray j).map u) w (u j)) →
      (∀ i ∈ autoDeps (l ++ tail).toArray k, ∀ j ∈ autoDeps (l ++ tail).toArray k, i ≠ j → ∀ b, (E i).H (u i) b → (E j).H (u j) b → False) →
      wpStepK P (l ++ tail).toArray o (fullAct (l.take k) 0 u a0) w fun v w' => Below w.heap.size w w' ∧ (E k).Φ ((autoDeps (l ++ tail).toArray k).map u) w' v ∧ ∀ b, (E k).H v b → w.heap.size ≤ b)
    (hend : ∀ (u : Nat → Value) (w : World), (∀ j, (E j).V (u j)) → Below W.heap.size W w → (∀ k, k < l.length → (E k).Φ ((autoDeps (l ++ tail).toArray k).map u) w (u k)) →
      (∀ i, i < l.length → ∀ j, j < l.length → i ≠ j → ∀ b, (E i).H (u i) b → (E j).H (u j) b → False) → wpList P (l ++ tail).toArray Q tail (fullAct l 0 u a0) w) :
    ∀ (fuel : Nat) (listed : Array Bool) (u : Nat → Value) (a : Act) (w : World), left listed ≤ fuel → Inv (l ++ tail).toArray l.length W E a0 listed u a w → wpAny P .any (l ++ tail).toArray Q fuel listed a w := by
  have hget : ∀ (j : Nat) (o : Oper), l[j]? = some o → (l ++ tail).toArray[j]? = some o := fun j o hj => by
    have hjl : j < l.length := (List.getElem?_eq_some_iff.1 hj).1
    simpa [List.getElem?_append_left hjl] using hj
  -- all of l is listed: the tail is left
  have hdone : ∀ (fuel : Nat) (listed : Array Bool) (u : Nat → Value) (a : Act) (w : World), left listed ≤ fuel → Inv (l ++ tail).toArray l.length W E a0 listed u a w → (∀ k, k < l.length → listed.getD k false = true) → wpAny P .any (l ++ tail).toArray Q fuel listed a w := fun fuel listed u a w hl hI hall => by
    have e := full_of_inv hok hI hall
    refine wpAny_tail hok tail.length l.length (by simp) (Nat.le_refl _) fuel listed a w hl (by have := hI.size; simpa using this) (fun j => ⟨hI.only j, hall j⟩) ?_
    rw [List.drop_left, e]
    exact hend u w hI.vals hI.cls (fun k hk => hI.facts k (hall k hk)) fun i hi j hj hne => hI.sep i j hne (hall i hi) (hall j hj)
  have hopen : ∀ (listed : Array Bool) (u : Nat → Value) (a : Act) (w : World), Inv (l ++ tail).toArray l.length W E a0 listed u a w → ∀ i ∈ Region.ready .any (l ++ tail).toArray listed, l.length ≤ i → ∀ k, k < l.length → listed.getD k false = true := fun listed u a w hI i hi hli k hk => by
    obtain ⟨_, o, ho, hall⟩ := mem_ready.1 hi
    have his : i < (l ++ tail).toArray.size := (Array.getElem?_eq_some_iff.1 ho).1
    have hks : k < (l ++ tail).toArray.size := by simp; omega
    obtain ⟨e, he, hb, h2⟩ := hok.anc i o ho k hks (hok.tail i hli his k (by omega))
    rcases h2 with rfl | h2
    · exact hall e he hb
    · exact hI.closed e.on (hall e he hb) k hks h2
  have hnone : ∀ (listed : Array Bool) (u : Nat → Value) (a : Act) (w : World), Inv (l ++ tail).toArray l.length W E a0 listed u a w → Region.ready .any (l ++ tail).toArray listed = [] → ∀ k, k < l.length → listed.getD k false = true := fun listed u a w hI hr => by
    have hall : ∀ n k, k < n → k < l.length → listed.getD k false = true := fun n => by
      induction n with
      | zero => intro k hk; omega
      | succ n ih =>
        intro k hk hkl
        by_cases hlt : k < n
        · exact ih k hlt hkl
        · obtain rfl : k = n := by omega
          cases hc : listed.getD k false with
          | true => rfl
          | false =>
            exfalso
            have hks : k < listed.size := by rw [hI.size]; simp; omega
            have : k ∈ Region.ready .any (l ++ tail).toArray listed := by
              refine mem_ready.2 ⟨by simpa [hks] using hc, l[k], hget k _ (by simp [hkl]), fun e he hb => ?_⟩
              have hlt' := hok.back k l[k] (hget k _ (by simp [hkl])) e he hb
              exact ih e.on hlt' (by omega)
            rw [hr] at this
            cases this
    exact fun k hk => hall l.length k hk hk
  intro fuel
  induction fuel with
  | zero =>
    intro listed u a w hl hI
    refine hdone 0 listed u a w hl hI (hnone listed u a w hI ?_)
    cases hr : Region.ready .any (l ++ tail).toArray listed with
    | nil => rfl
    | cons i rs =>
      have hi : i ∈ Region.ready .any (l ++ tail).toArray listed := by rw [hr]; exact List.mem_cons_self ..
      have := left_set (mem_ready.1 hi).1
      omega
  | succ fuel ih =>
    intro listed u a w hl hI
    by_cases hfull : ∀ k, k < l.length → listed.getD k false = true
    · exact hdone _ listed u a w hl hI hfull
    refine ⟨fun hr => absurd (hnone listed u a w hI hr) hfull, fun k hk => ?_⟩
    have hkl : k < l.length := by
      rcases Nat.lt_or_ge k l.length with h | h
      · exact h
      · exact absurd (hopen listed u a w hI k hk h) hfull
    obtain ⟨hun, o, ho, hall⟩ := mem_ready.1 hk
    have hol : l[k]? = some o := by simpa [List.getElem?_append_left hkl] using ho
    have hks : k < listed.size := by rw [hI.size]; simp; omega
    have hunf : listed.getD k false = false := by simpa [hks] using hun
    have hancs : ∀ j, j < (l ++ tail).toArray.size → ((ancT (l ++ tail).toArray).getD k 0).testBit j = true → listed.getD j false = true := fun j hjs hj => by
      obtain ⟨e, he, hb, h2⟩ := hok.anc k o ho j hjs hj
      rcases h2 with rfl | h2
      · exact hall e he hb
      · exact hI.closed e.on (hall e he hb) j hjs h2
    have hdeps : ∀ j ∈ autoDeps (l ++ tail).toArray k, listed.getD j false = true := fun j hj => hancs j (by have := autoDeps_lt hj; simp; omega) (hok.dep k hkl j hj)
    have hkd : ∀ j, listed.getD j false = true → k ∉ autoDeps (l ++ tail).toArray j := fun j hj hkj => by
      have := hI.closed j hj k (by simp; omega) (hok.dep j (hI.only j hj) k hkj)
      rw [hunf] at this
      cases this
    have hstep := hops k o hol u w hI.vals hI.cls (fun j hj => hI.facts j (hdeps j hj)) fun i hi j hj hne => hI.sep i j hne (hdeps i hi) (hdeps j hj)
    have hsame : ∀ t ∈ o.looksAt (l ++ tail).toArray, a.tmps[t]? = (fullAct (l.take k) 0 u a0).tmps[t]? := fun t ht => by
      by_cases hex : ∃ (j : Nat) (o' : Oper), l[j]? = some o' ∧ o'.dst = some t
      · obtain ⟨j, o', hjl, hd⟩ := hex
        have hjn : j < l.length := (List.getElem?_eq_some_iff.1 hjl).1
        have hjd : j ∈ autoDeps (l ++ tail).toArray k := by
          rcases hok.look k o ho t ht j o' (hget j o' hjl) hd with h | h
          · omega
          · exact h
        have hjk := autoDeps_lt hjd
        by_cases ht' : t < a0.tmps.size
        · rw [hI.at_ j o' t (hget j o' hjl) hd (hdeps j hjd) ht', fullAct_at (l.take k) 0 u a0 t j o' (by rw [List.getElem?_take, if_pos hjk]; exact hjl) hd ht' fun i o'' hi hd' => ?_, Nat.zero_add]
          rw [List.getElem?_take] at hi
          split at hi
          · exact hok.once i j o'' o' t (hget i o'' hi) (hget j o' hjl) hd' hd
          · cases hi
        · rw [Array.getElem?_eq_none (by rw [hI.tsize]; exact Nat.le_of_not_lt ht'), Array.getElem?_eq_none (by rw [fullAct_size]; exact Nat.le_of_not_lt ht')]
      · have hno : ∀ (j : Nat) (o' : Oper), l[j]? = some o' → o'.dst ≠ some t := fun j o' hj hd => hex ⟨j, o', hj, hd⟩
        rw [hI.other t fun j o' hj hd => ?_, fullAct_other]
        · intro j o' hj
          rw [List.getElem?_take] at hj
          split at hj
          · exact hno j o' hj
          · cases hj
        · cases hc : listed.getD j false with
          | false => rfl
          | true =>
            have hjn := hI.only j hc
            exact absurd hd (hno j o' (by simpa [List.getElem?_append_left hjn] using hj))
    have hsize : a.tmps.size = (fullAct (l.take k) 0 u a0).tmps.size := by rw [fullAct_size, hI.tsize]
    refine hstep.move ho (execOp_congr o (fun cs b => Region.noSelect_spec hok.sel k o cs b ho) fun x hx => eval_same fun t e => hsame t (looks_tmp (by rw [← e]; exact hx))) (wanted_same hsame) hsize ?_
    rintro v w' ⟨hG, hv, hfr⟩
    refine ih (listed.setIfInBounds k true) (fun j => if j = k then v else u j) (a.put o.dst v) w' (by have := left_set hun; omega) ?_
    have hset : ∀ j, (listed.setIfInBounds k true).getD j false = true ↔ j = k ∨ listed.getD j false = true := fun j => by
      by_cases hjk : j = k
      · subst hjk; simp [hks]
      · rw [getD_set_ne false (Ne.symm hjk)]; simp [hjk]
    have hmap : ∀ j, k ∉ autoDeps (l ++ tail).toArray j → (autoDeps (l ++ tail).toArray j).map (fun j => if j = k then v else u j) = (autoDeps (l ++ tail).toArray j).map u := fun j hj =>
      List.map_congr_left fun i hi => by
        have : i ≠ k := fun e => hj (e ▸ hi)
        simp [this]
    have hkk : k ∉ autoDeps (l ++ tail).toArray k := fun h => by have := autoDeps_lt h; omega
    have hold : ∀ j, listed.getD j false = true → j ≠ k := fun j hj e => by rw [e, hunf] at hj; cases hj
    refine ⟨by simpa using hI.size, hI.cls.trans (hG.mono hI.cls.size), fun j => ?_, fun j hj => ?_, fun i j hne hi hj b hbi hbj => ?_, fun j hj i his hi => ?_, fun j hj => ?_, by rw [put_defers]; exact hI.defers, by rw [put_size]; exact hI.tsize, fun j o' t hj hd hl' hts => ?_, fun t hno => ?_⟩
    · by_cases hjk : j = k
      · subst hjk; simp only [if_true]; exact (hE j).imp _ _ _ hv
      · simp only [hjk, if_false]; exact hI.vals j
    · rcases (hset j).1 hj with rfl | h
      · simp only [if_true, hmap _ hkk]; exact hv
      · simp only [hold j h, if_false, hmap _ (hkd j h)]; exact (hE j).mono _ w w' _ hG (hI.facts j h)
    · rcases (hset i).1 hi with rfl | h1
      · rcases (hset j).1 hj with rfl | h2
        · exact hne rfl
        · simp only [if_true] at hbi
          simp only [hold j h2, if_false] at hbj
          have h3 := hfr b hbi
          have h4 := (hE j).lt _ _ _ _ (hI.facts j h2) hbj
          omega
      · rcases (hset j).1 hj with rfl | h2
        · simp only [if_true] at hbj
          simp only [hold i h1, if_false] at hbi
          have h3 := hfr b hbj
          have h4 := (hE i).lt _ _ _ _ (hI.facts i h1) hbi
          omega
        · simp only [hold i h1, if_false] at hbi
          simp only [hold j h2, if_false] at hbj
          exact hI.sep i j hne h1 h2 b hbi hbj
    · rcases (hset j).1 hj with rfl | h
      · exact (hset i).2 (.inr (hancs i his hi))
      · exact (hset i).2 (.inr (hI.closed j h i his hi))
    · rcases (hset j).1 hj with rfl | h
      · exact hkl
      · exact hI.only j h
    · by_cases hjk : j = k
      · subst hjk
        have : o' = o := by rw [ho] at hj; simpa using hj.symm
        subst this
        rw [hd, put_get _ _ _ (by rw [hI.tsize]; exact hts)]
        simp
      · have hlj : listed.getD j false = true := by rcases (hset j).1 hl' with h | h; exact absurd h hjk; exact h
        rw [put_get_ne _ _ _ _ fun e => hjk (hok.once j k o' o t hj ho hd e), hI.at_ j o' t hj hd hlj hts]
        simp [hjk]
    · have hdk : o.dst ≠ some t := fun e => by
        have := hno k o ho e
        rw [(hset k).2 (.inl rfl)] at this
        cases this
      rw [put_get_ne _ _ _ _ hdk]
      refine hI.other t fun j o' hj hd => ?_
      have := hno j o' hj hd
      cases hc : listed.getD j false with
      | false => rfl
      | true => rw [(hset j).2 (.inr hc)] at this; cases this

theorem getD_rep {n k : Nat} : ¬ (Array.replicate n false).getD k false = true := by
  rcases Nat.lt_or_ge k n with h | h
  · simp [h]
  · simp [h]

/-- **One look at each operation serves every order.** -/
theorem region_grow {l tail : List Oper} {id : Nat} (hm : P.follows .mixedOrders = true) (hB : growB (l ++ tail).toArray l.length = true) (E : Nat → Ent) (hE : ∀ k, Good (E k)) {a0 : Act} {W : World} {Q : Exit → Act → World → Prop}
    (hops : ∀ (k : Nat) (o : Oper), l[k]? = some o → ∀ (u : Nat → Value) (w : World), (∀ j, (E j).V (u j)) → Below W.heap.size W w →
      (∀ j ∈ autoDeps (l ++ tail).toArray k, (E j).Φ ((autoDeps (l ++ tail).toArray j).map u) w (u j)) →
      (∀ i ∈ autoDeps (l ++ tail).toArray k, ∀ j ∈ autoDeps (l ++ tail).toArray k, i ≠ j → ∀ b, (E i).H (u i) b → (E j).H (u j) b → False) →
      wpStepK P (l ++ tail).toArray o (fullAct (l.take k) 0 u a0) w fun v w' => Below w.heap.size w w' ∧ (E k).Φ ((autoDeps (l ++ tail).toArray k).map u) w' v ∧ ∀ b, (E k).H v b → w.heap.size ≤ b)
    (hend : ∀ (u : Nat → Value) (w : World), (∀ j, (E j).V (u j)) → Below W.heap.size W w → (∀ k, k < l.length → (E k).Φ ((autoDeps (l ++ tail).toArray k).map u) w (u k)) →
      (∀ i, i < l.length → ∀ j, j < l.length → i ≠ j → ∀ b, (E i).H (u i) b → (E j).H (u j) b → False) → wpList P (l ++ tail).toArray Q tail (fullAct l 0 u a0) w) :
    (Code.region id (l ++ tail).toArray true).wp P Q a0 W := by
  refine wp_region_any hm ?_
  refine wpAny_grow (growOk hB) W E hE hops hend _ _ (fun k => ((hE k).ne).choose) a0 _ ?_ ⟨by simp, ((Below.refl _ _).drew : Below W.heap.size W W.drew), fun k => ((hE k).ne).choose_spec, fun k hk => absurd hk getD_rep, fun i j _ hi => absurd hi getD_rep,
    fun k hk => absurd hk getD_rep, fun k hk => absurd hk getD_rep, rfl, rfl, fun k o t _ _ hk => absurd hk getD_rep, fun t _ => rfl⟩
  simp [left]

/-! ### The walk in the order of the text -/

/-- What is known of the operations so far, the newest first: values, facts (of a world), blocks of their own. -/
structure Seen where
  vs : List Value
  fs : List (World → Prop)
  hs : List (Nat → Prop)
def Seen.none : Seen := ⟨[], [], []⟩
def Seen.push (s : Seen) (v : Value) (f : World → Prop) (h : Nat → Prop) : Seen := ⟨v :: s.vs, f :: s.fs, h :: s.hs⟩
def nth {α : Type} (d : α) : List α → Nat → α
  | [], _ => d
  | x :: _, 0 => x
  | _ :: l, n + 1 => nth d l n
def nthL {α : Type} (d : α) (l : List α) (k : Nat) : α := nth d l (l.length - 1 - k)
def Seen.fact (s : Seen) (k : Nat) : World → Prop := nthL (fun _ => True) s.fs k
def Seen.own (s : Seen) (k : Nat) : Nat → Prop := nthL (fun _ => False) s.hs k
def Seen.val (s : Seen) (k : Nat) : Value := nthL undef s.vs k
theorem nth_eq {α : Type} (d : α) : ∀ (l : List α) (n : Nat), nth d l n = l.getD n d
  | [], _ => by simp [nth]
  | x :: _, 0 => by simp [nth]
  | _ :: l, n + 1 => by rw [nth, nth_eq d l n]; simp
theorem nthL_rev {α : Type} (d : α) (g : Nat → α) {k j : Nat} (h : j < k) : nthL d ((List.range k).map g).reverse j = g j := by
  have e : k - 1 - (k - 1 - j) = j := by omega
  have h2 : k - 1 - j < k := by omega
  rw [nthL, nth_eq]
  simp [List.getD_eq_getElem?_getD, h2, e]

/-- One operation, under what it may know. -/
def growStep (P : Program) (ops : Array Oper) (W : World) (E : Ent) (o : Oper) (a : Act) (k : Nat) (s : Seen) : Prop :=
  ∀ w, Below W.heap.size W w → (∀ j, (autoDeps ops k).contains j = true → s.fact j w) →
    (∀ i j, (autoDeps ops k).contains i = true → (autoDeps ops k).contains j = true → i ≠ j → ∀ b, s.own i b → s.own j b → False) →
    wpStepK P ops o a w fun v w' => Below w.heap.size w w' ∧ E.Φ ((autoDeps ops k).map s.val) w' v ∧ ∀ b, E.H v b → w.heap.size ≤ b

def wpGrow (P : Program) (ops : Array Oper) (W : World) (R : Act → World → Prop) : Nat → List Ent → List Oper → Act → Seen → Prop
  | k, E :: Es, o :: rest, a, s => Good E ∧ growStep P ops W E o a k s ∧ ∀ v, E.V v → wpGrow P ops W R (k + 1) Es rest (a.put o.dst v) (s.push v (fun w => E.Φ ((autoDeps ops k).map s.val) w v) (E.H v))
  | k, _, [], a, s => ∀ w, Below W.heap.size W w → (∀ j, j < k → s.fact j w) → (∀ i j, i < k → j < k → i ≠ j → ∀ b, s.own i b → s.own j b → False) → R a w
  | _, [], _ :: _, _, _ => False

/-- The first k of u. -/
def firsts (ops : Array Oper) (E : Nat → Ent) (u : Nat → Value) (k : Nat) : Seen :=
  ⟨((List.range k).map u).reverse, ((List.range k).map fun j w => (E j).Φ ((autoDeps ops j).map u) w (u j)).reverse, ((List.range k).map fun j => (E j).H (u j)).reverse⟩
theorem firsts_fact {ops : Array Oper} {E : Nat → Ent} {u : Nat → Value} {k j : Nat} (h : j < k) : (firsts ops E u k).fact j = fun w => (E j).Φ ((autoDeps ops j).map u) w (u j) :=
  nthL_rev _ (fun j w => (E j).Φ ((autoDeps ops j).map u) w (u j)) h
theorem firsts_own {ops : Array Oper} {E : Nat → Ent} {u : Nat → Value} {k j : Nat} (h : j < k) : (firsts ops E u k).own j = (E j).H (u j) :=
  nthL_rev _ (fun j => (E j).H (u j)) h
theorem firsts_val {ops : Array Oper} {E : Nat → Ent} {u : Nat → Value} {k j : Nat} (h : j < k) : (firsts ops E u k).val j = u j :=
  nthL_rev _ u h
theorem firsts_vals {ops : Array Oper} {E : Nat → Ent} {u : Nat → Value} {k : Nat} : (autoDeps ops k).map (firsts ops E u k).val = (autoDeps ops k).map u :=
  List.map_congr_left fun _ hj => firsts_val (autoDeps_lt hj)
theorem firsts_succ {ops : Array Oper} {E : Nat → Ent} {u : Nat → Value} {k : Nat} : firsts ops E u (k + 1) = (firsts ops E u k).push (u k) (fun w => (E k).Φ ((autoDeps ops k).map (firsts ops E u k).val) w (u k)) ((E k).H (u k)) := by
  rw [firsts_vals]
  simp [firsts, Seen.push, List.range_succ]
theorem fullAct_snoc : ∀ (l : List Oper) (o : Oper) (k : Nat) (u : Nat → Value) (a : Act), fullAct (l ++ [o]) k u a = (fullAct l k u a).put o.dst (u (k + l.length))
  | [], _, _, _, _ => rfl
  | x :: l, o, k, u, a => by
    rw [List.cons_append, fullAct, fullAct_snoc l, fullAct]
    simp [Nat.add_comm, Nat.add_left_comm]

theorem grow_walk {ops : Array Oper} {W : World} {R : Act → World → Prop} {a0 : Act} {Ef : Nat → Ent} {u : Nat → Value} (hV : ∀ j, (Ef j).V (u j)) (l : List Oper) :
    ∀ (rest done : List Oper) (Es : List Ent), l = done ++ rest → (∀ j, j < rest.length → Es[j]? = some (Ef (done.length + j))) → wpGrow P ops W R done.length Es rest (fullAct done 0 u a0) (firsts ops Ef u done.length) →
      (∀ (k : Nat) (o : Oper), done.length ≤ k → l[k]? = some o → growStep P ops W (Ef k) o (fullAct (l.take k) 0 u a0) k (firsts ops Ef u k)) ∧
      (∀ w, Below W.heap.size W w → (∀ j, j < l.length → (firsts ops Ef u l.length).fact j w) → (∀ i j, i < l.length → j < l.length → i ≠ j → ∀ b, (firsts ops Ef u l.length).own i b → (firsts ops Ef u l.length).own j b → False) → R (fullAct l 0 u a0) w)
  | [], done, Es, hl, hE, h => by
    rw [List.append_nil] at hl
    subst hl
    refine ⟨fun k o hk ho => ?_, ?_⟩
    · rw [List.getElem?_eq_none hk] at ho; cases ho
    · cases Es <;> exact h
  | o :: rest, done, Es, hl, hE, h => by
    have hE0 := hE 0 (by simp)
    cases Es with
    | nil => simp at hE0
    | cons E Es =>
      have e0 : E = Ef done.length := by simpa using hE0
      subst e0
      obtain ⟨_, h1, h2⟩ := h
      have h3 := h2 (u done.length) (hV _)
      rw [← firsts_succ] at h3
      have hlen : (done ++ [o]).length = done.length + 1 := by simp
      have ea : (fullAct done 0 u a0).put o.dst (u done.length) = fullAct (done ++ [o]) 0 u a0 := by rw [fullAct_snoc, Nat.zero_add]
      rw [ea, ← hlen] at h3
      obtain ⟨i1, i2⟩ := grow_walk hV l rest (done ++ [o]) Es (by simp [hl]) (fun j hj => by
        have := hE (j + 1) (by simp; omega)
        rw [hlen]
        simpa [Nat.add_assoc, Nat.add_comm 1 j] using this) h3
      refine ⟨fun k o' hk ho => ?_, i2⟩
      rcases Nat.eq_or_lt_of_le hk with rfl | hk
      · subst hl
        rw [List.getElem?_append_right (Nat.le_refl _)] at ho
        simp only [Nat.sub_self, List.getElem?_cons_zero, Option.some.injEq] at ho
        subst ho
        rw [List.take_left]
        exact h1
      · exact i1 k o' (by rw [hlen]; omega) ho

/-- All are good, along the walk. -/
theorem grow_good {ops : Array Oper} {W : World} {R : Act → World → Prop} : ∀ (l : List Oper) (k : Nat) (Es : List Ent) (a : Act) (s : Seen), wpGrow P ops W R k Es l a s → ∀ j, j < l.length → ∃ E, Es[j]? = some E ∧ Good E
  | [], _, _, _, _, _, j, hj => by simp at hj
  | o :: rest, k, [], a, s, h, j, hj => h.elim
  | o :: rest, k, E :: Es, a, s, h, 0, hj => ⟨E, rfl, h.1⟩
  | o :: rest, k, E :: Es, a, s, h, j + 1, hj => by
    obtain ⟨v, hv⟩ := h.1.ne
    have := grow_good rest (k + 1) Es _ _ (h.2.2 v hv) j (by simpa using hj)
    simpa using this

def noEnt : Ent := ⟨fun _ _ _ => True, fun _ => True, fun _ _ => False⟩
theorem noEnt_good : Good noEnt := ⟨fun _ _ _ _ _ h => h, fun _ _ _ h => h, ⟨undef, trivial⟩, fun _ _ _ _ _ h => h.elim⟩

/-- A region that draws its order, walked in the order of the text; the operations from number n on are its tail. -/
theorem region_mk {ops : List Oper} {id : Nat} (n : Nat) (hm : P.follows .mixedOrders = true) (hB : growB ops.toArray n = true) {a0 : Act} {W : World} {Q : Exit → Act → World → Prop}
    (hx : ∃ Es, wpGrow P ops.toArray W (wpList P ops.toArray Q (ops.drop n)) 0 Es (ops.take n) a0 Seen.none) : (Code.region id ops.toArray true).wp P Q a0 W := by
  obtain ⟨Es, h⟩ := hx
  have hn : n ≤ ops.length := by have := (growOk hB).le; simpa using this
  have hlen : (ops.take n).length = n := by simp [hn]
  have happ : ops.take n ++ ops.drop n = ops := List.take_append_drop n ops
  have hgood := grow_good _ _ _ _ _ h
  have hE : ∀ k, Good (if k < n then Es.getD k noEnt else noEnt) := fun k => by
    by_cases hk : k < n
    · obtain ⟨E, he, hg⟩ := hgood k (by omega)
      simpa [hk, he] using hg
    · simpa [hk] using noEnt_good
  have key : ∀ u : Nat → Value, (∀ j, (if j < n then Es.getD j noEnt else noEnt).V (u j)) → _ := fun u hV =>
    grow_walk (P := P) (Ef := fun k => if k < n then Es.getD k noEnt else noEnt) (a0 := a0) hV (ops.take n) (ops.take n) [] Es rfl (fun j hj => by
      obtain ⟨E, he, _⟩ := hgood j hj
      have hjn : j < n := by omega
      simp [he, hjn]) h
  have main := region_grow (P := P) (l := ops.take n) (tail := ops.drop n) (id := id) hm (by rw [happ, hlen]; exact hB) (fun k => if k < n then Es.getD k noEnt else noEnt) hE (a0 := a0) (W := W) (Q := Q)
    (fun k o ho u w hV hC hF hS => by
      rw [happ] at hF hS ⊢
      have := (key u hV).1 k o (Nat.zero_le _) ho w hC (fun j hj => by
          have hj := List.contains_iff_mem.1 hj
          rw [firsts_fact (autoDeps_lt hj)]; exact hF j hj)
        (fun i j hi hj hne b => by
          have hi := List.contains_iff_mem.1 hi
          have hj := List.contains_iff_mem.1 hj
          rw [firsts_own (autoDeps_lt hi), firsts_own (autoDeps_lt hj)]; exact hS i hi j hj hne b)
      rw [firsts_vals] at this
      exact this)
    (fun u w hV hC hF hS => by
      rw [happ] at hF ⊢
      refine (key u hV).2 w hC (fun j hj => ?_) fun i j hi hj hne b => ?_
      · rw [firsts_fact hj]; exact hF j hj
      · rw [firsts_own hi, firsts_own hj]; exact hS i hi j hj hne b)
  rwa [happ] at main
end
/-! ### Single steps -/
section
variable {P : Program} {ops : Array Oper} {W : World} {R : Act → World → Prop} {k : Nat} {Es : List Ent} {o : Oper} {rest : List Oper} {a : Act} {s : Seen}

def Ent.is (c : Value) : Ent := ⟨fun _ _ v => v = c, fun v => v = c, fun _ _ => False⟩
theorem Ent.is_good (c : Value) : Good (Ent.is c) := ⟨fun _ _ _ _ _ h => h, fun _ _ _ h => h, ⟨c, rfl⟩, fun _ _ _ _ _ h => h.elim⟩
def Ent.fn (f : List Value → Value) : Ent := ⟨fun d _ v => v = f d, fun _ => True, fun _ _ => False⟩
theorem Ent.fn_good (f : List Value → Value) : Good (Ent.fn f) := ⟨fun _ _ _ _ _ h => h, fun _ _ _ _ => trivial, ⟨undef, trivial⟩, fun _ _ _ _ _ h => h.elim⟩
/-- A new list of ints. -/
def Ent.ints (N : Nat) (xs : List Int) : Ent := ⟨fun _ w v => Own w N v xs, fun v => ∃ A c, v = .slice A xs.length c, fun v b => v.ownBlock = some b⟩
theorem Ent.ints_good (N : Nat) (xs : List Int) : Good (Ent.ints N xs) :=
  ⟨fun _ _ _ _ hb h => h.ext hb, fun _ _ _ h => h.form, ⟨.slice none xs.length 0, none, 0, rfl⟩, fun _ _ _ b h hb => (h.lt b hb).2⟩
/-- A new block. -/
def Ent.blk (N : Nat) (T : TypeId) (cs : Array Value) : Ent := ⟨fun _ w v => ∃ g, v = .pointer (some ⟨g, 0, none⟩) ∧ N ≤ g ∧ Blk w g T cs, fun v => ∃ g, v = .pointer (some ⟨g, 0, none⟩) ∧ N ≤ g, fun v b => v = .pointer (some ⟨b, 0, none⟩)⟩
theorem Ent.blk_good (N : Nat) (T : TypeId) (cs : Array Value) : Good (Ent.blk N T cs) :=
  ⟨fun _ _ _ _ hb ⟨g, h1, h2, h3⟩ => ⟨g, h1, h2, Blk.ext h3 hb (Blk.lt h3)⟩, fun _ _ _ ⟨g, h1, h2, _⟩ => ⟨g, h1, h2⟩, ⟨_, N, rfl, Nat.le_refl _⟩, fun _ _ _ b ⟨g, h1, _, h3⟩ hb => by
    have e : Value.pointer (some ⟨g, 0, none⟩) = .pointer (some ⟨b, 0, none⟩) := h1.symm.trans hb
    simp only [Value.pointer.injEq, Option.some.injEq, Addr.mk.injEq, and_true] at e
    exact e ▸ Blk.lt h3⟩

theorem blk_of {N g : Nat} {T : TypeId} {cs : Array Value} {d : List Value} {w : World} (h : (Ent.blk N T cs).Φ d w (.pointer (some ⟨g, 0, none⟩))) : Blk w g T cs := by
  obtain ⟨g', e, _, h⟩ := h
  simp only [Value.pointer.injEq, Option.some.injEq, Addr.mk.injEq, and_true] at e
  exact e ▸ h
theorem blk_new {N : Nat} {T : TypeId} {cs : Array Value} (x : ExtW W) (hN : N ≤ W.heap.size) {d : List Value} : (Ent.blk N T cs).Φ d (x.v.alloc (.cells cs T)) (.pointer (some ⟨x.v.heap.size, 0, none⟩)) :=
  ⟨_, rfl, Nat.le_trans hN x.h.size, Blk.new _ _ _⟩
theorem blk_fresh {N b : Nat} {T : TypeId} {cs : Array Value} {w : World} (h : (Ent.blk N T cs).H (.pointer (some ⟨w.heap.size, 0, none⟩)) b) : w.heap.size ≤ b := by
  have e : Value.pointer (some ⟨w.heap.size, 0, none⟩) = .pointer (some ⟨b, 0, none⟩) := h
  simp only [Value.pointer.injEq, Option.some.injEq, Addr.mk.injEq, and_true] at e
  omega
theorem grow_nil (h : ∀ x : ExtW W, (∀ j, j < k → s.fact j x.v) → (∀ i j, i < k → j < k → i ≠ j → ∀ b, s.own i b → s.own j b → False) → R a x.v) : wpGrow P ops W R k [] [] a s :=
  fun w hC hF hS => h ⟨w, hC⟩ hF hS
theorem grow_val {c : Value} (hw : Region.wanted o (yielded ops a.tmps) = true) (h : ∀ x : ExtW W, (execOp a.eval o).run P x.v = .ok (.value c) x.v)
    (hr : wpGrow P ops W R (k + 1) Es rest (a.put o.dst c) (s.push c (fun _ => True) (fun _ => False))) : wpGrow P ops W R k (Ent.is c :: Es) (o :: rest) a s := by
  refine ⟨Ent.is_good c, fun w hC _ _ K Q hK => ?_, fun v hv => ?_⟩
  · rw [if_pos hw]
    unfold Oper.wp
    rw [h ⟨w, hC⟩]
    exact hK c w ⟨Below.refl _ _, rfl, fun b h => h.elim⟩
  · cases hv
    have e : (fun _ : World => True) = (fun w => (Ent.is c).Φ ((autoDeps ops k).map s.val) w c) := by funext w; simp [Ent.is]
    rw [e] at hr
    exact hr
theorem grow_skip (hw : Region.wanted o (yielded ops a.tmps) = false)
    (hr : wpGrow P ops W R (k + 1) Es rest (a.put o.dst undef) (s.push undef (fun _ => True) (fun _ => False))) : wpGrow P ops W R k (Ent.is undef :: Es) (o :: rest) a s := by
  refine ⟨Ent.is_good _, fun w hC _ _ K Q hK => ?_, fun v hv => ?_⟩
  · rw [if_neg (by simp [hw])]
    exact hK _ w ⟨Below.refl _ _, rfl, fun b h => h.elim⟩
  · cases hv
    have e : (fun _ : World => True) = (fun w => (Ent.is undef).Φ ((autoDeps ops k).map s.val) w undef) := by funext w; simp [Ent.is]
    rw [e] at hr
    exact hr
/-- An operation that yields one value and makes what memory it likes. -/
theorem grow_call {c : Value} (hw : Region.wanted o (yielded ops a.tmps) = true) (h : ∀ x : ExtW W, ∀ (K : Act → World → Prop) (Q : Exit → Act → World → Prop), (∀ w', Below x.v.heap.size x.v w' → K (a.put o.dst c) w') → o.wp P a x.v K Q)
    (hr : wpGrow P ops W R (k + 1) Es rest (a.put o.dst c) (s.push c (fun _ => True) (fun _ => False))) : wpGrow P ops W R k (Ent.is c :: Es) (o :: rest) a s := by
  refine ⟨Ent.is_good c, fun w hC _ _ K Q hK => ?_, fun v hv => ?_⟩
  · rw [if_pos hw]
    exact h ⟨w, hC⟩ K Q fun w' hb => hK c w' ⟨hb, rfl, fun b h => h.elim⟩
  · cases hv
    have e : (fun _ : World => True) = (fun w => (Ent.is c).Φ ((autoDeps ops k).map s.val) w c) := by funext w; simp [Ent.is]
    rw [e] at hr
    exact hr
/-- A value that hangs on earlier ones. -/
theorem grow_fn (f : List Value → Value) (vals : List Value) (hv : (autoDeps ops k).map s.val = vals) (hw : Region.wanted o (yielded ops a.tmps) = true)
    (h : ∀ x : ExtW W, (∀ j, (autoDeps ops k).contains j = true → s.fact j x.v) → ∃ c, (execOp a.eval o).run P x.v = .ok (.value c) x.v ∧ c = f vals)
    (hr : ∀ v, ∀ F : World → Prop, (∀ w, F w → v = f vals) → wpGrow P ops W R (k + 1) Es rest (a.put o.dst v) (s.push v F (fun _ => False))) : wpGrow P ops W R k (Ent.fn f :: Es) (o :: rest) a s := by
  subst hv
  refine ⟨Ent.fn_good f, fun w hC hF _ K Q hK => ?_, fun v _ => hr v _ fun _ h => h⟩
  rw [if_pos hw]
  unfold Oper.wp
  obtain ⟨c, hc, rfl⟩ := h ⟨w, hC⟩ hF
  rw [hc]
  exact hK _ w ⟨Below.refl _ _, rfl, fun b h => h.elim⟩
/-- An operation that makes memory of its own. -/
theorem grow_mk (E : Ent) (hg : Good E) (hw : Region.wanted o (yielded ops a.tmps) = true)
    (h : ∀ x : ExtW W, (∀ j, (autoDeps ops k).contains j = true → s.fact j x.v) → (∀ i j, (autoDeps ops k).contains i = true → (autoDeps ops k).contains j = true → i ≠ j → ∀ b, s.own i b → s.own j b → False) →
      ∀ (K : Act → World → Prop) (Q : Exit → Act → World → Prop), (∀ v w', Below x.v.heap.size x.v w' → E.Φ ((autoDeps ops k).map s.val) w' v → (∀ b, E.H v b → x.v.heap.size ≤ b) → K (a.put o.dst v) w') → o.wp P a x.v K Q)
    (hr : ∀ v, E.V v → ∀ (F : World → Prop) (O : Nat → Prop), (∀ w, F w → E.Φ ((autoDeps ops k).map s.val) w v) → (∀ b, E.H v b → O b) → wpGrow P ops W R (k + 1) Es rest (a.put o.dst v) (s.push v F O)) : wpGrow P ops W R k (E :: Es) (o :: rest) a s := by
  refine ⟨hg, fun w hC hF hS K Q hK => ?_, fun v hV => hr v hV _ _ (fun _ h => h) fun _ h => h⟩
  rw [if_pos hw]
  exact h ⟨w, hC⟩ hF hS K Q fun v w' h1 h2 h3 => hK v w' ⟨h1, h2, h3⟩
/-- The three makers that come most often. -/
theorem grow_ints (xs : List Int) (hw : Region.wanted o (yielded ops a.tmps) = true)
    (h : ∀ x : ExtW W, (∀ j, (autoDeps ops k).contains j = true → s.fact j x.v) → ∀ (K : Act → World → Prop) (Q : Exit → Act → World → Prop), (∀ v w', Below x.v.heap.size x.v w' → Own w' x.v.heap.size v xs → K (a.put o.dst v) w') → o.wp P a x.v K Q)
    (hr : ∀ A c, ∀ (F : World → Prop) (O : Nat → Prop), (∀ w, F w → Own w W.heap.size (.slice A xs.length c) xs) → (∀ b, (Value.slice A xs.length c).ownBlock = some b → O b) → wpGrow P ops W R (k + 1) Es rest (a.put o.dst (.slice A xs.length c)) (s.push (.slice A xs.length c) F O)) :
    wpGrow P ops W R k (Ent.ints W.heap.size xs :: Es) (o :: rest) a s := by
  refine grow_mk _ (Ent.ints_good _ _) hw (fun x hF _ K Q hK => h x hF K Q fun v w' hb ho => hK v w' hb (ho.mono x.h.size) fun b hb => (ho.lt b hb).1) fun v hV F O hF hO => ?_
  obtain ⟨A, c, rfl⟩ := hV
  exact hr A c F O hF hO
theorem grow_blk (T : TypeId) (cs : Array Value) (hw : Region.wanted o (yielded ops a.tmps) = true)
    (h : ∀ x : ExtW W, (execOp a.eval o).run P x.v = .ok (.value (.pointer (some ⟨x.v.heap.size, 0, none⟩))) (x.v.alloc (.cells cs T)))
    (hr : ∀ g, W.heap.size ≤ g → ∀ (F : World → Prop) (O : Nat → Prop), (∀ w, F w → Blk w g T cs) → O g → wpGrow P ops W R (k + 1) Es rest (a.put o.dst (.pointer (some ⟨g, 0, none⟩))) (s.push (.pointer (some ⟨g, 0, none⟩)) F O)) :
    wpGrow P ops W R k (Ent.blk W.heap.size T cs :: Es) (o :: rest) a s := by
  refine grow_mk _ (Ent.blk_good _ _ _) hw (fun x _ _ K Q hK => ?_) fun v hV F O hF hO => ?_
  · unfold Oper.wp
    rw [h x]
    exact hK _ _ (below_alloc _ _) (blk_new x (Nat.le_refl _)) fun b h => blk_fresh h
  · obtain ⟨g, rfl, hg⟩ := hV
    exact hr g hg F O (fun w hw => blk_of (hF w hw)) (hO g rfl)
end
end Go.Proofs.YtmoejdnodhmglaaDoor
