/- Regions that draw their order, shown operation by operation: each operation of the head has a predicate on its value and the world, kept by all that runs beside it; the tail waits for the head. No statement is proved here. -/
import Derived.StillTail
import Derived.Below
namespace Go.Proofs.Ytgonighpjpfmnaa
open Go.RowKit

section
variable {P : Program} {ops : Array Oper} {R : World → World → Prop} {Φ : Nat → Value → World → Prop} {w0 : World} {a0 : Act} {N : Nat}

/-- What one operation leaves: a value of its kind, a world that goes on from the one before. -/
def tUpon (P : Program) (R : World → World → Prop) (w : World) (φ : Value → World → Prop) : Result Next → Prop
  | .ok (.value v) w' => R w w' ∧ φ v w'
  | .ok .skip w' => R w w' ∧ φ undef w'
  | .ok (.enter f args) w' => Calls P f args w' fun e w'' => ∃ v, e = .returned v ∧ R w w'' ∧ φ v w''
  | _ => False

def tOp (P : Program) (ops : Array Oper) (R : World → World → Prop) (o : Oper) (a : Act) (w : World) (φ : Value → World → Prop) : Prop :=
  if Region.wanted o (yielded ops a.tmps) then tUpon P R w φ ((execOp a.eval o).run P w) else φ undef w

theorem wpOp_of_tOp {Q : Exit → Act → World → Prop} {K : Act → World → Prop} {i : Nat} {o : Oper} {a : Act} {w : World} {φ : Value → World → Prop} (hr : ∀ w, R w w) (ho : ops[i]? = some o)
    (h : tOp P ops R o a w φ) (hK : ∀ v w', R w w' → φ v w' → K (a.put o.dst v) w') : wpOp P ops Q i K a w := by
  unfold wpOp
  simp only [ho]
  unfold tOp at h
  split
  · rename_i hw
    rw [if_pos hw] at h
    left
    unfold Oper.wp
    generalize (execOp a.eval o).run P w = r at *
    cases r with
    | ok n w' =>
      cases n <;> simp only [tUpon] at h <;> simp only [Oper.upon]
      case value v => exact hK _ _ h.1 h.2
      case skip => exact hK _ _ h.1 h.2
      case enter f args => exact h.mono fun e w'' ⟨v, he, h1, h2⟩ => by subst he; exact hK _ _ h1 h2
    | halt x w' => simp only [tUpon] at h
  · rename_i hw
    rw [if_neg hw] at h
    exact hK _ _ (hr w) h

/-- The value that operation i has left. -/
def sv (ops : Array Oper) (i : Nat) (a : Act) : Value := match (ops[i]?).bind (·.dst) with
  | some d => a.tmps.getD d undef
  | none => undef

/-- Each operation of the head that is not loose is waited for, in the end by the tail. -/
def sinkL (ops : Array Oper) (N : Nat) (Lo : List Nat) : Bool :=
  (List.range N).all fun i => Lo.contains i || (List.range (N + 1)).any fun j => decide (i < j) && !Lo.contains j && Region.waitsFor .any ops j i

/-- A loose operation: an extract that is apart from whatever does not wait for it. -/
def looseB (ops : Array Oper) (N : Nat) (Lo : List Nat) : Bool :=
  Region.noSelect ops && Lo.all fun i => decide (i < N) && match ops[i]? with
    | some o => (match o.op with | .extract _ _ => o.guard.isNone | _ => false) && (List.range ops.size).all fun j => j == i || o.after.any (fun e => Region.binds .any e && e.on == j) || (match ops[j]? with
      | some oj => oj.after.any (fun e => Region.binds .any e && e.on == i) || o.apart ops oj
      | none => true)
    | none => false

theorem tail_waitsL {ops : Array Oper} {N : Nat} {Lo : List Nat} {listed : Array Bool} (hs : sinkL ops N Lo = true) (hc : Region.chainB .any ops N = true) (hn : N < ops.size) (inv : HeadInv .any ops N listed) :
    ∀ (d i : Nat), N - i = d → i < N → Lo.contains i = false → listed.getD i true = false → ∀ t, N ≤ t → t ∉ Region.ready .any ops listed := by
  intro d
  induction d using Nat.strongRecOn with
  | _ d ih =>
    intro i hd hi hLo hun t ht hr
    obtain ⟨_, ot, hot, hall⟩ := mem_ready.1 hr
    have htlt : t < ops.size := (Array.getElem?_eq_some_iff.1 hot).1
    by_cases htn : t = N
    · subst htn
      have h1 := List.all_eq_true.1 hs i (List.mem_range.2 hi)
      rw [hLo, Bool.false_or] at h1
      obtain ⟨j, hj, hj2⟩ := List.any_eq_true.1 h1
      simp only [Bool.and_eq_true, decide_eq_true_eq, Bool.not_eq_true'] at hj2
      obtain ⟨oj, hoj, e, he, hb, hon⟩ := Region.waitsFor_spec hj2.2
      have hjle : j ≤ t := by have := List.mem_range.1 hj; omega
      by_cases hjt : j = t
      · subst hjt
        have : oj = ot := Option.some.inj (hoj.symm.trans hot)
        subst this
        have h2 := hall e he hb
        rw [hon, getD_both hun] at h2
        cases h2
      · cases hl : listed.getD j false with
        | true =>
          have h2 := inv.closed j oj hoj hl e he hb
          rw [hon, getD_both hun] at h2
          cases h2
        | false =>
          have hjs : j < listed.size := by rw [inv.size]; omega
          exact ih (t - j) (by omega) j rfl (by omega) hj2.1.2 (getD_in hjs hl) t (Nat.le_refl _) hr
    · have h1 := List.all_eq_true.1 hc t (List.mem_range.2 htlt)
      simp only [Bool.or_eq_true, decide_eq_true_eq] at h1
      rcases h1 with h1 | h1
      · omega
      · obtain ⟨o', ho', e, he, hb, hon⟩ := Region.waitsFor_spec h1
        have : o' = ot := Option.some.inj (ho'.symm.trans hot)
        subst this
        have h2 := hall e he hb
        rw [hon, getD_both (inv.tail (t - 1) (by omega) (by omega))] at h2
        cases h2

theorem extract_yields {P : Program} {ops : Array Oper} {R : World → World → Prop} {o : Oper} {x : Operand} {n : Nat} {a : Act} {w : World} {φ : Value → World → Prop} (ho : o.op = .extract x n) (hg : o.guard = none) (h : tOp P ops R o a w φ) :
    ∃ v, Yields P ops o v a ∧ ∃ w', φ v w' := by
  have hw : Region.wanted o (yielded ops a.tmps) = true := by simp [Region.wanted, hg]
  unfold tOp at h
  rw [if_pos hw] at h
  have hrun : ∀ w, (execOp a.eval o).run P w = (do pure (.value (← Instr.extract (a.eval x) n)) : Sem Next).run P w := fun w => by
    obtain ⟨dst, op, type, pos, after, guard⟩ := o
    simp only at ho
    subst ho
    rfl
  cases ht : a.eval x with
  | tuple vs =>
    cases hv : vs[n]? with
    | some v =>
      have hr : ∀ w, (execOp a.eval o).run P w = .ok (.value v) w := fun w => by rw [hrun, ht]; simp [Instr.extract, hv]
      rw [hr] at h
      exact ⟨v, .inl ⟨hw, hr⟩, w, h.2⟩
    | none =>
      exfalso
      rw [hrun, ht] at h
      simp [Instr.extract, hv, stuck, Sem.run, tUpon] at h
  | _ =>
    exfalso
    rw [hrun, ht] at h
    simp [Instr.extract, stuck, Sem.run, tUpon] at h

/-- The static look: edges go back; the head's destinations differ and lie in the frame; the tail waits. -/
def Region.typB (ops : Array Oper) (N m : Nat) (Lo : List Nat := []) : Bool :=
  (decide (N = ops.size) || (sinkL ops N Lo && Region.chainB .any ops N)) && decide (N ≤ ops.size) &&
  ((List.range ops.size).all fun i => match ops[i]? with | some o => o.after.all fun e => !Region.binds .any e || decide (e.on < i) | none => true) &&
  ((List.range N).all fun i => match (ops[i]?).bind (·.dst) with
    | some d => decide (d < m) && (List.range N).all fun j => decide (j = i) || decide ((ops[j]?).bind (·.dst) ≠ some d)
    | none => false) &&
  Region.seqB .any ops (ops.size - N) N ((List.range ops.size).map fun i => decide (i < N)).toArray

structure TInv (ops : Array Oper) (R : World → World → Prop) (Φ : Nat → Value → World → Prop) (w0 : World) (a0 : Act) (N : Nat) (listed : Array Bool) (a : Act) (w : World) : Prop where
  world : R w0 w
  defers : a.defers = a0.defers
  size : a.tmps.size = a0.tmps.size
  outside : ∀ s, (∀ j, j < N → (ops[j]?).bind (·.dst) ≠ some s) → a.tmps.getD s undef = a0.tmps.getD s undef
  done : ∀ j, j < N → listed.getD j false = true → Φ j (sv ops j a) w

/-- What the operations of the head are shown for: any act in which the operations that this one waits for have left values of their kinds. -/
structure TPre (ops : Array Oper) (R : World → World → Prop) (Φ : Nat → Value → World → Prop) (w0 : World) (a0 : Act) (N : Nat) (deps : List Nat) (a : Act) (w : World) : Prop where
  world : R w0 w
  size : a.tmps.size = a0.tmps.size
  outside : ∀ s, (∀ j, j < N → (ops[j]?).bind (·.dst) ≠ some s) → a.tmps.getD s undef = a0.tmps.getD s undef
  done : ∀ j ∈ deps, Φ j (sv ops j a) w

def depsOf (N : Nat) (o : Oper) : List Nat := (o.after.toList.filter fun e => Region.binds .any e && decide (e.on < N)).map (·.on)

theorem put_getD (a : Act) (d s : Nat) (v : Value) : (a.put (some d) v).tmps.getD s undef = if d = s ∧ s < a.tmps.size then v else a.tmps.getD s undef := by
  simp only [Act.put, Array.getD_eq_getD_getElem?, Array.getElem?_setIfInBounds]
  by_cases h : d = s
  · subst h
    by_cases h2 : d < a.tmps.size
    · simp [h2]
    · simp [h2]
  · simp [h]

theorem put_size (a : Act) (d : Option Tmp) (v : Value) : (a.put d v).tmps.size = a.tmps.size := by cases d <;> simp [Act.put]
theorem put_defers (a : Act) (d : Option Tmp) (v : Value) : (a.put d v).defers = a.defers := by cases d <;> rfl

/-- The act behind the head: each operation's value in its place. -/
def TEnd (Φ : Nat → Value → World → Prop) (K : Act → World → Prop) (w : World) : List Oper → Nat → Act → Prop
  | [], _, a => K a w
  | o :: l, k, a => ∀ v, Φ k v w → TEnd Φ K w l (k + 1) (a.put o.dst v)

def putsL (ops : Array Oper) (a : Act) : List Oper → Nat → Act → Act
  | [], _, b => b
  | o :: l, k, b => putsL ops a l (k + 1) (b.put o.dst (sv ops k a))

theorem tEnd_putsL {K : Act → World → Prop} {w : World} {a : Act} : ∀ (l : List Oper) (k : Nat) (b : Act), (∀ j, k ≤ j → j < k + l.length → Φ j (sv ops j a) w) → TEnd Φ K w l k b → K (putsL ops a l k b) w
  | [], _, _, _, h => h
  | o :: l, k, b, hd, h => tEnd_putsL l (k + 1) _ (fun j h1 h2 => hd j (by omega) (by simp only [List.length_cons]; omega)) (h _ (hd k (Nat.le_refl _) (by simp)))

theorem putsL_size {a : Act} : ∀ (l : List Oper) (k : Nat) (b : Act), (putsL ops a l k b).tmps.size = b.tmps.size ∧ (putsL ops a l k b).defers = b.defers
  | [], _, _ => ⟨rfl, rfl⟩
  | o :: l, k, b => by
    have := putsL_size (a := a) l (k + 1) (b.put o.dst (sv ops k a))
    simp only [putsL, this, put_size, put_defers, and_self]

theorem sv_at {a : Act} {k : Nat} {o : Oper} {d : Tmp} (ho : ops[k]? = some o) (hd : o.dst = some d) : sv ops k a = a.tmps.getD d undef := by simp [sv, ho, hd]

theorem putsL_keep {a : Act} {s : Nat} : ∀ (l : List Oper) (k : Nat) (b : Act), (∀ j, j < l.length → l[j]? = ops[k + j]?) → b.tmps.getD s undef = a.tmps.getD s undef → (putsL ops a l k b).tmps.getD s undef = a.tmps.getD s undef
  | [], _, _, _, h => h
  | o :: l, k, b, hl, h => by
    have h0 : ops[k]? = some o := by simpa using (hl 0 (by simp)).symm
    refine putsL_keep l (k + 1) _ (fun j hj => by have := hl (j + 1) (by simp; omega); simpa [Nat.add_assoc, Nat.add_comm 1 j] using this) ?_
    cases hd : o.dst with
    | none => exact h
    | some d =>
      rw [put_getD, sv_at h0 hd]
      split
      · rename_i hh; rw [hh.1]
      · exact h

theorem putsL_hit {a : Act} {s : Nat} : ∀ (l : List Oper) (k : Nat) (b : Act), (∀ j, j < l.length → l[j]? = ops[k + j]?) → s < b.tmps.size → (∃ j o, j < l.length ∧ l[j]? = some o ∧ o.dst = some s) → (putsL ops a l k b).tmps.getD s undef = a.tmps.getD s undef
  | [], _, _, _, _, ⟨j, _, hj, _⟩ => by simp at hj
  | o :: l, k, b, hl, hs, ⟨j, o', hj, hjo, hd⟩ => by
    have h0 : ops[k]? = some o := by simpa using (hl 0 (by simp)).symm
    have hl' : ∀ j, j < l.length → l[j]? = ops[k + 1 + j]? := fun j hj => by have := hl (j + 1) (by simp; omega); simpa [Nat.add_assoc, Nat.add_comm 1 j] using this
    cases j with
    | zero =>
      simp only [List.getElem?_cons_zero, Option.some.injEq] at hjo
      subst hjo
      refine putsL_keep l (k + 1) _ hl' ?_
      rw [hd, put_getD, if_pos ⟨rfl, hs⟩, sv_at h0 hd]
    | succ j => exact putsL_hit l (k + 1) _ hl' (by rw [put_size]; exact hs) ⟨j, o', by simpa using hj, by simpa using hjo, hd⟩

def cntT (N : Nat) (listed : Array Bool) : Nat := ((List.range N).filter fun i => !listed.getD i true).length

theorem cntT_set {N i : Nat} {listed : Array Bool} (hi : i < N) (hs : i < listed.size) (h : listed.getD i true = false) : cntT N listed = cntT N (listed.setIfInBounds i true) + 1 := by
  unfold cntT
  have e : (List.range N).filter (fun j => !(listed.setIfInBounds i true).getD j true) = ((List.range N).filter fun j => !listed.getD j true).erase i := by
    rw [List.Nodup.erase_eq_filter (List.Pairwise.filter _ List.nodup_range), List.filter_filter]
    refine List.filter_congr fun j hj => ?_
    by_cases hji : j = i
    · subst hji; simp [hs]
    · rw [getD_set_ne true (Ne.symm hji)]; simp [hji]
  have hm : i ∈ (List.range N).filter fun j => !listed.getD j true := by rw [List.mem_filter]; exact ⟨List.mem_range.2 hi, by rw [h]; rfl⟩
  rw [e, List.length_erase_of_mem hm]
  have := List.length_pos_of_mem hm
  omega

theorem first_open {N : Nat} {listed : Array Bool} (hsz : listed.size = ops.size) (hN : N ≤ ops.size) (hback : ∀ (i : Nat) (o : Oper), ops[i]? = some o → ∀ e ∈ o.after, Region.binds .any e = true → e.on < i) :
    ∀ k, k < N → listed.getD k true = false → ∃ i, i ≤ k ∧ i ∈ Region.ready .any ops listed := by
  intro k
  induction k using Nat.strongRecOn with
  | _ k ih =>
    intro hk hun
    obtain ⟨o, ho⟩ : ∃ o, ops[k]? = some o := ⟨ops[k]'(by omega), Array.getElem?_eq_getElem (by omega)⟩
    by_cases h : ∀ e ∈ o.after, Region.binds .any e = true → listed.getD e.on false = true
    · exact ⟨k, Nat.le_refl _, mem_ready.2 ⟨hun, o, ho, h⟩⟩
    · simp only [Classical.not_forall] at h
      obtain ⟨e, he, hb, hl⟩ := h
      have hlt := hback k o ho e he hb
      obtain ⟨i, h1, h2⟩ := ih e.on hlt (by omega) (getD_in (by omega) (by simpa using hl))
      exact ⟨i, by omega, h2⟩

theorem wpAny_typed {Q : Exit → Act → World → Prop} (hr : ∀ w, R w w) (htr : ∀ a b c, R a b → R b c → R a c) (hmono : ∀ i v w w', i < N → R w w' → Φ i v w → Φ i v w')
    {Lo : List Nat} (hsc : N = ops.size ∨ sinkL ops N Lo = true ∧ Region.chainB .any ops N = true) (hN : N ≤ ops.size) (hback : ∀ (i : Nat) (o : Oper), ops[i]? = some o → ∀ e ∈ o.after, Region.binds .any e = true → e.on < i)
    (hloose : ∀ i, Lo.contains i = true → i < N ∧ (∀ (j : Nat) (o : Oper) cs b, ops[j]? = some o → o.op ≠ .select cs b) ∧ (∀ c (a : Act) (d : Tmp) v w, Q (.panic c) (a.put (some d) v) w → Q (.panic c) a w) ∧
      (∀ oi j oj, ops[i]? = some oi → ops[j]? = some oj → j ≠ i → (∀ e ∈ oi.after, Region.binds .any e = true → e.on ≠ j) → (∀ e ∈ oj.after, Region.binds .any e = true → e.on ≠ i) → oi.apart ops oj = true) ∧
      ∀ o, ops[i]? = some o → ∀ a w, TPre ops R Φ w0 a0 N (depsOf N o) a w → ∃ v, Yields P ops o v a ∧ Φ i v w)
    (hdst : ∀ i, i < N → ∃ d, (ops[i]?).bind (·.dst) = some d ∧ d < a0.tmps.size ∧ ∀ j, j < N → j ≠ i → (ops[j]?).bind (·.dst) ≠ some d)
    (hseq : Region.seqB .any ops (ops.size - N) N ((List.range ops.size).map fun i => decide (i < N)).toArray = true)
    (hstep : ∀ i o, i < N → ops[i]? = some o → ∀ a w, TPre ops R Φ w0 a0 N (depsOf N o) a w → tOp P ops R o a w (Φ i))
    (hend : ∀ w, R w0 w → TEnd Φ (fun a w => wpList P ops Q (ops.toList.drop N) a w) w (ops.toList.take N) 0 a0) :
    ∀ (m : Nat) (listed : Array Bool) (a : Act) (w : World), cntT N listed = m → HeadInv .any ops N listed → TInv ops R Φ w0 a0 N listed a w → wpAny P .any ops Q (m + (ops.size - N)) listed a w := by
  intro m
  induction m with
  | zero =>
    intro listed a w hm inv ti
    have hall : ∀ i, i < N → listed.getD i true = true := fun i hi => by
      cases h : listed.getD i true with
      | true => rfl
      | false =>
        have : i ∈ (List.range N).filter fun j => !listed.getD j true := by rw [List.mem_filter]; exact ⟨List.mem_range.2 hi, by rw [h]; rfl⟩
        have := List.length_pos_of_mem this
        unfold cntT at hm
        omega
    have hl : listed = ((List.range ops.size).map fun i => decide (i < N)).toArray := by
      apply Array.ext (by simp [inv.size])
      intro i h1 h2
      have hi : i < ops.size := by rw [← inv.size]; exact h1
      have e : listed.getD i true = listed[i] := by simp [Array.getD, h1]
      simp only [List.getElem_toArray, List.getElem_map, List.getElem_range]
      by_cases hiN : i < N
      · rw [← e, hall i hiN]; simp [hiN]
      · rw [← e, inv.tail i (by omega) hi]; simp [hiN]
    have hdone : ∀ j, j < N → Φ j (sv ops j a) w := fun j hj => ti.done j hj (by
      cases h : listed.getD j false with
      | true => rfl
      | false => have := hall j hj; rw [getD_in (by rw [inv.size]; omega) h] at this; cases this)
    have htk : ∀ j, j < (ops.toList.take N).length → (ops.toList.take N)[j]? = ops[0 + j]? := fun j hj => by
      rw [List.length_take] at hj
      rw [List.getElem?_take, if_pos (by omega)]; simp
    have hK := tEnd_putsL (ops := ops) (a := a) _ 0 a0 (fun j _ hj => hdone j (by rw [List.length_take] at hj; omega)) (hend w ti.world)
    have ea : putsL ops a (ops.toList.take N) 0 a0 = a := by
      have h1 := putsL_size (ops := ops) (a := a) (ops.toList.take N) 0 a0
      have h2 : (putsL ops a (ops.toList.take N) 0 a0).tmps = a.tmps := by
        apply Array.ext (by rw [h1.1, ti.size])
        intro s h3 h4
        have h5 : (putsL ops a (ops.toList.take N) 0 a0).tmps.getD s undef = a.tmps.getD s undef := by
          by_cases hh : ∃ j, j < N ∧ (ops[j]?).bind (·.dst) = some s
          · obtain ⟨j, hj, hd⟩ := hh
            obtain ⟨o, ho, hd'⟩ : ∃ o, ops[j]? = some o ∧ o.dst = some s := by
              cases ho : ops[j]? with
              | none => rw [ho] at hd; cases hd
              | some o => rw [ho] at hd; exact ⟨o, rfl, hd⟩
            have hlen : j < (ops.toList.take N).length := by rw [List.length_take]; simp; omega
            exact putsL_hit _ 0 a0 htk (by rw [← h1.1]; exact h3) ⟨j, o, hlen, by rw [htk j hlen, Nat.zero_add]; exact ho, hd'⟩
          · refine putsL_keep _ 0 a0 htk (ti.outside s fun j hj hd => hh ⟨j, hj, hd⟩).symm
        simpa [Array.getD, h3, h4] using h5
      have h3 := h1.2.trans ti.defers.symm
      cases ha : putsL ops a (ops.toList.take N) 0 a0
      cases a
      rw [ha] at h2 h3
      simp only at h2 h3
      rw [h2, h3]
    rw [ea] at hK
    rw [Nat.zero_add]
    have := wpAny_of_seq (md := .any) (Q' := Q) (ops.toList.drop N) N listed a w (fun j => by simp [List.getElem?_drop]) (by rw [hl]; simpa using hseq) hK
    simpa using this
  | succ m ih =>
    intro listed a w hm inv ti
    have hex : ∃ i, i < N ∧ listed.getD i true = false := by
      have : 0 < ((List.range N).filter fun j => !listed.getD j true).length := by unfold cntT at hm; omega
      obtain ⟨i, hi⟩ := List.exists_mem_of_length_pos this
      rw [List.mem_filter, List.mem_range] at hi
      exact ⟨i, hi.1, by simpa using hi.2⟩
    obtain ⟨i0, hi0, hun0⟩ := hex
    rw [show m + 1 + (ops.size - N) = (m + (ops.size - N)) + 1 by omega]
    have hpre : ∀ (i : Nat) (o : Oper), ops[i]? = some o → (∀ e ∈ o.after, Region.binds .any e = true → listed.getD e.on false = true) → TPre ops R Φ w0 a0 N (depsOf N o) a w := fun i o ho hwait => ⟨ti.world, ti.size, ti.outside, fun j hj => by
      simp only [depsOf, List.mem_map, List.mem_filter, Bool.and_eq_true, decide_eq_true_eq] at hj
      obtain ⟨e, ⟨he, hb, hlt⟩, rfl⟩ := hj
      exact ti.done _ hlt (hwait e (by simpa using he) hb)⟩
    have hupd : ∀ (i : Nat) (o : Oper) v w', i < N → ops[i]? = some o → R w w' → Φ i v w' → TInv ops R Φ w0 a0 N (listed.setIfInBounds i true) (a.put o.dst v) w' := fun i o v w' hiN ho hR hφ => by
      refine ⟨htr _ _ _ ti.world hR, by rw [put_defers]; exact ti.defers, by rw [put_size]; exact ti.size, fun s hs' => ?_, fun j hj hlj => ?_⟩
      · cases hd : o.dst with
        | none => exact ti.outside s hs'
        | some d =>
          rw [put_getD, if_neg (fun hh => hs' i hiN (by rw [ho]; simp [hd, hh.1]))]
          exact ti.outside s hs'
      · by_cases hji : j = i
        · subst hji
          obtain ⟨d, hd, hlt, _⟩ := hdst j hj
          have hd' : o.dst = some d := by rw [ho] at hd; exact hd
          rw [sv_at ho hd', hd', put_getD, if_pos ⟨rfl, by rw [ti.size]; exact hlt⟩]
          exact hφ
        · rw [getD_set_ne false (Ne.symm hji)] at hlj
          have h := hmono j _ _ _ hj hR (ti.done j hj hlj)
          have : sv ops j (a.put o.dst v) = sv ops j a := by
            unfold sv
            cases hdj : (ops[j]?).bind (·.dst) with
            | none => rfl
            | some dj =>
              cases hd : o.dst with
              | none => rfl
              | some d =>
                obtain ⟨d', hd', _, hne⟩ := hdst i hiN
                have e : d' = d := by rw [ho] at hd'; have := hd'.symm.trans (show (some o).bind (·.dst) = some d from hd); exact Option.some.inj this
                simp only
                rw [put_getD, if_neg (fun hh => hne j hj hji (by rw [hdj, e, hh.1]))]
          rw [this]; exact h
    have hcnt : ∀ i, i < N → listed.getD i true = false → cntT N (listed.setIfInBounds i true) = m := fun i hiN hun => by
      have := cntT_set hiN (by rw [inv.size]; omega) hun; omega
    by_cases hlo : ∃ i, Lo.contains i = true ∧ i ∈ Region.ready .any ops listed
    · obtain ⟨i, hiL, hi⟩ := hlo
      obtain ⟨hun, o, ho, hwait⟩ := mem_ready.1 hi
      obtain ⟨hiN, hsel, hQ, hfree, hyl⟩ := hloose i hiL
      obtain ⟨v, hy, hφ⟩ := hyl o ho a w (hpre i o ho hwait)
      obtain ⟨d, hd, _⟩ := hdst i hiN
      have hd' : o.dst = some d := by rw [ho] at hd; exact hd
      exact wpAny_first ho hsel (fun c a w h => hQ c a d v w (by rw [hd'] at h; exact h)) _ listed a w (fun j oj hj hne hunj hno => hfree o j oj ho hj hne (fun e he hb hon => by
          have h1 := hwait e he hb
          rw [hon, getD_both hunj] at h1
          cases h1) hno) hi hy
        (ih _ _ _ (hcnt i hiN hun) (inv.set hi hiN) (hupd i o v w hiN ho (hr w) hφ))
    refine ⟨fun h0 => ?_, fun i hi => ?_⟩
    · obtain ⟨j, _, hj⟩ := first_open inv.size hN hback i0 hi0 hun0
      rw [h0] at hj; cases hj
    · have hiN : i < N := by
        rcases Nat.lt_or_ge i N with h | h
        · exact h
        · have hisz := (Array.getElem?_eq_some_iff.1 (mem_ready.1 hi).2.choose_spec.1).1
          rcases hsc with he | ⟨hs, hc⟩
          · omega
          · rcases Nat.lt_or_ge N ops.size with hN' | hN'
            · obtain ⟨j, hjl, hj⟩ := first_open inv.size hN hback i0 hi0 hun0
              have hjL : Lo.contains j = false := by
                cases hc : Lo.contains j with
                | false => rfl
                | true => exact absurd ⟨j, hc, hj⟩ hlo
              exact absurd hi (tail_waitsL hs hc hN' inv _ j rfl (by omega) hjL (mem_ready.1 hj).1 i h)
            · omega
      obtain ⟨hun, o, ho, hwait⟩ := mem_ready.1 hi
      exact wpOp_of_tOp hr ho (hstep i o hiN ho a w (hpre i o ho hwait)) fun v w' hR hφ => ih _ _ _ (hcnt i hiN hun) (inv.set hi hiN) (hupd i o v w' hiN ho hR hφ)

/-- The order of worlds: nothing that was there has turned. -/
def LeW (w w' : World) : Prop := Below w.heap.size w w'
theorem LeW.refl (w : World) : LeW w w := Below.refl _ _
theorem LeW.trans {a b c : World} (h : LeW a b) (k : LeW b c) : LeW a c := Below.trans h (k.mono h.size)
/-- A value that is known. -/
def det (c : Value) : Value → World → Prop := fun v _ => v = c

def phi (Φs : List (Value → World → Prop)) (i : Nat) : Value → World → Prop := Φs.getD i (fun _ _ => True)

theorem det_mono (c : Value) : ∀ v w w', R w w' → det c v w → det c v w' := fun _ _ _ _ h => h
/-- A pointer to a new block that holds these cells. -/
def fresh (B : Nat) (cs : Array Value) (T : TypeId) : Value → World → Prop := fun v w => ∃ g, v = .pointer (some ⟨g, 0, none⟩) ∧ B ≤ g ∧ w.heap[g]? = some (.cells cs T (0, 0))
theorem fresh_mono (B : Nat) (cs : Array Value) (T : TypeId) : ∀ v w w', LeW w w' → fresh B cs T v w → fresh B cs T v w' := fun v w w' hR ⟨g, h1, h2, h3⟩ =>
  ⟨g, h1, h2, by rw [hR.block g (Array.getElem?_eq_some_iff.1 h3).1]; exact h3⟩

theorem wp_region_typed {id : Nat} {Q : Exit → Act → World → Prop} {w : World} {l : List Oper} (N m : Nat) (Lo : List Nat) (Φs : List (Value → World → Prop)) (hm : P.follows .mixedOrders = true) (hB : Region.typB l.toArray N m Lo = true)
    (hLB : looseB l.toArray N Lo = true) (hQ : Lo ≠ [] → ∀ c (a : Act) (d : Tmp) v w, Q (.panic c) (a.put (some d) v) w → Q (.panic c) a w) (hdet : ∀ i, Lo.contains i = true → ∃ c, phi Φs i = det c) (hsize : a0.tmps.size = m)
    (hr : ∀ w, R w w) (htr : ∀ a b c, R a b → R b c → R a c) (hmono : ∀ i v w w', i < N → R w w' → phi Φs i v w → phi Φs i v w')
    (hsteps : ∀ i o, i < N → l[i]? = some o → ∀ a w', TPre l.toArray R (phi Φs) w.drew a0 N (depsOf N o) a w' → tOp P l.toArray R o a w' (phi Φs i))
    (hend : ∀ w', R w.drew w' → TEnd (phi Φs) (fun a w' => wpList P l.toArray Q (l.drop N) a w') w' (l.take N) 0 a0) : (Code.region id l.toArray true).wp P Q a0 w := by
  simp only [Region.typB, Bool.and_eq_true, Bool.or_eq_true, decide_eq_true_eq] at hB
  obtain ⟨⟨⟨⟨hsc, hN⟩, hback⟩, hdst⟩, hseq⟩ := hB
  have hN' : N ≤ l.length := by simpa using hN
  have inv0 : HeadInv .any l.toArray N (Array.replicate l.toArray.size false) :=
    ⟨by simp, fun j oj _ hl => (by rw [getD_replicate_false] at hl; cases hl), fun t _ ht => getD_in (by simpa using ht) (getD_replicate_false _ _)⟩
  refine wp_region_any hm ?_
  have hcnt : cntT N (Array.replicate l.toArray.size false) = N := by
    unfold cntT
    rw [List.filter_eq_self.2, List.length_range]
    intro i hi
    rw [List.mem_range] at hi
    rw [getD_in (by simp; omega) (getD_replicate_false _ _)]; rfl
  have hback' : ∀ (i : Nat) (o : Oper), l.toArray[i]? = some o → ∀ e ∈ o.after, Region.binds .any e = true → e.on < i := fun i o ho e he hb => by
    have hi : i < l.toArray.size := (Array.getElem?_eq_some_iff.1 ho).1
    have h1 := List.all_eq_true.1 hback i (List.mem_range.2 hi)
    simp only [ho] at h1
    have h2 := Array.all_eq_true_iff_forall_mem.1 h1 e he
    rw [hb] at h2
    simpa using h2
  simp only [looseB, Bool.and_eq_true, List.all_eq_true, decide_eq_true_eq] at hLB
  have := wpAny_typed (P := P) (ops := l.toArray) (R := R) (Φ := phi Φs) (w0 := w.drew) (a0 := a0) (N := N) (Q := Q) (Lo := Lo) hr htr hmono hsc hN hback'
    (fun i hiL => by
      have hiL' : i ∈ Lo := by simpa using hiL
      obtain ⟨h1, h2⟩ := hLB.2 i hiL'
      refine ⟨h1, Region.noSelect_spec hLB.1, hQ (fun e => by rw [e] at hiL'; cases hiL'), fun oi j oj hi hj hne hdep hno => ?_, fun o ho a w hp => ?_⟩
      · simp only [hi, Bool.and_eq_true, List.all_eq_true, Bool.or_eq_true, beq_iff_eq] at h2
        have h3 := h2.2 j (List.mem_range.2 (Array.getElem?_eq_some_iff.1 hj).1)
        rcases h3 with (h3 | h3) | h3
        · exact absurd h3 hne
        · obtain ⟨e, he, hb⟩ := Array.any_eq_true'.1 h3
          simp only [Bool.and_eq_true, beq_iff_eq] at hb
          exact absurd hb.2 (hdep e he hb.1)
        · simp only [hj, Bool.or_eq_true] at h3
          rcases h3 with h3 | h3
          · obtain ⟨e, he, hb⟩ := Array.any_eq_true'.1 h3
            simp only [Bool.and_eq_true, beq_iff_eq] at hb
            exact absurd hb.2 (hno e he hb.1)
          · exact h3
      · simp only [ho, Bool.and_eq_true] at h2
        obtain ⟨c, hc⟩ := hdet i hiL
        have ht := hsteps i o h1 (by simpa using ho) a w hp
        rw [hc] at ht ⊢
        cases hop : o.op with
        | extract x n =>
          rw [hop] at h2
          obtain ⟨v, hy, w', hv⟩ := extract_yields (R := R) hop (by simpa using h2.1) ht
          exact ⟨v, hy, hv⟩
        | _ => rw [hop] at h2; simp at h2)
    (fun i hi => by
      have h1 := List.all_eq_true.1 hdst i (List.mem_range.2 hi)
      cases hd : (l.toArray[i]?).bind (·.dst) with
      | none => simp only [hd] at h1; cases h1
      | some d =>
        simp only [hd, Bool.and_eq_true, decide_eq_true_eq] at h1
        refine ⟨d, rfl, by rw [hsize]; exact h1.1, fun j hj hji => ?_⟩
        have h2 := List.all_eq_true.1 h1.2 j (List.mem_range.2 hj)
        simp only [Bool.or_eq_true, decide_eq_true_eq] at h2
        exact h2.resolve_left hji)
    hseq
    (fun i o hi ho a w' hp => hsteps i o hi (by simpa using ho) a w' hp)
    (by simpa using hend) N _ a0 w.drew hcnt inv0
    ⟨hr _, rfl, rfl, fun _ _ => rfl, fun j _ hj => by rw [getD_replicate_false] at hj; cases hj⟩
  rwa [show N + (l.toArray.size - N) = l.toArray.size by omega] at this

def outB (ops : Array Oper) (N s : Nat) : Bool := (List.range N).all fun j => decide ((ops[j]?).bind (·.dst) ≠ some s)
theorem TPre.out {deps : List Nat} {a : Act} {w : World} (h : TPre ops R Φ w0 a0 N deps a w) (s : Nat) (hs : outB ops N s = true) : a.tmps.getD s undef = a0.tmps.getD s undef :=
  h.outside s fun j hj => by
    have := List.all_eq_true.1 hs j (List.mem_range.2 hj)
    exact of_decide_eq_true this
theorem TPre.dep {o : Oper} {a : Act} {w : World} (h : TPre ops R Φ w0 a0 N (depsOf N o) a w) (j d : Nat) (hj : (depsOf N o).contains j = true) (hd : (ops[j]?).bind (·.dst) = some d) : Φ j (a.tmps.getD d undef) w := by
  have h1 := h.done j (by simpa using hj)
  unfold sv at h1
  rw [hd] at h1
  exact h1

theorem phi_append (pre t : List (Value → World → Prop)) (j : Nat) (h : j < pre.length) : phi (pre ++ t) j = phi pre j := by
  unfold phi
  rw [List.getD_eq_getElem?_getD, List.getD_eq_getElem?_getD, List.getElem?_append_left h]

end
end Go.Proofs.Ytgonighpjpfmnaa
