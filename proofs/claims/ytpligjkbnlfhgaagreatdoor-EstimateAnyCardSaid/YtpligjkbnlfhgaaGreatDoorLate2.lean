/- Regions that draw their order: more operations, turned from another seat. No statement is proved here. -/
import Derived.Test.YtpligjkbnlfhgaaGreatDoorLate
import Derived.Test.YtpligjkbnlfhgaaGreatDoorLst
import Derived.Laws.AppendOwn
import Derived.Laws.OwnMore
namespace Go.Proofs.YtpligjkbnlfhgaaGreatDoor
open Go.RowKit

section
variable {P : Program} {ops : Array Oper} {R : World → World → Prop} {w0 : World}

/-- A list in memory that a call has made, whatever comes later. -/
def listAt {α : Type} (c : α → List Value) (size : Nat) (d : α) (L : List α) : Pred := fun v w => ∃ A cp, v = .slice A L.length cp ∧ L.length ≤ cp ∧ RowsAt w w.heap.size size A L.length (fun i => c (L.getD i d))
theorem listAt_mono {α : Type} (c : α → List Value) (size : Nat) (d : α) (L : List α) : ∀ v w w', LeW w w' → listAt c size d L v w → listAt c size d L v w' := fun _ _ _ h ⟨A, cp, hv, hc, hR⟩ => ⟨A, cp, hv, hc, (hR.below h (Nat.le_refl _)).more h.size⟩
theorem listAt_of_own {α : Type} {c : α → List Value} {e size : Nat} {w : World} {B : Nat} {v : Value} {L : List α} (hc : ∀ a, (c a).length = size) (d : α) (h : Own c e size w B v L) : listAt c size d L v w := by
  obtain ⟨A, cap, rfl, hcap⟩ := Own.shape h
  exact ⟨A, cap, rfl, hcap, Own.rows hc d h⟩

/-- A call in the midst of a region: what it hands back is known by a predicate. -/
theorem late_gen {f : FuncId} {fn : Func} {dst : Option Tmp} {args : Array Operand} {ats : Array TypeId} {type : TypeId} {pos : String} {after : Array Edge} {pre : List (Tmp × Pred)} {a a' : Act} {next : List (Tmp × Pred) → Act → Prop} {vals : Array Value} {φ : Pred}
    (hf : P.funcs[f]? = some fn) (hname : (fn.name == "runtime.NumGoroutine") = false) (hb : fn.body.isNone = false) (hm : ∀ v w w', R w w' → φ v w → φ v w') (hc : ∀ x : Beh R w0, Calls P f vals x.w fun e w' => ∃ v, e = .returned v ∧ R x.w w' ∧ φ v w')
    (hv : args.toList.map a.eval = vals.toList) (hp : a.put dst undef = a') (hn : next (pre ++ [(dst.getD 0, φ)]) a') : LateAt P ops R w0 ⟨dst, .call ⟨.value (.func f), args, ats⟩, type, pos, after, none⟩ [] (some φ) pre a next := by
  refine ⟨hm, fun x => withGens_none ?_, by rw [hp]; exact hn⟩
  unfold tOp
  rw [if_pos (show Region.wanted _ _ = true from rfl), run_call_fn hf hname hb, show args.map a.eval = vals from Array.toList_inj.1 (by rw [Array.toList_map]; exact hv)]
  exact hc x

/-- A call of two values that are known by predicates: what it hands back is known. -/
theorem late_call2 {f : FuncId} {fn : Func} {dst : Option Tmp} {d1 d2 : Tmp} {ats : Array TypeId} {type : TypeId} {pos : String} {after : Array Edge} {a a' : Act} {next : List (Tmp × Pred) → Act → Prop} {φ1 φ2 : Pred} {c : Value}
    (hf : P.funcs[f]? = some fn) (hname : (fn.name == "runtime.NumGoroutine") = false) (hb : fn.body.isNone = false) (hne : d1 ≠ d2) (h1 : d1 < a.tmps.size) (h2 : d2 < a.tmps.size)
    (hc : ∀ (x : Beh R w0) v1 v2, φ1 v1 x.w → φ2 v2 x.w → Calls P f #[v1, v2] x.w fun e w' => e = .returned c ∧ R x.w w')
    (hp : a.put dst c = a') (hn : next [(d1, φ1), (d2, φ2)] a') : LateAt P ops R w0 ⟨dst, .call ⟨.value (.func f), #[.tmp d1, .tmp d2], ats⟩, type, pos, after, none⟩ [d1, d2] none [(d1, φ1), (d2, φ2)] a next := by
  refine ⟨c, fun x => ?_, by rw [hp]; exact hn⟩
  simp only [withGens, List.contains_cons, beq_self_eq_true, Bool.true_or, if_true]
  intro v1 hv1
  rw [if_pos (by simp)]
  intro v2 hv2
  unfold tOp
  rw [if_pos (show Region.wanted _ _ = true from rfl), run_call_fn hf hname hb]
  have e1 : ((a.put (some d1) v1).put (some d2) v2).eval (.tmp d1) = v1 := by
    show ((a.put (some d1) v1).put (some d2) v2).tmps.getD d1 undef = v1
    rw [put_getD, if_neg (fun h => hne h.1.symm), put_getD, if_pos ⟨rfl, h1⟩]
  have e2 : ((a.put (some d1) v1).put (some d2) v2).eval (.tmp d2) = v2 := by
    show ((a.put (some d1) v1).put (some d2) v2).tmps.getD d2 undef = v2
    rw [put_getD, if_pos ⟨rfl, by rw [put_size]; exact h2⟩]
  have e3 : (#[.tmp d1, .tmp d2] : Array Operand).map ((a.put (some d1) v1).put (some d2) v2).eval = #[v1, v2] := by
    rw [← Array.toList_inj]
    simp [e1, e2]
  rw [e3]
  exact (hc x v1 v2 hv1 hv2).mono fun e w' ⟨he, h⟩ => ⟨c, he, h, rfl⟩

theorem run_append_op (a : Act) (dst : Option Tmp) (args : Array Operand) (ats : Array TypeId) (type : TypeId) (pos : String) (after : Array Edge) (guard : Option (Nat × Bool)) (w w' : World) (v : Value)
    (h : (Builtin.append_ ats type (args.map a.eval)).run P w = .ok v w') : (execOp a.eval ⟨dst, .call ⟨.builtin .append, args, ats⟩, type, pos, after, guard⟩).run P w = .ok (.value v) w' := by
  simp [execOp, resolve, invoke, builtin, h, pure]

/-- An append in the midst of a region. -/
theorem late_append {dst : Option Tmp} {args : Array Operand} {ats : Array TypeId} {type : TypeId} {pos : String} {after : Array Edge} {pre : List (Tmp × Pred)} {a a' : Act} {next : List (Tmp × Pred) → Act → Prop} {vals : Array Value} {φ : Pred}
    (hm : ∀ v w w', R w w' → φ v w → φ v w') (hrun : ∀ x : Beh R w0, ∃ v w', (Builtin.append_ ats type vals).run P x.w = .ok v w' ∧ R x.w w' ∧ φ v w')
    (hv : args.toList.map a.eval = vals.toList) (hp : a.put dst undef = a') (hn : next (pre ++ [(dst.getD 0, φ)]) a') : LateAt P ops R w0 ⟨dst, .call ⟨.builtin .append, args, ats⟩, type, pos, after, none⟩ [] (some φ) pre a next := by
  refine ⟨hm, fun x => withGens_none ?_, by rw [hp]; exact hn⟩
  obtain ⟨v, w', hr, h1, h2⟩ := hrun x
  unfold tOp
  rw [if_pos (show Region.wanted _ _ = true from rfl), run_append_op a dst args ats type pos after none x.w w' v (by rw [show args.map a.eval = vals from Array.toList_inj.1 (by rw [Array.toList_map]; exact hv)]; exact hr)]
  exact ⟨h1, h2⟩

theorem below_of_grownBy {w w' : World} (h : w.grownBy w' none) : Below w.heap.size w w' := ⟨h.os, h.tape, h.output, h.size, fun k hk => h.block k hk (by simp)⟩
end

def freshS (B : Nat) (cs : Array Value) (e n : Nat) : Pred := fun v w => ∃ g, v = .slice (some ⟨g, 0, none⟩) n n ∧ B ≤ g ∧ w.heap[g]? = some (.cells cs e (0, 0))
theorem freshS_mono (B : Nat) (cs : Array Value) (e n : Nat) : ∀ v w w', LeW w w' → freshS B cs e n v w → freshS B cs e n v w' := fun v w w' hR ⟨g, h1, h2, h3⟩ =>
  ⟨g, h1, h2, by rw [hR.block g (Array.getElem?_eq_some_iff.1 h3).1]; exact h3⟩

section
variable {P : Program} {ops : Array Oper} {w0 : World}
theorem late_build {T : TypeId} {n : Nat} {parts : Array (Nat × Operand)} {cs : Array Value} {e : TypeId} {dst : Option Tmp} {type : TypeId} {pos : String} {after : Array Edge} {pre : List (Tmp × Pred)} {a a' : Act} {next : List (Tmp × Pred) → Act → Prop} {B : Nat}
    (hrun : ∀ w : World, (execOp a.eval ⟨dst, .buildSlice T n parts, type, pos, after, none⟩).run P w = .ok (.value (.slice (some ⟨w.heap.size, 0, none⟩) n n)) (w.alloc (.cells cs e)))
    (hB : ∀ x : Beh LeW w0, B ≤ x.w.heap.size) (hp : a.put dst undef = a') (hn : next (pre ++ [(dst.getD 0, freshS B cs e n)]) a') : LateAt P ops LeW w0 ⟨dst, .buildSlice T n parts, type, pos, after, none⟩ [] (some (freshS B cs e n)) pre a next := by
  refine ⟨freshS_mono _ _ _ _, fun x => withGens_none ?_, by rw [hp]; exact hn⟩
  unfold tOp
  rw [if_pos (show Region.wanted _ _ = true from rfl), hrun]
  exact ⟨(Below.refl _ _).alloc (Nat.le_refl _) _, _, rfl, hB x, heap_alloc_new x.w _⟩


end

def setL (cur : Array Value) : Nat → List Value → Array Value
  | _, [] => cur
  | o, v :: r => setL (cur.setIfInBounds o v) (o + 1) r

theorem setCells_self {g : Nat} {t : TypeId} : ∀ (vs : List Value) (o : Nat) (w : World) (cur : Array Value), w.heap[g]? = some (.cells cur t (0, 0)) → (w.setCells g o vs).heap[g]? = some (.cells (setL cur o vs) t (0, 0))
  | [], _, _, _, h => h
  | v :: r, o, _, _, h => setCells_self r (o + 1) _ _ (block_set h o v)

theorem setCells_below {S g : Nat} (hg : S ≤ g) : ∀ (vs : List Value) (o : Nat) (w0 w : World), Below S w0 w → Below S w0 (w.setCells g o vs)
  | [], _, _, _, h => h
  | v :: r, o, w0, _, h => setCells_below hg r (o + 1) w0 _ (h.setCell hg v)

theorem setCells_other {g k : Nat} (hk : k ≠ g) : ∀ (vs : List Value) (o : Nat) (w : World), (w.setCells g o vs).heap[k]? = w.heap[k]?
  | [], _, _ => rfl
  | v :: r, o, w => by
    show ((w.setCell ⟨g, o, none⟩ v).setCells g (o + 1) r).heap[k]? = _
    rw [setCells_other hk r (o + 1), Below.heap_setCell _ _ _ _ hk]

theorem setL_size : ∀ (vs : List Value) (o : Nat) (cur : Array Value), (setL cur o vs).size = cur.size
  | [], _, _ => rfl
  | v :: r, o, cur => by rw [setL, setL_size r]; simp

theorem setL_take {m : Nat} : ∀ (vs : List Value) (o : Nat) (cur : Array Value), m ≤ o → (setL cur o vs).toList.take m = cur.toList.take m
  | [], _, _, _ => rfl
  | v :: r, o, cur, h => by
    rw [setL, setL_take r (o + 1) _ (by omega), Array.toList_setIfInBounds, List.take_set_of_le h]

theorem setL_same : ∀ (vs : List Value) (o : Nat) (cur : Array Value), (∀ i, i < vs.length → cur[o + i]? = vs[i]?) → setL cur o vs = cur
  | [], _, _, _ => rfl
  | v :: r, o, cur, h => by
    have h0 := h 0 (by simp)
    simp only [Nat.add_zero, List.getElem?_cons_zero] at h0
    have e : cur.setIfInBounds o v = cur := by
      obtain ⟨hlt, hv⟩ := Array.getElem?_eq_some_iff.1 h0
      apply Array.ext (by simp)
      intro i h1 h2
      rw [Array.getElem_setIfInBounds]
      split
      · rename_i he; subst he; exact hv.symm
      · rfl
    rw [setL, e]
    exact setL_same r (o + 1) cur fun i hi => by
      have := h (i + 1) (by simp; omega)
      rw [show o + 1 + i = o + (i + 1) by omega, this]
      rfl

section
variable {P : Program} {ops : Array Oper} {R : World → World → Prop} {w0 : World}

theorem late_buildR {T : TypeId} {n : Nat} {parts : Array (Nat × Operand)} {cs : Array Value} {e : TypeId} {dst : Option Tmp} {type : TypeId} {pos : String} {after : Array Edge} {pre : List (Tmp × Pred)} {a a' : Act} {next : List (Tmp × Pred) → Act → Prop} {B : Nat}
    (hrun : ∀ w : World, (execOp a.eval ⟨dst, .buildSlice T n parts, type, pos, after, none⟩).run P w = .ok (.value (.slice (some ⟨w.heap.size, 0, none⟩) n n)) (w.alloc (.cells cs e)))
    (hR : ∀ x : Beh R w0, R x.w (x.w.alloc (.cells cs e))) (hm : ∀ v w w', R w w' → freshS B cs e n v w → freshS B cs e n v w')
    (hB : ∀ x : Beh R w0, B ≤ x.w.heap.size) (hp : a.put dst undef = a') (hn : next (pre ++ [(dst.getD 0, freshS B cs e n)]) a') : LateAt P ops R w0 ⟨dst, .buildSlice T n parts, type, pos, after, none⟩ [] (some (freshS B cs e n)) pre a next := by
  refine ⟨hm, fun x => withGens_none ?_, by rw [hp]; exact hn⟩
  unfold tOp
  rw [if_pos (show Region.wanted _ _ = true from rfl), hrun]
  exact ⟨hR x, _, rfl, hB x, heap_alloc_new x.w _⟩

theorem late_allocR {T : TypeId} {cs : Array Value} {dst : Option Tmp} {type : TypeId} {pos : String} {after : Array Edge} {pre : List (Tmp × Pred)} {a a' : Act} {next : List (Tmp × Pred) → Act → Prop} {B : Nat}
    (hrun : ∀ (ρ : Operand → Value) (w : World), (execOp ρ ⟨dst, .alloc T, type, pos, after, none⟩).run P w = .ok (.value (.pointer (some ⟨w.heap.size, 0, none⟩))) (w.alloc (.cells cs T)))
    (hR : ∀ x : Beh R w0, R x.w (x.w.alloc (.cells cs T))) (hm : ∀ v w w', R w w' → fresh B cs T v w → fresh B cs T v w')
    (hB : ∀ x : Beh R w0, B ≤ x.w.heap.size) (hp : a.put dst undef = a') (hn : next (pre ++ [(dst.getD 0, fresh B cs T)]) a') : LateAt P ops R w0 ⟨dst, .alloc T, type, pos, after, none⟩ [] (some (fresh B cs T)) pre a next := by
  refine ⟨hm, fun x => withGens_none ?_, by rw [hp]; exact hn⟩
  unfold tOp
  rw [if_pos (show Region.wanted _ _ = true from rfl), hrun]
  exact ⟨hR x, _, rfl, hB x, heap_alloc_new x.w _⟩

theorem tOp_append {dst : Option Tmp} {args : Array Operand} {ats : Array TypeId} {type : TypeId} {pos : String} {after : Array Edge} {A : Act} {w : World} {φ : Pred} {vals : Array Value}
    (hv : args.toList.map A.eval = vals.toList) (h : ∃ v w', (Builtin.append_ ats type vals).run P w = .ok v w' ∧ R w w' ∧ φ v w') : tOp P ops R ⟨dst, .call ⟨.builtin .append, args, ats⟩, type, pos, after, none⟩ A w φ := by
  obtain ⟨v, w', hr, h1, h2⟩ := h
  unfold tOp
  rw [if_pos (show Region.wanted _ _ = true from rfl), run_append_op (v := v) (w' := w') (h := by rw [show args.map A.eval = vals from Array.toList_inj.1 (by rw [Array.toList_map]; exact hv)]; exact hr)]
  exact ⟨h1, h2⟩

theorem tOp_call {f : FuncId} {fn : Func} {dst : Option Tmp} {args : Array Operand} {ats : Array TypeId} {type : TypeId} {pos : String} {after : Array Edge} {A : Act} {w : World} {φ : Pred} {vals : Array Value}
    (hf : P.funcs[f]? = some fn) (hname : (fn.name == "runtime.NumGoroutine") = false) (hb : fn.body.isNone = false) (hv : args.toList.map A.eval = vals.toList)
    (hc : Calls P f vals w fun e w' => ∃ v, e = .returned v ∧ R w w' ∧ φ v w') : tOp P ops R ⟨dst, .call ⟨.value (.func f), args, ats⟩, type, pos, after, none⟩ A w φ := by
  unfold tOp
  rw [if_pos (show Region.wanted _ _ = true from rfl), run_call_fn hf hname hb, show args.map A.eval = vals from Array.toList_inj.1 (by rw [Array.toList_map]; exact hv)]
  exact hc

theorem late_app1 {dst : Option Tmp} {d1 : Tmp} {o2 : Operand} {ats : Array TypeId} {type : TypeId} {pos : String} {after : Array Edge} {a a' : Act} {next : List (Tmp × Pred) → Act → Prop} {φ1 φ : Pred} {c2 : Value}
    (hm : ∀ v w w', R w w' → φ v w → φ v w') (he : ∀ v, (#[.tmp d1, o2] : Array Operand).toList.map (a.put (some d1) v).eval = [v, c2])
    (hrun : ∀ (x : Beh R w0) v1, φ1 v1 x.w → ∃ v w', (Builtin.append_ ats type #[v1, c2]).run P x.w = .ok v w' ∧ R x.w w' ∧ φ v w')
    (hp : a.put dst undef = a') (hn : next [(d1, φ1), (dst.getD 0, φ)] a') : LateAt P ops R w0 ⟨dst, .call ⟨.builtin .append, #[.tmp d1, o2], ats⟩, type, pos, after, none⟩ [d1] (some φ) [(d1, φ1)] a next := by
  refine ⟨hm, fun x => ?_, by rw [hp]; exact hn⟩
  simp only [withGens, List.contains_cons, beq_self_eq_true, Bool.true_or, if_true]
  intro v1 hv1
  exact tOp_append (vals := #[v1, c2]) (he v1) (hrun x v1 hv1)

theorem late_app2 {dst : Option Tmp} {d0 d1 d2 : Tmp} {ats : Array TypeId} {type : TypeId} {pos : String} {after : Array Edge} {a a' : Act} {next : List (Tmp × Pred) → Act → Prop} {φ0 φ1 φ2 φ : Pred}
    (h0 : ([d1, d2] : List Tmp).contains d0 = false) (hm : ∀ v w w', R w w' → φ v w → φ v w') (he : ∀ v u, (#[.tmp d1, .tmp d2] : Array Operand).toList.map ((a.put (some d1) v).put (some d2) u).eval = [v, u])
    (hrun : ∀ (x : Beh R w0) v1 v2, φ1 v1 x.w → φ2 v2 x.w → ∃ v w', (Builtin.append_ ats type #[v1, v2]).run P x.w = .ok v w' ∧ R x.w w' ∧ φ v w')
    (hp : a.put dst undef = a') (hn : next [(d0, φ0), (d1, φ1), (d2, φ2), (dst.getD 0, φ)] a') : LateAt P ops R w0 ⟨dst, .call ⟨.builtin .append, #[.tmp d1, .tmp d2], ats⟩, type, pos, after, none⟩ [d1, d2] (some φ) [(d0, φ0), (d1, φ1), (d2, φ2)] a next := by
  refine ⟨hm, fun x => ?_, by rw [hp]; exact hn⟩
  have hc1 : ([d1, d2] : List Tmp).contains d1 = true := by simp
  have hc2 : ([d1, d2] : List Tmp).contains d2 = true := by simp
  simp only [withGens, h0, hc1, hc2, if_true, Bool.false_eq_true, if_false]
  intro v1 hv1 v2 hv2
  exact tOp_append (vals := #[v1, v2]) (he v1 v2) (hrun x v1 v2 hv1 hv2)

theorem late_callg {f : FuncId} {fn : Func} {dst : Option Tmp} {d0 d1 d2 d3 : Tmp} {args : List Operand} {ats : Array TypeId} {type : TypeId} {pos : String} {after : Array Edge} {a a' : Act} {next : List (Tmp × Pred) → Act → Prop} {φ0 φ1 φ2 φ3 : Pred} {rest : List Value} {c : Value}
    (hf : P.funcs[f]? = some fn) (hname : (fn.name == "runtime.NumGoroutine") = false) (hb : fn.body.isNone = false)
    (h0 : ([d3] : List Tmp).contains d0 = false) (h1 : ([d3] : List Tmp).contains d1 = false) (h2 : ([d3] : List Tmp).contains d2 = false)
    (he : ∀ v, args.map (a.put (some d3) v).eval = v :: rest)
    (hc : ∀ (x : Beh R w0) v, φ3 v x.w → Calls P f (v :: rest).toArray x.w fun e w' => e = .returned c ∧ R x.w w')
    (hp : a.put dst c = a') (hn : next [(d0, φ0), (d1, φ1), (d2, φ2), (d3, φ3)] a') : LateAt P ops R w0 ⟨dst, .call ⟨.value (.func f), args.toArray, ats⟩, type, pos, after, none⟩ [d3] none [(d0, φ0), (d1, φ1), (d2, φ2), (d3, φ3)] a next := by
  refine ⟨c, fun x => ?_, by rw [hp]; exact hn⟩
  have hc3 : ([d3] : List Tmp).contains d3 = true := by simp
  simp only [withGens, h0, h1, h2, hc3, if_true, Bool.false_eq_true, if_false]
  intro v hv
  exact tOp_call (vals := (v :: rest).toArray) hf hname hb (he v) ((hc x v hv).mono fun e w' ⟨h, hr⟩ => ⟨c, h, hr, rfl⟩)
end

section
variable {P : Program} {ops : Array Oper} {R : World → World → Prop} {Φ : Nat → Value → World → Prop} {w0 : World} {a0 : Act} {N : Nat}

/-- A loose operation: an extract or a move that is apart from whatever does not wait for it. -/
def looseM (ops : Array Oper) (N : Nat) (Lo : List Nat) : Bool :=
  Region.noSelect ops && Lo.all fun i => decide (i < N) && match ops[i]? with
    | some o => (match o.op with | .extract _ _ => o.guard.isNone | .move _ => o.guard.isNone | _ => false) && (List.range ops.size).all fun j => j == i || o.after.any (fun e => Region.binds .any e && e.on == j) || (match ops[j]? with
      | some oj => oj.after.any (fun e => Region.binds .any e && e.on == i) || o.apart ops oj
      | none => true)
    | none => false

theorem move_yields {P : Program} {ops : Array Oper} {R : World → World → Prop} {o : Oper} {x : Operand} {a : Act} {w : World} {φ : Value → World → Prop} (ho : o.op = .move x) (hg : o.guard = none) (h : tOp P ops R o a w φ) :
    ∃ v, Yields P ops o v a ∧ ∃ w', φ v w' := by
  have hw : Region.wanted o (yielded ops a.tmps) = true := by simp [Region.wanted, hg]
  unfold tOp at h
  rw [if_pos hw] at h
  have hrun : ∀ w, (execOp a.eval o).run P w = .ok (.value (a.eval x)) w := fun w => by
    obtain ⟨dst, op, type, pos, after, guard⟩ := o
    simp only at ho
    subst ho
    rfl
  rw [hrun] at h
  exact ⟨_, .inl ⟨hw, hrun⟩, w, h.2⟩

theorem wp_region_typedM {id : Nat} {Q : Exit → Act → World → Prop} {w : World} {l : List Oper} (N m : Nat) (Lo : List Nat) (Φs : List (Value → World → Prop)) (hm : P.follows .mixedOrders = true) (hB : Region.typB l.toArray N m Lo = true)
    (hLB : looseM l.toArray N Lo = true) (hQ : Lo ≠ [] → ∀ c (a : Act) (d : Tmp) v w, Q (.panic c) (a.put (some d) v) w → Q (.panic c) a w) (hdet : ∀ i, Lo.contains i = true → ∃ c, phi Φs i = det c) (hsize : a0.tmps.size = m)
    (hr : ∀ w, R w w) (htr : ∀ a b c, R a b → R b c → R a c) (hmono : ∀ i v w w', i < N → R w w' → phi Φs i v w → phi Φs i v w')
    (hsteps : ∀ i o, i < N → l[i]? = some o → ∀ a w', TPre l.toArray R (phi Φs) w.drew a0 N (depsOf N o) a w' → tOp P l.toArray R o a w' (phi Φs i))
    (hend : ∀ w', R w.drew w' → TEnd (phi Φs) (fun a w' => wpList P l.toArray Q (l.drop N) a w') w' (l.take N) 0 a0) : (Code.region id l.toArray true).wp P Q a0 w := by
  simp only [Region.typB, Bool.and_eq_true, Bool.or_eq_true, decide_eq_true_eq] at hB
  obtain ⟨⟨⟨⟨hsc, hN⟩, hback⟩, hdst⟩, hseq⟩ := hB
  have hN' : N ≤ l.length := by simpa using hN
  have inv0 : HeadInv .any l.toArray N (Array.replicate l.toArray.size false) :=
    ⟨by simp, fun j oj _ hl => (by rw [getD_replicate_false] at hl; cases hl), fun t _ ht => getD_in (by simpa using ht) (getD_replicate_false _ _)⟩
  refine wp_region_any hm ?_
  have hcnt : cntT N (Array.replicate l.toArray.size false) = N := by
    unfold cntT
    rw [List.filter_eq_self.2, List.length_range]
    intro i hi
    rw [List.mem_range] at hi
    rw [getD_in (by simp; omega) (getD_replicate_false _ _)]; rfl
  have hback' : ∀ (i : Nat) (o : Oper), l.toArray[i]? = some o → ∀ e ∈ o.after, Region.binds .any e = true → e.on < i := fun i o ho e he hb => by
    have hi : i < l.toArray.size := (Array.getElem?_eq_some_iff.1 ho).1
    have h1 := List.all_eq_true.1 hback i (List.mem_range.2 hi)
    simp only [ho] at h1
    have h2 := Array.all_eq_true_iff_forall_mem.1 h1 e he
    rw [hb] at h2
    simpa using h2
  simp only [looseM, Bool.and_eq_true, List.all_eq_true, decide_eq_true_eq] at hLB
  have := wpAny_typed (P := P) (ops := l.toArray) (R := R) (Φ := phi Φs) (w0 := w.drew) (a0 := a0) (N := N) (Q := Q) (Lo := Lo) hr htr hmono hsc hN hback'
    (fun i hiL => by
      have hiL' : i ∈ Lo := by simpa using hiL
      obtain ⟨h1, h2⟩ := hLB.2 i hiL'
      refine ⟨h1, Region.noSelect_spec hLB.1, hQ (fun e => by rw [e] at hiL'; cases hiL'), fun oi j oj hi hj hne hdep hno => ?_, fun o ho a w hp => ?_⟩
      · simp only [hi, Bool.and_eq_true, List.all_eq_true, Bool.or_eq_true, beq_iff_eq] at h2
        have h3 := h2.2 j (List.mem_range.2 (Array.getElem?_eq_some_iff.1 hj).1)
        rcases h3 with (h3 | h3) | h3
        · exact absurd h3 hne
        · obtain ⟨e, he, hb⟩ := Array.any_eq_true'.1 h3
          simp only [Bool.and_eq_true, beq_iff_eq] at hb
          exact absurd hb.2 (hdep e he hb.1)
        · simp only [hj, Bool.or_eq_true] at h3
          rcases h3 with h3 | h3
          · obtain ⟨e, he, hb⟩ := Array.any_eq_true'.1 h3
            simp only [Bool.and_eq_true, beq_iff_eq] at hb
            exact absurd hb.2 (hno e he hb.1)
          · exact h3
      · simp only [ho, Bool.and_eq_true] at h2
        obtain ⟨c, hc⟩ := hdet i hiL
        have ht := hsteps i o h1 (by simpa using ho) a w hp
        rw [hc] at ht ⊢
        cases hop : o.op with
        | extract x n =>
          rw [hop] at h2
          obtain ⟨v, hy, w', hv⟩ := extract_yields (R := R) hop (by simpa using h2.1) ht
          exact ⟨v, hy, hv⟩
        | move x =>
          rw [hop] at h2
          obtain ⟨v, hy, w', hv⟩ := move_yields (R := R) hop (by simpa using h2.1) ht
          exact ⟨v, hy, hv⟩
        | _ => rw [hop] at h2; simp at h2)
    (fun i hi => by
      have h1 := List.all_eq_true.1 hdst i (List.mem_range.2 hi)
      cases hd : (l.toArray[i]?).bind (·.dst) with
      | none => simp only [hd] at h1; cases h1
      | some d =>
        simp only [hd, Bool.and_eq_true, decide_eq_true_eq] at h1
        refine ⟨d, rfl, by rw [hsize]; exact h1.1, fun j hj hji => ?_⟩
        have h2 := List.all_eq_true.1 h1.2 j (List.mem_range.2 hj)
        simp only [Bool.or_eq_true, decide_eq_true_eq] at h2
        exact h2.resolve_left hji)
    hseq
    (fun i o hi ho a w' hp => hsteps i o hi (by simpa using ho) a w' hp)
    (by simpa using hend) N _ a0 w.drew hcnt inv0
    ⟨hr _, rfl, rfl, fun _ _ => rfl, fun j _ hj => by rw [getD_replicate_false] at hj; cases hj⟩
  rwa [show N + (l.toArray.size - N) = l.toArray.size by omega] at this

end

section
variable {P : Program} {ops : Array Oper} {R : World → World → Prop} {w0 : World} {a0 : Act} {N : Nat}
theorem wp_region_looseM {id : Nat} {Q : Exit → Act → World → Prop} {w : World} {l : List Oper} (N m : Nat) (Lo : List Nat) (plan : List (Nat × List Tmp × Option Pred)) (hm : P.follows .mixedOrders = true) (hB : Region.typB l.toArray N m Lo = true)
    (hB2 : Late.okB l.toArray N (planB plan) = true) (hLB : (looseM l.toArray N Lo && Lo.all fun i => !Late.genB (planB plan) i) = true) (hQ : Lo ≠ [] → ∀ c (a : Act) (d : Tmp) v w, Q (.panic c) (a.put (some d) v) w → Q (.panic c) a w) (hsize : a0.tmps.size = m) (hr : ∀ w, R w w) (htr : ∀ a b c, R a b → R b c → R a c)
    (h : Late P l.toArray R w.drew (fun pre a => ∀ x : Beh R w.drew, allGens (fun A w' => wpList P l.toArray Q (l.drop N) A w') pre a x.w) plan 0 (l.take N) [] a0) : (Code.region id l.toArray true).wp P Q a0 w := by
  have hB0 := hB
  simp only [Region.typB, Bool.and_eq_true, Bool.or_eq_true, decide_eq_true_eq] at hB
  obtain ⟨⟨⟨⟨_, hN⟩, hback⟩, hdst0⟩, _⟩ := hB
  have hN' : N ≤ l.length := by simpa using hN
  have hdst : ∀ i, i < N → ∃ d, dstOf l.toArray i = some d ∧ d < a0.tmps.size ∧ ∀ j, j < N → j ≠ i → dstOf l.toArray j ≠ some d := fun i hi => by
    have h1 := List.all_eq_true.1 hdst0 i (List.mem_range.2 hi)
    unfold dstOf
    cases hd : (l.toArray[i]?).bind (·.dst) with
    | none => simp only [hd] at h1; cases h1
    | some d =>
      simp only [hd, Bool.and_eq_true, decide_eq_true_eq] at h1
      refine ⟨d, rfl, by rw [hsize]; exact h1.1, fun j hj hji => ?_⟩
      have h2 := List.all_eq_true.1 h1.2 j (List.mem_range.2 hj)
      simp only [Bool.or_eq_true, decide_eq_true_eq] at h2
      exact h2.resolve_left hji
  have hB2' := hB2
  simp only [Late.okB, Bool.and_eq_true] at hB2'
  have hsel := Region.noSelect_spec hB2'.1.1
  have hlook : ∀ i o, i < N → l.toArray[i]? = some o → ∀ s ∈ o.looksAt l.toArray, (∀ j, j < N → dstOf l.toArray j ≠ some s) ∨ ∃ j ∈ depsOf N o, j < i ∧ dstOf l.toArray j = some s := fun i o hi ho s hs => by
    rcases (okAt_of_B hB2 i o hi ho).2 s hs with h1 | ⟨k, hk, hd⟩
    · exact .inl (outB_spec h1)
    · refine .inr ⟨k, hk, ?_, hd⟩
      simp only [depsOf, List.mem_map, List.mem_filter] at hk
      obtain ⟨e, ⟨he, hb⟩, rfl⟩ := hk
      have h1 := List.all_eq_true.1 hback i (List.mem_range.2 (by simp; omega))
      simp only [ho] at h1
      have h2 := Array.all_eq_true_iff_forall_mem.1 h1 e (by simpa using he)
      simp only [Bool.and_eq_true] at hb
      rw [hb.1] at h2
      simpa using h2
  have hl0 : ∀ j, j < (l.take N).length → (l.take N)[j]? = l.toArray[0 + j]? := fun j hj => by rw [List.length_take] at hj; rw [List.getElem?_take, if_pos (by omega)]; simp
  have hlen : (l.take N).length = N := by rw [List.length_take]; omega
  obtain ⟨ps, pre', a', hps, hJ, hF, hall⟩ := late_steps (gen := Late.genB (planB plan)) hsel hdst hlook hr htr plan 0 (l.take N) [] [] a0 (by omega) (sorted_of_B plan 0 hB2'.1.2) hl0 (fun j o _ hj ho => (okAt_of_B hB2 j o hj ho).1)
    ⟨rfl, rfl, rfl, fun _ _ => rfl, fun j hj => by omega, fun j _ hj => by omega, fun p hp => by simp at hp⟩ h
  simp only [List.nil_append] at hJ hall
  rw [Bool.and_eq_true] at hLB
  have hdetL : ∀ i, Lo.contains i = true → ∃ c, phi ps i = det c := fun i hi => by
    have hi' : i ∈ Lo := by simpa using hi
    have h1 := List.all_eq_true.1 hLB.2 i hi'
    have h2 : i < N := by
      have h3 := hLB.1
      simp only [looseM, Bool.and_eq_true, List.all_eq_true, decide_eq_true_eq] at h3
      exact (h3.2 i hi').1
    obtain ⟨c, hc, _⟩ := hJ.det i h2 (by simpa using h1)
    exact ⟨c, hc⟩
  refine wp_region_typedM N m Lo ps hm hB0 hLB.1 hQ hdetL hsize hr htr (fun i v w w' hi hR hp => (hall i (by omega) hi).1 v w w' hR hp) (fun i o hi ho a w' hp => ?_) (fun w' hw' => ?_)
  · refine (hall i (by omega) hi).2 o (by simpa using ho) a w' ⟨hp.world, hp.size, hp.outside, fun j hj => ?_⟩
    have hlt : j < i := by
      simp only [depsOf, List.mem_map, List.mem_filter] at hj
      obtain ⟨e, ⟨he, hb⟩, rfl⟩ := hj
      have h1 := List.all_eq_true.1 hback i (List.mem_range.2 (by simp; omega))
      simp only [List.getElem?_toArray, ho] at h1
      have h2 := Array.all_eq_true_iff_forall_mem.1 h1 e (by simpa using he)
      simp only [Bool.and_eq_true] at hb
      rw [hb.1] at h2
      simpa using h2
    have h1 := hp.done j hj
    have e : phi ps j = phi (ps.take i) j := by
      have := phi_append (ps.take i) (ps.drop i) j (by rw [List.length_take, hJ.len]; omega)
      rwa [List.take_append_drop] at this
    rwa [e] at h1
  · refine tEnd_intro hdst (fun F hF1 hF2 hF3 hF4 => ?_) (l.take N) 0 a0 hl0 (by omega) rfl rfl (fun _ _ => rfl) (fun j _ hj => by omega)
    have h1 := allGens_apply F w' pre' a' (fun p hp => by
      obtain ⟨j, hj, _, hd, e⟩ := hJ.pre p hp
      rw [e]; exact hF4 j _ hj hd) (hF ⟨w', hw'⟩)
    have ea : putG F pre' a' = F := by
      have h2 := putG_keep F pre' a'
      have h3 : (putG F pre' a').tmps = F.tmps := by
        apply Array.ext (by rw [h2.1, hJ.size, hF1])
        intro s h4 h5
        have h6 : (putG F pre' a').tmps.getD s undef = F.tmps.getD s undef := by
          by_cases hnot : (∃ p ∈ pre', p.1 = s) ∧ s < a'.tmps.size
          · rw [putG_at, if_pos hnot]
          · rw [putG_at, if_neg hnot]
            by_cases hh : ∃ j, j < N ∧ dstOf l.toArray j = some s
            · obtain ⟨j, hj, hd⟩ := hh
              cases hg : Late.genB (planB plan) j with
              | true => exact absurd ⟨⟨_, hJ.gens j s hj hg hd, rfl⟩, by rw [← h2.1]; exact h4⟩ hnot
              | false =>
                obtain ⟨c, h7, h8⟩ := hJ.det j hj hg
                have h9 := hF4 j s hj hd
                rw [h7] at h9
                rw [h8 s hd]
                exact h9.symm
            · have hout : ∀ j, j < N → dstOf l.toArray j ≠ some s := fun j hj hd => hh ⟨j, hj, hd⟩
              rw [hJ.out s hout, hF3 s hout]
        simpa [Array.getD, h4, h5] using h6
      have h4 := h2.2.trans (hJ.defers.trans hF2.symm)
      cases hx : putG F pre' a'
      cases F
      rw [hx] at h3 h4
      simp only at h3 h4
      rw [h3, h4]
    rw [ea] at h1
    exact h1

end
end Go.Proofs.YtpligjkbnlfhgaaGreatDoor
