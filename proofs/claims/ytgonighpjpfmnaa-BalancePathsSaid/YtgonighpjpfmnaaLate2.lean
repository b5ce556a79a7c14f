/- Regions that draw their order: calls that make lists, calls that compare them. No statement is proved here. -/
import Derived.Test.YtgonighpjpfmnaaLate
import Derived.Test.YtgonighpjpfmnaaLists
namespace Go.Proofs.Ytgonighpjpfmnaa
open Go.RowKit
section
variable {P : Program} {ops : Array Oper} {R : World → World → Prop} {w0 : World}

/-- A list in memory that a call has made, whatever comes later. -/
def listAt {α : Type} (c : α → List Value) (size : Nat) (d : α) (L : List α) : Pred := fun v w => ∃ A cp, v = .slice A L.length cp ∧ L.length ≤ cp ∧ RowsAt w w.heap.size size A L.length (fun i => c (L.getD i d))
theorem listAt_mono {α : Type} (c : α → List Value) (size : Nat) (d : α) (L : List α) : ∀ v w w', LeW w w' → listAt c size d L v w → listAt c size d L v w' := fun _ _ _ h ⟨A, cp, hv, hc, hR⟩ => ⟨A, cp, hv, hc, (hR.below h (Nat.le_refl _)).more h.size⟩
theorem listAt_of_own {α : Type} {c : α → List Value} {e size : Nat} {w : World} {B : Nat} {v : Value} {L : List α} (hc : ∀ a, (c a).length = size) (d : α) (h : Own c e size w B v L) : listAt c size d L v w := by
  obtain ⟨A, cap, rfl, hcap⟩ := Own.shape h
  exact ⟨A, cap, rfl, hcap, Own.rows hc d h⟩

/-- A call in the midst of a region: what it hands back is known by a predicate. -/
theorem late_gen {f : FuncId} {fn : Func} {dst : Option Tmp} {args : Array Operand} {ats : Array TypeId} {type : TypeId} {pos : String} {after : Array Edge} {pre : List (Tmp × Pred)} {a a' : Act} {next : List (Tmp × Pred) → Act → Prop} {vals : Array Value} {φ : Pred}
    (hf : P.funcs[f]? = some fn) (hname : (fn.name == "runtime.NumGoroutine") = false) (hb : fn.body.isNone = false) (hm : ∀ v w w', R w w' → φ v w → φ v w') (hc : ∀ x : Beh R w0, Calls P f vals x.w fun e w' => ∃ v, e = .returned v ∧ R x.w w' ∧ φ v w')
    (hv : args.toList.map a.eval = vals.toList) (hp : a.put dst undef = a') (hn : next (pre ++ [(dst.getD 0, φ)]) a') : LateAt P ops R w0 ⟨dst, .call ⟨.value (.func f), args, ats⟩, type, pos, after, none⟩ [] (some φ) pre a next := by
  refine ⟨hm, fun x => withGens_none ?_, by rw [hp]; exact hn⟩
  unfold tOp
  rw [if_pos (show Region.wanted _ _ = true from rfl), run_call_fn hf hname hb, show args.map a.eval = vals from Array.toList_inj.1 (by rw [Array.toList_map]; exact hv)]
  exact hc x

/-- A call of two values that are known by predicates: what it hands back is known. -/
theorem late_call2 {f : FuncId} {fn : Func} {dst : Option Tmp} {d1 d2 : Tmp} {ats : Array TypeId} {type : TypeId} {pos : String} {after : Array Edge} {a a' : Act} {next : List (Tmp × Pred) → Act → Prop} {φ1 φ2 : Pred} {c : Value}
    (hf : P.funcs[f]? = some fn) (hname : (fn.name == "runtime.NumGoroutine") = false) (hb : fn.body.isNone = false) (hne : d1 ≠ d2) (h1 : d1 < a.tmps.size) (h2 : d2 < a.tmps.size)
    (hc : ∀ (x : Beh R w0) v1 v2, φ1 v1 x.w → φ2 v2 x.w → Calls P f #[v1, v2] x.w fun e w' => e = .returned c ∧ R x.w w')
    (hp : a.put dst c = a') (hn : next [(d1, φ1), (d2, φ2)] a') : LateAt P ops R w0 ⟨dst, .call ⟨.value (.func f), #[.tmp d1, .tmp d2], ats⟩, type, pos, after, none⟩ [d1, d2] none [(d1, φ1), (d2, φ2)] a next := by
  refine ⟨c, fun x => ?_, by rw [hp]; exact hn⟩
  simp only [withGens, List.contains_cons, beq_self_eq_true, Bool.true_or, if_true]
  intro v1 hv1
  rw [if_pos (by simp)]
  intro v2 hv2
  unfold tOp
  rw [if_pos (show Region.wanted _ _ = true from rfl), run_call_fn hf hname hb]
  have e1 : ((a.put (some d1) v1).put (some d2) v2).eval (.tmp d1) = v1 := by
    show ((a.put (some d1) v1).put (some d2) v2).tmps.getD d1 undef = v1
    rw [put_getD, if_neg (fun h => hne h.1.symm), put_getD, if_pos ⟨rfl, h1⟩]
  have e2 : ((a.put (some d1) v1).put (some d2) v2).eval (.tmp d2) = v2 := by
    show ((a.put (some d1) v1).put (some d2) v2).tmps.getD d2 undef = v2
    rw [put_getD, if_pos ⟨rfl, by rw [put_size]; exact h2⟩]
  have e3 : (#[.tmp d1, .tmp d2] : Array Operand).map ((a.put (some d1) v1).put (some d2) v2).eval = #[v1, v2] := by
    rw [← Array.toList_inj]
    simp [e1, e2]
  rw [e3]
  exact (hc x v1 v2 hv1 hv2).mono fun e w' ⟨he, h⟩ => ⟨c, he, h, rfl⟩

theorem run_append_op (a : Act) (dst : Option Tmp) (args : Array Operand) (ats : Array TypeId) (type : TypeId) (pos : String) (after : Array Edge) (guard : Option (Nat × Bool)) (w w' : World) (v : Value)
    (h : (Builtin.append_ ats type (args.map a.eval)).run P w = .ok v w') : (execOp a.eval ⟨dst, .call ⟨.builtin .append, args, ats⟩, type, pos, after, guard⟩).run P w = .ok (.value v) w' := by
  simp [execOp, resolve, invoke, builtin, h, pure]

/-- An append in the midst of a region. -/
theorem late_append {dst : Option Tmp} {args : Array Operand} {ats : Array TypeId} {type : TypeId} {pos : String} {after : Array Edge} {pre : List (Tmp × Pred)} {a a' : Act} {next : List (Tmp × Pred) → Act → Prop} {vals : Array Value} {φ : Pred}
    (hm : ∀ v w w', R w w' → φ v w → φ v w') (hrun : ∀ x : Beh R w0, ∃ v w', (Builtin.append_ ats type vals).run P x.w = .ok v w' ∧ R x.w w' ∧ φ v w')
    (hv : args.toList.map a.eval = vals.toList) (hp : a.put dst undef = a') (hn : next (pre ++ [(dst.getD 0, φ)]) a') : LateAt P ops R w0 ⟨dst, .call ⟨.builtin .append, args, ats⟩, type, pos, after, none⟩ [] (some φ) pre a next := by
  refine ⟨hm, fun x => withGens_none ?_, by rw [hp]; exact hn⟩
  obtain ⟨v, w', hr, h1, h2⟩ := hrun x
  unfold tOp
  rw [if_pos (show Region.wanted _ _ = true from rfl), run_append_op a dst args ats type pos after none x.w w' v (by rw [show args.map a.eval = vals from Array.toList_inj.1 (by rw [Array.toList_map]; exact hv)]; exact hr)]
  exact ⟨h1, h2⟩

theorem below_of_grownBy {w w' : World} (h : w.grownBy w' none) : Below w.heap.size w w' := ⟨h.os, h.tape, h.output, h.size, fun k hk => h.block k hk (by simp)⟩
end
end Go.Proofs.Ytgonighpjpfmnaa
