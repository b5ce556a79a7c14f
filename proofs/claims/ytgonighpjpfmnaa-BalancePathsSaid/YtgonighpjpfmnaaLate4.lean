/- Operations in the midst of a region, under any relation of worlds: appends and calls that take what came up in the region. No statement is proved here. -/
import Derived.Test.YtgonighpjpfmnaaKeep
namespace Go.Proofs.Ytgonighpjpfmnaa
open Go.RowKit
section
variable {P : Program} {ops : Array Oper} {R : World → World → Prop} {w0 : World}

theorem late_buildR {T : TypeId} {n : Nat} {parts : Array (Nat × Operand)} {cs : Array Value} {e : TypeId} {dst : Option Tmp} {type : TypeId} {pos : String} {after : Array Edge} {pre : List (Tmp × Pred)} {a a' : Act} {next : List (Tmp × Pred) → Act → Prop} {B : Nat}
    (hrun : ∀ w : World, (execOp a.eval ⟨dst, .buildSlice T n parts, type, pos, after, none⟩).run P w = .ok (.value (.slice (some ⟨w.heap.size, 0, none⟩) n n)) (w.alloc (.cells cs e)))
    (hR : ∀ x : Beh R w0, R x.w (x.w.alloc (.cells cs e))) (hm : ∀ v w w', R w w' → freshS B cs e n v w → freshS B cs e n v w')
    (hB : ∀ x : Beh R w0, B ≤ x.w.heap.size) (hp : a.put dst undef = a') (hn : next (pre ++ [(dst.getD 0, freshS B cs e n)]) a') : LateAt P ops R w0 ⟨dst, .buildSlice T n parts, type, pos, after, none⟩ [] (some (freshS B cs e n)) pre a next := by
  refine ⟨hm, fun x => withGens_none ?_, by rw [hp]; exact hn⟩
  unfold tOp
  rw [if_pos (show Region.wanted _ _ = true from rfl), hrun]
  exact ⟨hR x, _, rfl, hB x, heap_alloc_new x.w _⟩

theorem late_allocR {T : TypeId} {cs : Array Value} {dst : Option Tmp} {type : TypeId} {pos : String} {after : Array Edge} {pre : List (Tmp × Pred)} {a a' : Act} {next : List (Tmp × Pred) → Act → Prop} {B : Nat}
    (hrun : ∀ (ρ : Operand → Value) (w : World), (execOp ρ ⟨dst, .alloc T, type, pos, after, none⟩).run P w = .ok (.value (.pointer (some ⟨w.heap.size, 0, none⟩))) (w.alloc (.cells cs T)))
    (hR : ∀ x : Beh R w0, R x.w (x.w.alloc (.cells cs T))) (hm : ∀ v w w', R w w' → fresh B cs T v w → fresh B cs T v w')
    (hB : ∀ x : Beh R w0, B ≤ x.w.heap.size) (hp : a.put dst undef = a') (hn : next (pre ++ [(dst.getD 0, fresh B cs T)]) a') : LateAt P ops R w0 ⟨dst, .alloc T, type, pos, after, none⟩ [] (some (fresh B cs T)) pre a next := by
  refine ⟨hm, fun x => withGens_none ?_, by rw [hp]; exact hn⟩
  unfold tOp
  rw [if_pos (show Region.wanted _ _ = true from rfl), hrun]
  exact ⟨hR x, _, rfl, hB x, heap_alloc_new x.w _⟩

theorem tOp_append {dst : Option Tmp} {args : Array Operand} {ats : Array TypeId} {type : TypeId} {pos : String} {after : Array Edge} {A : Act} {w : World} {φ : Pred} {vals : Array Value}
    (hv : args.toList.map A.eval = vals.toList) (h : ∃ v w', (Builtin.append_ ats type vals).run P w = .ok v w' ∧ R w w' ∧ φ v w') : tOp P ops R ⟨dst, .call ⟨.builtin .append, args, ats⟩, type, pos, after, none⟩ A w φ := by
  obtain ⟨v, w', hr, h1, h2⟩ := h
  unfold tOp
  rw [if_pos (show Region.wanted _ _ = true from rfl), run_append_op (v := v) (w' := w') (h := by rw [show args.map A.eval = vals from Array.toList_inj.1 (by rw [Array.toList_map]; exact hv)]; exact hr)]
  exact ⟨h1, h2⟩

theorem tOp_call {f : FuncId} {fn : Func} {dst : Option Tmp} {args : Array Operand} {ats : Array TypeId} {type : TypeId} {pos : String} {after : Array Edge} {A : Act} {w : World} {φ : Pred} {vals : Array Value}
    (hf : P.funcs[f]? = some fn) (hname : (fn.name == "runtime.NumGoroutine") = false) (hb : fn.body.isNone = false) (hv : args.toList.map A.eval = vals.toList)
    (hc : Calls P f vals w fun e w' => ∃ v, e = .returned v ∧ R w w' ∧ φ v w') : tOp P ops R ⟨dst, .call ⟨.value (.func f), args, ats⟩, type, pos, after, none⟩ A w φ := by
  unfold tOp
  rw [if_pos (show Region.wanted _ _ = true from rfl), run_call_fn hf hname hb, show args.map A.eval = vals from Array.toList_inj.1 (by rw [Array.toList_map]; exact hv)]
  exact hc

theorem late_app1 {dst : Option Tmp} {d1 : Tmp} {o2 : Operand} {ats : Array TypeId} {type : TypeId} {pos : String} {after : Array Edge} {a a' : Act} {next : List (Tmp × Pred) → Act → Prop} {φ1 φ : Pred} {c2 : Value}
    (hm : ∀ v w w', R w w' → φ v w → φ v w') (he : ∀ v, (#[.tmp d1, o2] : Array Operand).toList.map (a.put (some d1) v).eval = [v, c2])
    (hrun : ∀ (x : Beh R w0) v1, φ1 v1 x.w → ∃ v w', (Builtin.append_ ats type #[v1, c2]).run P x.w = .ok v w' ∧ R x.w w' ∧ φ v w')
    (hp : a.put dst undef = a') (hn : next [(d1, φ1), (dst.getD 0, φ)] a') : LateAt P ops R w0 ⟨dst, .call ⟨.builtin .append, #[.tmp d1, o2], ats⟩, type, pos, after, none⟩ [d1] (some φ) [(d1, φ1)] a next := by
  refine ⟨hm, fun x => ?_, by rw [hp]; exact hn⟩
  simp only [withGens, List.contains_cons, beq_self_eq_true, Bool.true_or, if_true]
  intro v1 hv1
  exact tOp_append (vals := #[v1, c2]) (he v1) (hrun x v1 hv1)

theorem late_app2 {dst : Option Tmp} {d0 d1 d2 : Tmp} {ats : Array TypeId} {type : TypeId} {pos : String} {after : Array Edge} {a a' : Act} {next : List (Tmp × Pred) → Act → Prop} {φ0 φ1 φ2 φ : Pred}
    (h0 : ([d1, d2] : List Tmp).contains d0 = false) (hm : ∀ v w w', R w w' → φ v w → φ v w') (he : ∀ v u, (#[.tmp d1, .tmp d2] : Array Operand).toList.map ((a.put (some d1) v).put (some d2) u).eval = [v, u])
    (hrun : ∀ (x : Beh R w0) v1 v2, φ1 v1 x.w → φ2 v2 x.w → ∃ v w', (Builtin.append_ ats type #[v1, v2]).run P x.w = .ok v w' ∧ R x.w w' ∧ φ v w')
    (hp : a.put dst undef = a') (hn : next [(d0, φ0), (d1, φ1), (d2, φ2), (dst.getD 0, φ)] a') : LateAt P ops R w0 ⟨dst, .call ⟨.builtin .append, #[.tmp d1, .tmp d2], ats⟩, type, pos, after, none⟩ [d1, d2] (some φ) [(d0, φ0), (d1, φ1), (d2, φ2)] a next := by
  refine ⟨hm, fun x => ?_, by rw [hp]; exact hn⟩
  have hc1 : ([d1, d2] : List Tmp).contains d1 = true := by simp
  have hc2 : ([d1, d2] : List Tmp).contains d2 = true := by simp
  simp only [withGens, h0, hc1, hc2, if_true, Bool.false_eq_true, if_false]
  intro v1 hv1 v2 hv2
  exact tOp_append (vals := #[v1, v2]) (he v1 v2) (hrun x v1 v2 hv1 hv2)

theorem late_callg {f : FuncId} {fn : Func} {dst : Option Tmp} {d0 d1 d2 d3 : Tmp} {args : List Operand} {ats : Array TypeId} {type : TypeId} {pos : String} {after : Array Edge} {a a' : Act} {next : List (Tmp × Pred) → Act → Prop} {φ0 φ1 φ2 φ3 : Pred} {rest : List Value} {c : Value}
    (hf : P.funcs[f]? = some fn) (hname : (fn.name == "runtime.NumGoroutine") = false) (hb : fn.body.isNone = false)
    (h0 : ([d3] : List Tmp).contains d0 = false) (h1 : ([d3] : List Tmp).contains d1 = false) (h2 : ([d3] : List Tmp).contains d2 = false)
    (he : ∀ v, args.map (a.put (some d3) v).eval = v :: rest)
    (hc : ∀ (x : Beh R w0) v, φ3 v x.w → Calls P f (v :: rest).toArray x.w fun e w' => e = .returned c ∧ R x.w w')
    (hp : a.put dst c = a') (hn : next [(d0, φ0), (d1, φ1), (d2, φ2), (d3, φ3)] a') : LateAt P ops R w0 ⟨dst, .call ⟨.value (.func f), args.toArray, ats⟩, type, pos, after, none⟩ [d3] none [(d0, φ0), (d1, φ1), (d2, φ2), (d3, φ3)] a next := by
  refine ⟨c, fun x => ?_, by rw [hp]; exact hn⟩
  have hc3 : ([d3] : List Tmp).contains d3 = true := by simp
  simp only [withGens, h0, h1, h2, hc3, if_true, Bool.false_eq_true, if_false]
  intro v hv
  exact tOp_call (vals := (v :: rest).toArray) hf hname hb (he v) ((hc x v hv).mono fun e w' ⟨h, hr⟩ => ⟨c, h, hr, rfl⟩)
end
end Go.Proofs.Ytgonighpjpfmnaa
