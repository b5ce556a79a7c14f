/- Calls of a closure that keeps a mark, in drawn regions. No statement is proved here. -/
import Derived.Test.YtpligjkbnlfhgaaGreatDoorDf0
import Derived.Test.YtpligjkbnlfhgaaGreatDoorEr
import Derived.Test.YtpligjkbnlfhgaaGreatDoorIv
namespace Go.Proofs.YtpligjkbnlfhgaaGreatDoor
open Go.RowKit

/-- A known value, and what it says of the mark. -/
def knF (t : TypeId) (g : Nat) (c : Value) (ok : Bool) : Pred := fun v w => v = c ∧ (ok = false → Flag t g true w)
/-- Worlds that differ by new blocks and by the mark, which is never taken back; it stays where all is well. -/
structure RFl (t : TypeId) (g : Nat) (ok : Bool) (w w' : World) : Prop where
  grow : w.grownBy w' (some g)
  flag : ∀ b, Flag t g b w → ∃ b', Flag t g b' w' ∧ (b = true → b' = true) ∧ (ok = true → b' = b)
theorem RFl.refl {t : TypeId} {g : Nat} {ok : Bool} (w : World) : RFl t g ok w w := ⟨only_refl w _, fun b h => ⟨b, h, id, fun _ => rfl⟩⟩
theorem RFl.trans {t : TypeId} {g : Nat} {ok : Bool} (a b c : World) (h : RFl t g ok a b) (k : RFl t g ok b c) : RFl t g ok a c :=
  ⟨grown_trans h.grow k.grow, fun x hx => by
    obtain ⟨y, hy, h1, h2⟩ := h.flag x hx
    obtain ⟨z, hz, h3, h4⟩ := k.flag y hy
    exact ⟨z, hz, fun e => h3 (h1 e), fun e => (h4 e).trans (h2 e)⟩⟩
theorem RFl.of_le {t : TypeId} {g : Nat} {ok : Bool} {w w' : World} (h : Below w.heap.size w w') : RFl t g ok w w' := ⟨grown_below h g, fun b hb => ⟨b, hb.below h, id, fun _ => rfl⟩⟩
theorem RFl.of_try {t : TypeId} {g : Nat} {ok o : Bool} {w w' : World} (h : w.grownBy w' (some g)) (hf : ∀ b, Flag t g b w → Flag t g (b || !o) w') (ho : ok = true → o = true) : RFl t g ok w w' :=
  ⟨h, fun b hb => ⟨_, hf b hb, fun e => by rw [e]; rfl, fun e => by rw [ho e]; simp⟩⟩
theorem knF_mono (t : TypeId) (g : Nat) (c : Value) (ok o : Bool) : ∀ v w w', RFl t g ok w w' → knF t g c o v w → knF t g c o v w' := fun v w w' hR ⟨h1, h2⟩ =>
  ⟨h1, fun e => by
    obtain ⟨b', hb, h3, -⟩ := hR.flag true (h2 e)
    rw [← h3 rfl]; exact hb⟩
theorem fresh_fl {t T : TypeId} {g B : Nat} {ok : Bool} {cs : Array Value} (hg : g < B) : ∀ v w w', RFl t g ok w w' → fresh B cs T v w → fresh B cs T v w' := fun v w w' hR ⟨D, h1, h2, h3⟩ =>
  ⟨D, h1, h2, blk_grown hR.grow h3 (by omega)⟩
theorem Flag.uniq {t : TypeId} {g : Nat} {b c : Bool} {w : World} (h : Flag t g b w) (k : Flag t g c w) : b = c := by
  have e := h.symm.trans k
  simpa using e
/-- The mark behind a region. -/
theorem flag_out {t : TypeId} {g : Nat} {o b : Bool} {w w' : World} (R : RFl t g o w w') (h : Flag t g b w) (hbad : o = false → Flag t g true w') : Flag t g (b || !o) w' := by
  cases o with
  | false => simpa using hbad rfl
  | true =>
    obtain ⟨b', h1, -, h2⟩ := R.flag b h
    rw [h2 rfl] at h1
    simpa using h1

section
variable {P : Program} {ops : Array Oper} {R : World → World → Prop} {w0 : World}
theorem run_call_clo {f : FuncId} {fn : Func} {tf : Tmp} {cap : Array Value} (hf : P.funcs[f]? = some fn) (hname : (fn.name == "runtime.NumGoroutine") = false) (hb : fn.body.isNone = false) (a : Act) (he : a.eval (.tmp tf) = .func (.func f) #[] cap) (dst : Option Tmp) (args : Array Operand) (ats : Array TypeId) (type : TypeId) (pos : String) (after : Array Edge) (guard : Option (Nat × Bool)) (w : World) :
    (execOp a.eval ⟨dst, .call ⟨.value (.tmp tf), args, ats⟩, type, pos, after, guard⟩).run P w = .ok (.enter f (args.map a.eval ++ cap)) w := by
  have h1 : (callFunc f (args.map a.eval ++ cap)).run P w = .ok (.enter f (args.map a.eval ++ cap)) w := by
    unfold callFunc
    simp only [program, bind, Sem.bind, Sem.run, hf, hname, hb, Bool.false_eq_true, if_false]
    rfl
  simp [execOp, resolve, he, Deferred.ofValue, invoke, h1]
/-- A call of a closure with known arguments. -/
theorem late_clo {f : FuncId} {fn : Func} {tf : Tmp} {dst : Option Tmp} {args : Array Operand} {ats : Array TypeId} {type : TypeId} {pos : String} {after : Array Edge} {pre : List (Tmp × Pred)} {a a' : Act} {next : List (Tmp × Pred) → Act → Prop} {vals cap : Array Value} {φ : Pred}
    (hf : P.funcs[f]? = some fn) (hname : (fn.name == "runtime.NumGoroutine") = false) (hb : fn.body.isNone = false) (he : a.eval (.tmp tf) = .func (.func f) #[] cap) (hm : ∀ v w w', R w w' → φ v w → φ v w')
    (hc : ∀ x : Beh R w0, Calls P f (vals ++ cap) x.w fun e w' => ∃ v, e = .returned v ∧ φ v w' ∧ R x.w w')
    (hv : args.toList.map a.eval = vals.toList) (hp : a.put dst undef = a') (hn : next (pre ++ [(dst.getD 0, φ)]) a') : LateAt P ops R w0 ⟨dst, .call ⟨.value (.tmp tf), args, ats⟩, type, pos, after, none⟩ [] (some φ) pre a next := by
  refine ⟨hm, fun x => withGens_none ?_, by rw [hp]; exact hn⟩
  unfold tOp
  rw [if_pos (show Region.wanted _ _ = true from rfl), run_call_clo hf hname hb a he, show args.map a.eval = vals from Array.toList_inj.1 (by rw [Array.toList_map]; exact hv)]
  exact (hc x).mono fun e w' ⟨v, he, h, g⟩ => ⟨v, he, g, h⟩
/-- A call of which one argument came up behind a closure; its value is known. -/
theorem late_kn1 {f : FuncId} {fn : Func} {dst : Option Tmp} {d1 : Tmp} {args : Array Operand} {ats : Array TypeId} {type : TypeId} {pos : String} {after : Array Edge} {a a' : Act} {next : List (Tmp × Pred) → Act → Prop} {t : TypeId} {g : Nat} {c1 c : Value} {ok1 : Bool} {vals : Array Value} (pre0 : List (Tmp × Pred))
    (hf : P.funcs[f]? = some fn) (hname : (fn.name == "runtime.NumGoroutine") = false) (hb : fn.body.isNone = false) (hpre : pre0.all (fun p => !([d1] : List Tmp).contains p.1) = true)
    (hc : ∀ x : Beh R w0, Calls P f vals x.w fun e w' => e = .returned c ∧ R x.w w')
    (hv : args.toList.map (a.put (some d1) c1).eval = vals.toList) (hp : a.put dst c = a') (hn : next (pre0 ++ [(d1, knF t g c1 ok1)]) a') :
    LateAt P ops R w0 ⟨dst, .call ⟨.value (.func f), args, ats⟩, type, pos, after, none⟩ [d1] none (pre0 ++ [(d1, knF t g c1 ok1)]) a next := by
  refine ⟨c, fun x => withGens_pre pre0 a hpre ?_, by rw [hp]; exact hn⟩
  simp only [withGens, List.contains_cons, beq_self_eq_true, Bool.true_or, if_true]
  rintro v ⟨rfl, -⟩
  unfold tOp
  rw [if_pos (show Region.wanted _ _ = true from rfl), run_call_fn hf hname hb, show args.map (a.put (some d1) v).eval = vals from Array.toList_inj.1 (by rw [Array.toList_map]; exact hv)]
  exact (hc x).mono fun _ _ ⟨e, g⟩ => ⟨c, e, g, rfl⟩
/-- Two arguments came up behind closures. -/
theorem late_kn2 {f : FuncId} {fn : Func} {dst : Option Tmp} {d1 d2 : Tmp} {args : Array Operand} {ats : Array TypeId} {type : TypeId} {pos : String} {after : Array Edge} {a a' : Act} {next : List (Tmp × Pred) → Act → Prop} {t : TypeId} {g : Nat} {c1 c2 c : Value} {ok1 ok2 : Bool} {vals : Array Value} (mid : List (Tmp × Pred))
    (hf : P.funcs[f]? = some fn) (hname : (fn.name == "runtime.NumGoroutine") = false) (hb : fn.body.isNone = false) (hpre : mid.all (fun p => !([d1, d2] : List Tmp).contains p.1) = true)
    (hc : ∀ x : Beh R w0, Calls P f vals x.w fun e w' => e = .returned c ∧ R x.w w')
    (hv : args.toList.map ((a.put (some d1) c1).put (some d2) c2).eval = vals.toList) (hp : a.put dst c = a') (hn : next ((d1, knF t g c1 ok1) :: mid ++ [(d2, knF t g c2 ok2)]) a') :
    LateAt P ops R w0 ⟨dst, .call ⟨.value (.func f), args, ats⟩, type, pos, after, none⟩ [d1, d2] none ((d1, knF t g c1 ok1) :: mid ++ [(d2, knF t g c2 ok2)]) a next := by
  refine ⟨c, fun x => ?_, by rw [hp]; exact hn⟩
  simp only [List.cons_append, withGens, List.contains_cons, beq_self_eq_true, Bool.true_or, if_true]
  rintro v ⟨rfl, -⟩
  refine withGens_pre mid _ hpre ?_
  simp only [withGens, List.contains_cons, beq_self_eq_true, Bool.true_or, Bool.or_true, if_true]
  rintro u ⟨rfl, -⟩
  unfold tOp
  rw [if_pos (show Region.wanted _ _ = true from rfl), run_call_fn hf hname hb, show args.map ((a.put (some d1) v).put (some d2) u).eval = vals from Array.toList_inj.1 (by rw [Array.toList_map]; exact hv)]
  exact (hc x).mono fun _ _ ⟨e, g⟩ => ⟨c, e, g, rfl⟩
end

/-- An interval of which one knows whether it is there. -/
def trV (a b : Int) (ok : Bool) : Value := .tuple #[.agg #[.int .i64 a, .int .i64 b], .bool ok]
theorem resV_any (r : IR) : ∃ A B ok, resV r = .tuple #[.agg #[.int .i64 A, .int .i64 B], .bool ok] ∧ (ok = true → r = some (A, B)) ∧ (ok = false → r = none ∧ A = 0 ∧ B = 0) := by
  cases r with
  | none => exact ⟨0, 0, false, rfl, fun h => (by cases h), fun _ => ⟨rfl, rfl, rfl⟩⟩
  | some p => exact ⟨p.1, p.2, true, rfl, fun _ => rfl, fun h => by cases h⟩

set_option maxRecDepth 100000 in
set_option maxHeartbeats 4000000 in
theorem tri37 (g : Nat) (b ok : Bool) (A B : Int) (w : World) (h : Flag 4 g b w) :
    Calls Tryz.prog 37 #[.agg #[.int .i64 A, .int .i64 B], .bool ok, .pointer (some ⟨g, 0, none⟩)] w fun e w' => e = .returned (.agg #[.int .i64 A, .int .i64 B]) ∧ w.grownBy w' (some g) ∧ Flag 4 g (b || !ok) w' := by
  have hlt := h.lt
  have fg := free_of_block h
  have cg := cell1 h
  obtain ⟨c, hc⟩ : ∃ c, (b || !ok) = c := ⟨_, rfl⟩
  have hF := h.set c
  have hbW := (allocs2' (w.setCell ⟨g, 0, none⟩ (.bool c)) #[.int .i64 A, .int .i64 B] #[.int .i64 A, .int .i64 B] 36 36).1
  have hR := grown_trans (grown_set (g := g) (p := ⟨g, 0, none⟩) (only_refl w _) (.inl rfl) (.bool c)) (grown_below hbW g)
  have hFR := hF.below hbW
  rw [hc]
  clear h hbW hF
  cases b <;> cases ok <;> (simp at hc; subst hc)
  all_goals (
    go_enter Tryz.func37, Tryz.ntmps37
    go_wp2_with fail
    exact bodyPost_ret (v := .agg #[.int .i64 A, .int .i64 B]) (by simp [results, Tryz.results37, go_sem]) rfl ⟨rfl, hR, hFR⟩)
end Go.Proofs.YtpligjkbnlfhgaaGreatDoor
