/- Regions that draw their order: a load may be taken first as long as nobody who may come before it writes its cell; the condition on the world ends when an operation that waits for the load has come up. No statement is proved here. -/
import Derived.OrdersHeld
import Derived.Test.YtgonighpjpfmnaaLate4
import Derived.Lib.Hide
namespace Go.Proofs.Ytgonighpjpfmnaa
open Go.RowKit

section
variable {P : Program} {ops : Array Oper} {Q : Exit → Act → World → Prop} {md : Region.Mode} {S : Array Bool → World → Prop}

/-- Whatever order is picked from here on, and S holds behind every operation that is carried out. -/
def wpAnyT (P : Program) (md : Region.Mode) (ops : Array Oper) (Q : Exit → Act → World → Prop) (S : Array Bool → World → Prop) : Nat → Array Bool → Act → World → Prop
  | 0, listed, a, w => Region.ready md ops listed = [] ∧ Q .normal a w
  | fuel + 1, listed, a, w =>
    (Region.ready md ops listed = [] → Q .normal a w) ∧
    ∀ i ∈ Region.ready md ops listed, wpOp P ops Q i (fun a' w' => S (listed.setIfInBounds i true) w' ∧ wpAnyT P md ops Q S fuel (listed.setIfInBounds i true) a' w') a w

theorem wpAny_of_T : ∀ (fuel : Nat) (listed : Array Bool) (a : Act) (w : World), wpAnyT P md ops Q S fuel listed a w → wpAny P md ops Q fuel listed a w
  | 0, _, _, _, h => h
  | fuel + 1, _, _, _, h => ⟨h.1, fun i hi => wpOp_mono (fun a' w' h' => wpAny_of_T fuel _ a' w' h'.2) (h.2 i hi)⟩

theorem wpAnyT_first {i : Nat} {oi : Oper} {v : Value} {C : World → Prop} {D : Array Bool → Prop} (hi : ops[i]? = some oi) (hsel : ∀ (j : Nat) (o : Oper) cs b, ops[j]? = some o → o.op ≠ .select cs b)
    (hQ : ∀ c a w, Q (.panic c) (a.put oi.dst v) w → Q (.panic c) a w) (hSi : ∀ listed w, S (listed.setIfInBounds i true) w ↔ S listed w)
    (hD : ∀ (listed : Array Bool) (j : Nat) (oj : Oper), D listed → ops[j]? = some oj → (∀ e ∈ oj.after, Region.binds md e = true → e.on ≠ i) → D (listed.setIfInBounds j true))
    (hSC : ∀ listed w, D listed → S listed w → C w) :
    ∀ (fuel : Nat) (listed : Array Bool) (a : Act) (w : World),
      (∀ j oj, ops[j]? = some oj → j ≠ i → listed.getD j true = false → (∀ e ∈ oj.after, Region.binds md e = true → e.on ≠ i) → oi.apart ops oj = true) →
      i ∈ Region.ready md ops listed → YieldsIf P ops C oi v a → D listed → S listed w →
      wpAnyT P md ops Q S fuel (listed.setIfInBounds i true) (a.put oi.dst v) w → wpAnyT P md ops Q S (fuel + 1) listed a w := by
  intro fuel
  induction fuel with
  | zero =>
    intro listed a w _ hr hy hDl hS H
    refine ⟨fun h => (by rw [h] at hr; cases hr), fun j hj => ?_⟩
    by_cases hji : j = i
    · subst hji; exact hy.wpOp hi (hSC _ _ hDl hS) ⟨(hSi _ _).2 hS, H⟩
    · have := ready_mono hj hji
      rw [H.1] at this
      cases this
  | succ fuel ih =>
    intro listed a w hfree hr hy hDl hS H
    refine ⟨fun h => (by rw [h] at hr; cases hr), fun j hj => ?_⟩
    by_cases hji : j = i
    · subst hji; exact hy.wpOp hi (hSC _ _ hDl hS) ⟨(hSi _ _).2 hS, H⟩
    · have h1 := H.2 j (ready_mono hj hji)
      obtain ⟨hjun, oj, hoj, hall⟩ := mem_ready.1 hj
      have hnot : ∀ e ∈ oj.after, Region.binds md e = true → e.on ≠ i := fun e he hb heq => by
        have h1 := hall e he hb
        have h0 := (mem_ready.1 hr).1
        rw [heq] at h1
        rcases Nat.lt_or_ge i listed.size with h' | h'
        · simp [h'] at h0 h1; rw [h0] at h1; cases h1
        · simp [Array.getElem?_eq_none h'] at h1
      have h2 := wpOp_putIf hoj (hfree j oj hoj hji hjun hnot) (fun cs b => hsel i oi cs b hi) (fun cs b => hsel j oj cs b hoj) hQ hy h1
      have hfree' : ∀ k ok, ops[k]? = some ok → k ≠ i → (listed.setIfInBounds j true).getD k true = false →
          (∀ e ∈ ok.after, Region.binds md e = true → e.on ≠ i) → oi.apart ops ok = true := fun k ok hk hki hun hno => by
        refine hfree k ok hk hki ?_ hno
        by_cases hjk : j = k
        · subst hjk; exact hjun
        · rw [getD_set_ne true hjk] at hun; exact hun
      refine wpOp_mono (fun a' w' h3 => ?_) h2
      obtain ⟨hy', hS', h4⟩ := h3
      rw [Array.setIfInBounds_comm _ _ (Ne.symm hji)] at hS' h4
      have hS2 := (hSi _ _).1 hS'
      exact ⟨hS2, ih (listed.setIfInBounds j true) a' w' hfree' (ready_mono hr (Ne.symm hji)) hy' (hD _ _ _ hDl hoj hnot) hS2 h4⟩
end

section
variable {P : Program} {ops : Array Oper} {Q : Exit → Act → World → Prop} {md : Region.Mode} {L : List (Nat × (World → Prop))}

/-- Each condition holds until its operation has come up. -/
def held (L : List (Nat × (World → Prop))) (listed : Array Bool) (w : World) : Prop := ∀ p ∈ L, listed.getD p.1 true = false → p.2 w

theorem held_set {L : List (Nat × (World → Prop))} {i : Nat} (h : (L.map (·.1)).contains i = false) (listed : Array Bool) (w : World) : held L (listed.setIfInBounds i true) w ↔ held L listed w := by
  have hne : ∀ p ∈ L, i ≠ p.1 := fun p hp e => by
    have : (L.map (·.1)).contains i = true := by
      rw [List.contains_iff_mem]
      exact List.mem_map.2 ⟨p, hp, e.symm⟩
    rw [this] at h; cases h
  constructor
  · intro hh p hp hl
    exact hh p hp (by rw [getD_set_ne true (hne p hp)]; exact hl)
  · intro hh p hp hl
    rw [getD_set_ne true (hne p hp)] at hl
    exact hh p hp hl

/-- An operation that yields its value in whatever world, taken first. -/
theorem held_take {i : Nat} {oi : Oper} {v : Value} {fuel : Nat} {listed : Array Bool} {a a' : Act} {w : World} (hi : ops[i]? = some oi)
    (hs : Region.noSelect ops = true) (hf : Region.free md ops listed i = true) (hr : (Region.ready md ops listed).contains i = true) (hL : (L.map (·.1)).contains i = false)
    (hQ : ∀ c a w, Q (.panic c) (a.put oi.dst v) w → Q (.panic c) a w) (hS : held L listed w) (hy : YieldsIf P ops (fun _ => True) oi v a) (hp : a.put oi.dst v = a')
    (h : held L (listed.setIfInBounds i true) w → wpAnyT P md ops Q (held L) fuel (listed.setIfInBounds i true) a' w) : wpAnyT P md ops Q (held L) (fuel + 1) listed a w :=
  wpAnyT_first (D := fun _ => True) hi (Region.noSelect_spec hs) hQ (held_set hL) (fun _ _ _ _ _ _ => trivial) (fun _ _ _ _ => trivial) fuel listed a w (Region.free_spec hi hf) (by simpa using hr) hy trivial hS (by rw [hp]; exact h ((held_set hL _ _).2 hS))

/-- A load, taken first: C holds till m, which waits for it, comes up. -/
theorem held_load {i m : Nat} {C : World → Prop} {oi : Oper} {v : Value} {fuel : Nat} {listed : Array Bool} {a a' : Act} {w : World} (hi : ops[i]? = some oi)
    (hs : Region.noSelect ops = true) (hf : Region.free md ops listed i = true) (hr : (Region.ready md ops listed).contains i = true) (hL : (L.map (·.1)).contains i = false)
    (hm : Region.waitsFor md ops m i = true) (hun : listed.getD m true = false) (hmC : (m, C) ∈ L)
    (hQ : ∀ c a w, Q (.panic c) (a.put oi.dst v) w → Q (.panic c) a w) (hS : held L listed w) (hy : YieldsIf P ops C oi v a) (hp : a.put oi.dst v = a')
    (h : held L (listed.setIfInBounds i true) w → wpAnyT P md ops Q (held L) fuel (listed.setIfInBounds i true) a' w) : wpAnyT P md ops Q (held L) (fuel + 1) listed a w := by
  refine wpAnyT_first (D := fun listed => listed.getD m true = false) hi (Region.noSelect_spec hs) hQ (held_set hL) (fun listed j oj hd hj hno => ?_) (fun listed w hd hh => hh _ hmC hd) fuel listed a w (Region.free_spec hi hf) (by simpa using hr) hy hun hS (by rw [hp]; exact h ((held_set hL _ _).2 hS))
  obtain ⟨om, hom, e, he, hb, hon⟩ := Region.waitsFor_spec hm
  have hjm : j ≠ m := fun e2 => by
    subst e2
    have : oj = om := Option.some.inj (hj.symm.trans hom)
    subst this
    exact hno e he hb hon
  show (listed.setIfInBounds j true).getD m true = false
  rw [getD_set_ne true hjm]
  exact hd

/-- The one operation that may come up. -/
theorem held_one {i : Nat} {oi : Oper} {fuel : Nat} {listed : Array Bool} {a : Act} {w : World} (hi : ops[i]? = some oi) (hr : Region.ready md ops listed = [i])
    (h : wpOp P ops Q i (fun a' w' => held L (listed.setIfInBounds i true) w' ∧ wpAnyT P md ops Q (held L) fuel (listed.setIfInBounds i true) a' w') a w) : wpAnyT P md ops Q (held L) (fuel + 1) listed a w :=
  ⟨(fun h0 => by rw [hr] at h0; cases h0), fun j hj => by rw [hr, List.mem_singleton] at hj; subst hj; exact h⟩

theorem held_op {i : Nat} {oi : Oper} {fuel : Nat} {listed : Array Bool} {a a' : Act} {w w' : World} {v : Value} (hi : ops[i]? = some oi) (hr : Region.ready md ops listed = [i]) (hw : Region.wanted oi (yielded ops a.tmps) = true)
    (hrun : (execOp a.eval oi).run P w = .ok (.value v) w') (hS : held L (listed.setIfInBounds i true) w') (hp : a.put oi.dst v = a') (h : wpAnyT P md ops Q (held L) fuel (listed.setIfInBounds i true) a' w') : wpAnyT P md ops Q (held L) (fuel + 1) listed a w := by
  refine held_one hi hr ?_
  unfold wpOp
  simp only [hi]
  rw [if_pos hw]
  left
  unfold Oper.wp
  rw [hrun]
  exact ⟨hS, by rw [hp]; exact h⟩

theorem held_skip {i : Nat} {oi : Oper} {fuel : Nat} {listed : Array Bool} {a a' : Act} {w w' : World} (hi : ops[i]? = some oi) (hr : Region.ready md ops listed = [i]) (hw : Region.wanted oi (yielded ops a.tmps) = true)
    (hrun : (execOp a.eval oi).run P w = .ok .skip w') (hS : held L (listed.setIfInBounds i true) w') (hp : a.put oi.dst undef = a') (h : wpAnyT P md ops Q (held L) fuel (listed.setIfInBounds i true) a' w') : wpAnyT P md ops Q (held L) (fuel + 1) listed a w := by
  refine held_one hi hr ?_
  unfold wpOp
  simp only [hi]
  rw [if_pos hw]
  left
  unfold Oper.wp
  rw [hrun]
  exact ⟨hS, by rw [hp]; exact h⟩

theorem held_call {i : Nat} {f : FuncId} {fn : Func} {dst : Option Tmp} {args : Array Operand} {ats : Array TypeId} {type : TypeId} {pos : String} {after : Array Edge} {fuel : Nat} {listed : Array Bool} {a : Act} {w : World} {vals : Array Value}
    (hi : ops[i]? = some ⟨dst, .call ⟨.value (.func f), args, ats⟩, type, pos, after, none⟩) (hr : Region.ready md ops listed = [i])
    (hf : P.funcs[f]? = some fn) (hname : (fn.name == "runtime.NumGoroutine") = false) (hb : fn.body.isNone = false) (hv : args.toList.map a.eval = vals.toList)
    (hc : Calls P f vals w fun e w' => ∃ v, e = .returned v ∧ held L (listed.setIfInBounds i true) w' ∧ wpAnyT P md ops Q (held L) fuel (listed.setIfInBounds i true) (a.put dst v) w') : wpAnyT P md ops Q (held L) (fuel + 1) listed a w := by
  refine held_one hi hr ?_
  unfold wpOp
  simp only [hi]
  rw [if_pos (show Region.wanted _ _ = true from rfl)]
  left
  unfold Oper.wp
  rw [run_call_fn hf hname hb, show args.map a.eval = vals from Array.toList_inj.1 (by rw [Array.toList_map]; exact hv)]
  simp only [Oper.upon]
  exact hc.mono fun e w' ⟨v, he, h1, h2⟩ => by subst he; exact ⟨h1, h2⟩

theorem held_done {listed : Array Bool} {a : Act} {w : World} (hr : Region.ready md ops listed = []) (h : Q .normal a w) : ∀ fuel, wpAnyT P md ops Q (held L) fuel listed a w
  | 0 => ⟨hr, h⟩
  | _ + 1 => ⟨fun _ => h, by rw [hr]; simp⟩

theorem wp_region_heldT {id : Nat} {a : Act} {w : World} (L : List (Nat × (World → Prop))) (hm : P.follows .mixedOrders = true)
    (h : wpAnyT P .any ops Q (held L) ops.size (Array.replicate ops.size false) a w.drew) : (Code.region id ops true).wp P Q a w :=
  wp_region_any hm (wpAny_of_T _ _ _ _ h)
end

section
variable {P : Program} {ops : Array Oper} {Q : Exit → Act → World → Prop} {md : Region.Mode} {L : List (Nat × (World → Prop))}

/-- One that yields its value in every world, taken first. -/
theorem hT_on {i : Nat} {d : Option Tmp} {v : Value} {fuel : Nat} {listed : Array Bool} {a a' : Act} {w : World}
    (hs : Region.noSelect ops = true) (hf : Region.free md ops listed i = true) (hr : (Region.ready md ops listed).contains i = true) (hL : (L.map (·.1)).contains i = false)
    (hd : (ops[i]?.map fun o => (Region.wanted o (yielded ops a.tmps), o.dst)) = some (true, d)) (hQ : ∀ c a w, Q (.panic c) (a.put d v) w → Q (.panic c) a w) (hS : held L listed w)
    (hy : ∀ o, ops[i]? = some o → ∀ w, (execOp a.eval o).run P w = .ok (.value v) w) (hp : a.put d v = a')
    (h : held L (listed.setIfInBounds i true) w → wpAnyT P md ops Q (held L) fuel (listed.setIfInBounds i true) a' w) : wpAnyT P md ops Q (held L) (fuel + 1) listed a w := by
  cases ho : ops[i]? with
  | none => rw [ho] at hd; cases hd
  | some o =>
    rw [ho] at hd
    simp only [Option.map_some, Option.some.injEq, Prod.mk.injEq] at hd
    obtain ⟨h1, rfl⟩ := hd
    exact held_take ho hs hf hr hL hQ hS (Or.inl ⟨h1, fun w _ => hy o ho w⟩) hp h

/-- A load, taken first: its condition holds till m comes up. -/
theorem hT_ld {i m : Nat} {C : World → Prop} {d : Option Tmp} {v : Value} {fuel : Nat} {listed : Array Bool} {a a' : Act} {w : World}
    (hs : Region.noSelect ops = true) (hf : Region.free md ops listed i = true) (hr : (Region.ready md ops listed).contains i = true) (hL : (L.map (·.1)).contains i = false)
    (hm : Region.waitsFor md ops m i = true) (hun : listed.getD m true = false) (hmC : (m, C) ∈ L)
    (hd : (ops[i]?.map fun o => (Region.wanted o (yielded ops a.tmps), o.dst)) = some (true, d)) (hQ : ∀ c a w, Q (.panic c) (a.put d v) w → Q (.panic c) a w) (hS : held L listed w)
    (hy : ∀ o, ops[i]? = some o → ∀ w, C w → (execOp a.eval o).run P w = .ok (.value v) w) (hp : a.put d v = a')
    (h : held L (listed.setIfInBounds i true) w → wpAnyT P md ops Q (held L) fuel (listed.setIfInBounds i true) a' w) : wpAnyT P md ops Q (held L) (fuel + 1) listed a w := by
  cases ho : ops[i]? with
  | none => rw [ho] at hd; cases hd
  | some o =>
    rw [ho] at hd
    simp only [Option.map_some, Option.some.injEq, Prod.mk.injEq] at hd
    obtain ⟨h1, rfl⟩ := hd
    exact held_load ho hs hf hr hL hm hun hmC hQ hS (Or.inl ⟨h1, fun w hC => hy o ho w hC⟩) hp h

/-- One that is not wanted, taken first. -/
theorem hT_off {i : Nat} {d : Option Tmp} {fuel : Nat} {listed : Array Bool} {a a' : Act} {w : World}
    (hs : Region.noSelect ops = true) (hf : Region.free md ops listed i = true) (hr : (Region.ready md ops listed).contains i = true) (hL : (L.map (·.1)).contains i = false)
    (hd : (ops[i]?.map fun o => (Region.wanted o (yielded ops a.tmps), o.dst)) = some (false, d)) (hQ : ∀ c a w, Q (.panic c) (a.put d undef) w → Q (.panic c) a w) (hS : held L listed w) (hp : a.put d undef = a')
    (h : held L (listed.setIfInBounds i true) w → wpAnyT P md ops Q (held L) fuel (listed.setIfInBounds i true) a' w) : wpAnyT P md ops Q (held L) (fuel + 1) listed a w := by
  cases ho : ops[i]? with
  | none => rw [ho] at hd; cases hd
  | some o =>
    rw [ho] at hd
    simp only [Option.map_some, Option.some.injEq, Prod.mk.injEq] at hd
    obtain ⟨h1, rfl⟩ := hd
    exact held_take (v := undef) ho hs hf hr hL hQ hS (Or.inr ⟨h1, rfl⟩) hp h

/-- The one operation that may come up. -/
theorem hT_one {i : Nat} {fuel : Nat} {listed : Array Bool} {a : Act} {w : World} (hr : Region.ready md ops listed = [i])
    (h : ∀ o, ops[i]? = some o → ∀ K' : Act → World → Prop, Hid (∀ a w, held L (listed.setIfInBounds i true) w → (held L (listed.setIfInBounds i true) w → wpAnyT P md ops Q (held L) fuel (listed.setIfInBounds i true) a w) → K' a w) →
      if Region.wanted o (yielded ops a.tmps) = true then Oper.wp P o a w K' Q else K' (a.put o.dst undef) w) :
    wpAnyT P md ops Q (held L) (fuel + 1) listed a w := by
  have hi : i ∈ Region.ready md ops listed := by rw [hr]; exact List.mem_singleton.2 rfl
  obtain ⟨_, o, ho, _⟩ := mem_ready.1 hi
  refine held_one ho hr ?_
  have h1 := h o ho (fun a' w' => held L (listed.setIfInBounds i true) w' ∧ wpAnyT P md ops Q (held L) fuel (listed.setIfInBounds i true) a' w') (Lib.hid fun _ _ h1 h2 => ⟨h1, h2 h1⟩)
  unfold wpOp
  simp only [ho]
  split at h1
  · rename_i hw
    rw [if_pos hw]
    exact Or.inl h1
  · rename_i hw
    rw [if_neg hw]
    exact h1

/-- An append that is known to run. -/
theorem oper_app {a : Act} {w w' : World} {K : Act → World → Prop} {Z : Prop} {dst : Option Tmp} {args : Array Operand} {ats : Array TypeId} {type : TypeId} {pos : String} {after : Array Edge} {v : Value} (vals : Array Value)
    (hv : args.toList.map a.eval = vals.toList) (hrun : (Builtin.append_ ats type vals).run P w = .ok v w') (h : K (a.put dst v) w') (X : Bool) (hX : X = true) :
    if X = true then Oper.wp P ⟨dst, .call ⟨.builtin .append, args, ats⟩, type, pos, after, none⟩ a w K Q else Z := by
  rw [if_pos hX]
  unfold Oper.wp
  rw [run_append_op (v := v) (w' := w') (h := by rw [show args.map a.eval = vals from Array.toList_inj.1 (by rw [Array.toList_map]; exact hv)]; exact hrun)]
  exact h
end
end Go.Proofs.Ytgonighpjpfmnaa
