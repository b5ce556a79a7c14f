/- Fractions of the reference in blocks of their own, and calls with generated fractions in drawn regions. No statement is proved here. -/
import Derived.Test.YtpligjkbnlfhgaaGreatDoorRf
import Derived.Test.YtpligjkbnlfhgaaGreatDoorLate2
namespace Go.Proofs.YtpligjkbnlfhgaaGreatDoor
open Go.RowKit

/-! ### A fraction in a block -/
def FB (w : World) (b : Nat) (x : Rat) : Prop := ∃ s A1 n1 c1 A2 n2 c2, w.heap[b]? = some (.cells #[.bool s, .slice A1 n1 c1, .slice A2 n2 c2] 57 (0, 0)) ∧ FrR w (.agg #[.bool s, .slice A1 n1 c1, .slice A2 n2 c2]) x
theorem FB.below {w w' : World} {b : Nat} {x : Rat} (h : FB w b x) (hb : Below w.heap.size w w') : FB w' b x := by
  obtain ⟨s, A1, n1, c1, A2, n2, c2, h1, h2⟩ := h
  exact ⟨s, A1, n1, c1, A2, n2, c2, blk_below hb h1, h2.below hb⟩
theorem FB.lt {w : World} {b : Nat} {x : Rat} (h : FB w b x) : b < w.heap.size := by
  obtain ⟨s, A1, n1, c1, A2, n2, c2, h1, h2⟩ := h
  exact lt_of_blk h1
theorem FrR.sh {w : World} {f : Value} {x : Rat} (h : FrR w f x) : ∃ s A1 n1 c1 A2 n2 c2, f = .agg #[.bool s, .slice A1 n1 c1, .slice A2 n2 c2] ∧ FrR w (.agg #[.bool s, .slice A1 n1 c1, .slice A2 n2 c2]) x := by
  obtain ⟨A1, n1, c1, A2, n2, c2, rfl, -, -, -⟩ := h.shape
  exact ⟨_, A1, n1, c1, A2, n2, c2, rfl, h⟩
section
variable {w wr wx : World} {S D : Nat} {s b0 : Bool} {A1 A2 A3 A4 : Option Addr} {n1 c1 n2 c2 n3 c3 n4 c4 : Nat} {x y : Rat} {t : TypeId}
theorem FrR.put {f : Value} (h : FrR w f x) (hS : w.heap[S]? = some (.cells #[.bool b0, .slice A3 n3 c3, .slice A4 n4 c4] t (0, 0))) (u0 u1 u2 : Value) :
    FrR (((w.setCell ⟨S, 0, none⟩ u0).setCell ⟨S, 1, none⟩ u1).setCell ⟨S, 2, none⟩ u2) f x := by
  obtain ⟨t0, t1, t2⟩ := sets3 hS u0 u1 u2
  exact h.but hS no_dig3 (Nat.le_of_eq t2.symm) (fun k _ hk => t1 k hk)
theorem FB.put {b : Nat} (h : FB w b x) (hS : w.heap[S]? = some (.cells #[.bool b0, .slice A3 n3 c3, .slice A4 n4 c4] t (0, 0))) (hne : b ≠ S) (u0 u1 u2 : Value) :
    FB (((w.setCell ⟨S, 0, none⟩ u0).setCell ⟨S, 1, none⟩ u1).setCell ⟨S, 2, none⟩ u2) b x := by
  obtain ⟨s, A1, n1, c1, A2, n2, c2, h1, h2⟩ := h
  obtain ⟨t0, t1, t2⟩ := sets3 hS u0 u1 u2
  exact ⟨s, A1, n1, c1, A2, n2, c2, (t1 b hne).trans h1, h2.put hS u0 u1 u2⟩
theorem FB.make (hS : w.heap[S]? = some (.cells #[.bool b0, .slice A3 n3 c3, .slice A4 n4 c4] 57 (0, 0))) (h : FrR w (.agg #[.bool s, .slice A1 n1 c1, .slice A2 n2 c2]) x) :
    FB (((w.setCell ⟨S, 0, none⟩ (.bool s)).setCell ⟨S, 1, none⟩ (.slice A1 n1 c1)).setCell ⟨S, 2, none⟩ (.slice A2 n2 c2)) S x :=
  ⟨s, A1, n1, c1, A2, n2, c2, (sets3 hS _ _ _).1, h.put hS _ _ _⟩

/-- What a function of the reference holds: fractions in blocks of its own (L), and other blocks (O). -/
structure FI (w wr : World) (L : List (Nat × Rat)) (O : List (Nat × Obj)) : Prop where
  below : Below w.heap.size w wr
  fr : ∀ p ∈ L, w.heap.size ≤ p.1 ∧ FB wr p.1 p.2
  ob : ∀ p ∈ O, w.heap.size ≤ p.1 ∧ wr.heap[p.1]? = some p.2
  dis : (L.map (·.1) ++ O.map (·.1)).Nodup
variable {L L1 L2 : List (Nat × Rat)} {O O1 O2 : List (Nat × Obj)}
theorem FI.go (h : FI w wr L O) (hb : Below wr.heap.size wr wx) : FI w wx L O :=
  ⟨below_trans' h.below h.below.size hb, fun p hp => ⟨(h.fr p hp).1, (h.fr p hp).2.below hb⟩, fun p hp => ⟨(h.ob p hp).1, blk_below hb (h.ob p hp).2⟩, h.dis⟩
theorem FI.lt (h : FI w wr L O) : ∀ b ∈ L.map (·.1) ++ O.map (·.1), b < wr.heap.size := fun b hb => by
  rcases List.mem_append.1 hb with hb | hb
  · obtain ⟨p, hp, rfl⟩ := List.mem_map.1 hb
    exact (h.fr p hp).2.lt
  · obtain ⟨p, hp, rfl⟩ := List.mem_map.1 hb
    exact lt_of_blk (h.ob p hp).2
/-- A new block. -/
theorem FI.fresh {o : Obj} (h : FI w wr L O) (hb : Below wr.heap.size wr wx) (hD : wr.heap.size ≤ D) (gD : wx.heap[D]? = some o) : FI w wx L ((D, o) :: O) := by
  have h' := h.go hb
  refine ⟨h'.below, h'.fr, fun p hp => ?_, ?_⟩
  · rcases List.mem_cons.1 hp with rfl | hp
    · exact ⟨Nat.le_trans h.below.size hD, gD⟩
    · exact h'.ob p hp
  · rw [List.map_cons]
    refine (List.perm_middle.nodup_iff).2 (List.nodup_cons.2 ⟨fun hm => ?_, h.dis⟩)
    have := h.lt D hm
    omega
theorem FI.alloc {cs : Array Value} (h : FI w wr L O) : FI w (wr.alloc (.cells cs t)) L ((wr.heap.size, .cells cs t (0, 0)) :: O) :=
  h.fresh ((Below.refl _ _).alloc (Nat.le_refl _) _) (Nat.le_refl _) (heap_alloc_new wr _)
/-- A new block becomes a fraction without a store: it was made with one. -/
theorem FI.take (h : FI w wr L ((D, .cells #[.bool s, .slice A1 n1 c1, .slice A2 n2 c2] 57 (0, 0)) :: O)) (hf : FrR wr (.agg #[.bool s, .slice A1 n1 c1, .slice A2 n2 c2]) x) : FI w wr (L ++ [(D, x)]) O := by
  refine ⟨h.below, fun p hp => ?_, fun p hp => h.ob p (List.mem_cons_of_mem _ hp), ?_⟩
  · rcases List.mem_append.1 hp with hp | hp
    · exact h.fr p hp
    · obtain rfl := List.mem_singleton.1 hp
      have := h.ob (D, _) (List.mem_cons_self ..)
      exact ⟨this.1, s, A1, n1, c1, A2, n2, c2, this.2, hf⟩
  · have := h.dis
    rw [List.map_append, List.append_assoc]
    exact this
/-- A store into a block that was new. -/
theorem FI.fill (h : FI w wr L ((S, .cells #[.bool b0, .slice A3 n3 c3, .slice A4 n4 c4] 57 (0, 0)) :: O)) (hf : FrR wr (.agg #[.bool s, .slice A1 n1 c1, .slice A2 n2 c2]) x) :
    FI w (((wr.setCell ⟨S, 0, none⟩ (.bool s)).setCell ⟨S, 1, none⟩ (.slice A1 n1 c1)).setCell ⟨S, 2, none⟩ (.slice A2 n2 c2)) (L ++ [(S, x)]) O := by
  have hS := h.ob _ (List.mem_cons_self ..)
  have hd := h.dis
  rw [List.map_cons] at hd
  have hd' := (List.nodup_cons.1 ((List.perm_middle.nodup_iff).1 hd))
  refine ⟨below_set3 h.below hS.1 _ _ _, fun p hp => ?_, fun p hp => ?_, ?_⟩
  · rcases List.mem_append.1 hp with hp | hp
    · have hne : p.1 ≠ S := fun e => hd'.1 (by rw [← e]; exact List.mem_append_left _ (List.mem_map.2 ⟨p, hp, rfl⟩))
      exact ⟨(h.fr p hp).1, (h.fr p hp).2.put hS.2 hne _ _ _⟩
    · obtain rfl := List.mem_singleton.1 hp
      exact ⟨hS.1, FB.make hS.2 hf⟩
  · have hne : p.1 ≠ S := fun e => hd'.1 (by rw [← e]; exact List.mem_append_right _ (List.mem_map.2 ⟨p, hp, rfl⟩))
    exact ⟨(h.ob p (List.mem_cons_of_mem _ hp)).1, ((sets3 hS.2 _ _ _).2.1 p.1 hne).trans (h.ob p (List.mem_cons_of_mem _ hp)).2⟩
  · rw [List.map_append, List.append_assoc]
    exact h.dis
/-- A store into a fraction's block. -/
theorem FI.set (h : FI w wr (L1 ++ (S, y) :: L2) O) (hf : FrR wr (.agg #[.bool s, .slice A1 n1 c1, .slice A2 n2 c2]) x) :
    FI w (((wr.setCell ⟨S, 0, none⟩ (.bool s)).setCell ⟨S, 1, none⟩ (.slice A1 n1 c1)).setCell ⟨S, 2, none⟩ (.slice A2 n2 c2)) (L1 ++ (S, x) :: L2) O := by
  obtain ⟨hS1, b0, A3, n3, c3, A4, n4, c4, hS2, -⟩ := h.fr (S, y) (List.mem_append_right _ (List.mem_cons_self ..))
  have hd := h.dis
  rw [List.map_append, List.map_cons, List.append_assoc, List.cons_append] at hd
  have hd' := (List.nodup_cons.1 ((List.perm_middle.nodup_iff).1 hd))
  refine ⟨below_set3 h.below hS1 _ _ _, fun p hp => ?_, fun p hp => ?_, ?_⟩
  · have old : p ∈ L1 ∨ p ∈ L2 → w.heap.size ≤ p.1 ∧ FB (((wr.setCell ⟨S, 0, none⟩ (.bool s)).setCell ⟨S, 1, none⟩ (.slice A1 n1 c1)).setCell ⟨S, 2, none⟩ (.slice A2 n2 c2)) p.1 p.2 := fun hp => by
      have hm : p ∈ L1 ++ (S, y) :: L2 := by rcases hp with hp | hp <;> simp [hp]
      have hne : p.1 ≠ S := fun e => hd'.1 (by
        rw [← e]
        rcases hp with hp | hp
        · exact List.mem_append_left _ (List.mem_map.2 ⟨p, hp, rfl⟩)
        · exact List.mem_append_right _ (List.mem_append_left _ (List.mem_map.2 ⟨p, hp, rfl⟩)))
      exact ⟨(h.fr p hm).1, (h.fr p hm).2.put hS2 hne _ _ _⟩
    rcases List.mem_append.1 hp with hp | hp
    · exact old (.inl hp)
    · rcases List.mem_cons.1 hp with rfl | hp
      · exact ⟨hS1, FB.make hS2 hf⟩
      · exact old (.inr hp)
  · have hne : p.1 ≠ S := fun e => hd'.1 (by rw [← e]; exact List.mem_append_right _ (List.mem_append_right _ (List.mem_map.2 ⟨p, hp, rfl⟩)))
    exact ⟨(h.ob p hp).1, ((sets3 hS2 _ _ _).2.1 p.1 hne).trans (h.ob p hp).2⟩
  · rw [List.map_append, List.map_cons, List.append_assoc, List.cons_append]
    exact hd
/-- Fewer blocks. -/
theorem FI.drop (h : FI w wr L O) (hL : L1.Sublist L) (hO : O1.Sublist O) : FI w wr L1 O1 :=
  ⟨h.below, fun p hp => h.fr p (hL.subset hp), fun p hp => h.ob p (hO.subset hp), List.Nodup.sublist (List.Sublist.append (hL.map _) (hO.map _)) h.dis⟩
theorem FI.at (h : FI w wr L O) (b : Nat) (x : Rat) (hm : (b, x) ∈ L) : FB wr b x := (h.fr _ hm).2
end

/-! ### Calls in drawn regions -/
def frG (x : Rat) : Pred := fun v w => FrR w v x
theorem frG_mono (x : Rat) : ∀ v w w', LeW w w' → frG x v w → frG x v w' := fun _ _ _ hb h => FrR.below h hb
section
variable {P : Program} {ops : Array Oper} {R : World → World → Prop} {w0 : World}
theorem withGens_pre {ds : List Tmp} {G : Act → World → Prop} {w : World} {rest : List (Tmp × Pred)} : ∀ (pre0 : List (Tmp × Pred)) (a : Act), pre0.all (fun p => !ds.contains p.1) = true → withGens ds G rest a w → withGens ds G (pre0 ++ rest) a w
  | [], _, _, h => h
  | (d, φ) :: pre0, a, hall, h => by
    simp only [List.all_cons, Bool.and_eq_true, Bool.not_eq_true'] at hall
    simp only [List.cons_append, withGens, hall.1, Bool.false_eq_true, if_false]
    exact withGens_pre pre0 a hall.2 h

/-- A call with known arguments that hands back a fraction. -/
theorem late_fr {f : FuncId} {fn : Func} {dst : Option Tmp} {args : Array Operand} {ats : Array TypeId} {type : TypeId} {pos : String} {after : Array Edge} {pre : List (Tmp × Pred)} {a a' : Act} {next : List (Tmp × Pred) → Act → Prop} {vals : Array Value} {y : Rat}
    (hf : P.funcs[f]? = some fn) (hname : (fn.name == "runtime.NumGoroutine") = false) (hb : fn.body.isNone = false)
    (hc : ∀ x : Beh LeW w0, Calls P f vals x.w fun e w' => ∃ v, e = .returned v ∧ FrR w' v y ∧ Below x.w.heap.size x.w w')
    (hv : args.toList.map a.eval = vals.toList) (hp : a.put dst undef = a') (hn : next (pre ++ [(dst.getD 0, frG y)]) a') : LateAt P ops LeW w0 ⟨dst, .call ⟨.value (.func f), args, ats⟩, type, pos, after, none⟩ [] (some (frG y)) pre a next :=
  late_gen hf hname hb (frG_mono y) (fun x => (hc x).mono fun _ _ ⟨v, e, h, g⟩ => ⟨v, e, g, h⟩) hv hp hn
/-- One argument is a generated fraction. -/
theorem late_fr1 {f : FuncId} {fn : Func} {dst : Option Tmp} {d1 : Tmp} {args : Array Operand} {ats : Array TypeId} {type : TypeId} {pos : String} {after : Array Edge} {a a' : Act} {next : List (Tmp × Pred) → Act → Prop} {x1 y : Rat} (pre0 : List (Tmp × Pred)) (vals : Value → Array Value)
    (hf : P.funcs[f]? = some fn) (hname : (fn.name == "runtime.NumGoroutine") = false) (hb : fn.body.isNone = false) (hpre : pre0.all (fun p => !([d1] : List Tmp).contains p.1) = true)
    (hc : ∀ (x : Beh LeW w0) v, FrR x.w v x1 → Calls P f (vals v) x.w fun e w' => ∃ u, e = .returned u ∧ FrR w' u y ∧ Below x.w.heap.size x.w w')
    (hv : ∀ v, args.toList.map (a.put (some d1) v).eval = (vals v).toList) (hp : a.put dst undef = a') (hn : next (pre0 ++ [(d1, frG x1)] ++ [(dst.getD 0, frG y)]) a') :
    LateAt P ops LeW w0 ⟨dst, .call ⟨.value (.func f), args, ats⟩, type, pos, after, none⟩ [d1] (some (frG y)) (pre0 ++ [(d1, frG x1)]) a next := by
  refine ⟨frG_mono y, fun x => withGens_pre pre0 a hpre ?_, by rw [hp]; exact hn⟩
  simp only [withGens, List.contains_cons, beq_self_eq_true, Bool.true_or, if_true]
  intro v hx
  unfold tOp
  rw [if_pos (show Region.wanted _ _ = true from rfl), run_call_fn hf hname hb, show args.map (a.put (some d1) v).eval = vals v from Array.toList_inj.1 (by rw [Array.toList_map]; exact hv v)]
  exact (hc x v hx).mono fun _ _ ⟨u, e, h, g⟩ => ⟨u, e, g, h⟩
/-- Two arguments are generated fractions. -/
theorem late_fr2 {f : FuncId} {fn : Func} {dst : Option Tmp} {d1 d2 : Tmp} {args : Array Operand} {ats : Array TypeId} {type : TypeId} {pos : String} {after : Array Edge} {a a' : Act} {next : List (Tmp × Pred) → Act → Prop} {x1 x2 y : Rat} (mid : List (Tmp × Pred)) (vals : Value → Value → Array Value)
    (hf : P.funcs[f]? = some fn) (hname : (fn.name == "runtime.NumGoroutine") = false) (hb : fn.body.isNone = false) (hpre : mid.all (fun p => !([d1, d2] : List Tmp).contains p.1) = true)
    (hc : ∀ (x : Beh LeW w0) v u, FrR x.w v x1 → FrR x.w u x2 → Calls P f (vals v u) x.w fun e w' => ∃ u, e = .returned u ∧ FrR w' u y ∧ Below x.w.heap.size x.w w')
    (hv : ∀ v u, args.toList.map ((a.put (some d1) v).put (some d2) u).eval = (vals v u).toList) (hp : a.put dst undef = a') (hn : next ((d1, frG x1) :: mid ++ [(d2, frG x2)] ++ [(dst.getD 0, frG y)]) a') :
    LateAt P ops LeW w0 ⟨dst, .call ⟨.value (.func f), args, ats⟩, type, pos, after, none⟩ [d1, d2] (some (frG y)) ((d1, frG x1) :: mid ++ [(d2, frG x2)]) a next := by
  refine ⟨frG_mono y, fun x => ?_, by rw [hp]; exact hn⟩
  simp only [List.cons_append, withGens, List.contains_cons, beq_self_eq_true, Bool.true_or, if_true]
  intro v hx
  refine withGens_pre mid _ hpre ?_
  simp only [withGens, List.contains_cons, beq_self_eq_true, Bool.true_or, Bool.or_true, if_true]
  intro u hu
  unfold tOp
  rw [if_pos (show Region.wanted _ _ = true from rfl), run_call_fn hf hname hb, show args.map ((a.put (some d1) v).put (some d2) u).eval = vals v u from Array.toList_inj.1 (by rw [Array.toList_map]; exact hv v u)]
  exact (hc x v u hx hu).mono fun _ _ ⟨u, e, h, g⟩ => ⟨u, e, g, h⟩
/-- One argument is a generated fraction, what comes back is known. -/
theorem late_val1 {f : FuncId} {fn : Func} {dst : Option Tmp} {d1 : Tmp} {args : Array Operand} {ats : Array TypeId} {type : TypeId} {pos : String} {after : Array Edge} {a a' : Act} {next : List (Tmp × Pred) → Act → Prop} {x1 : Rat} {c : Value} (pre0 : List (Tmp × Pred)) (vals : Value → Array Value)
    (hf : P.funcs[f]? = some fn) (hname : (fn.name == "runtime.NumGoroutine") = false) (hb : fn.body.isNone = false) (hpre : pre0.all (fun p => !([d1] : List Tmp).contains p.1) = true)
    (hc : ∀ (x : Beh LeW w0) v, FrR x.w v x1 → Calls P f (vals v) x.w fun e w' => e = .returned c ∧ Below x.w.heap.size x.w w')
    (hv : ∀ v, args.toList.map (a.put (some d1) v).eval = (vals v).toList) (hp : a.put dst c = a') (hn : next (pre0 ++ [(d1, frG x1)]) a') :
    LateAt P ops LeW w0 ⟨dst, .call ⟨.value (.func f), args, ats⟩, type, pos, after, none⟩ [d1] none (pre0 ++ [(d1, frG x1)]) a next := by
  refine ⟨c, fun x => withGens_pre pre0 a hpre ?_, by rw [hp]; exact hn⟩
  simp only [withGens, List.contains_cons, beq_self_eq_true, Bool.true_or, if_true]
  intro v hx
  unfold tOp
  rw [if_pos (show Region.wanted _ _ = true from rfl), run_call_fn hf hname hb, show args.map (a.put (some d1) v).eval = vals v from Array.toList_inj.1 (by rw [Array.toList_map]; exact hv v)]
  exact (hc x v hx).mono fun _ _ ⟨e, g⟩ => ⟨c, e, g, rfl⟩
end
end Go.Proofs.YtpligjkbnlfhgaaGreatDoor
