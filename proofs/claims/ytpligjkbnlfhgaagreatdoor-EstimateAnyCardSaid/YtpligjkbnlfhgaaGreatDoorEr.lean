/- Chapter 38: the reference by contracts in fractions; program and reference hand back the same. No statement is proved here. -/
import Derived.Test.YtpligjkbnlfhgaaGreatDoorRf
import Derived.Test.YtpligjkbnlfhgaaGreatDoorLate2
import Derived.Test.YtpligjkbnlfhgaaGreatDoorEstR
import Derived.Test.YtpligjkbnlfhgaaGreatDoorEstT
import Derived.Test.YtpligjkbnlfhgaaGreatDoorEstB
import Derived.Test.YtpligjkbnlfhgaaGreatDoorLst
import Derived.Test.YtpligjkbnlfhgaaGreatDoorEst2
import Derived.Test.YtpligjkbnlfhgaaGreatDoorEstS
import Derived.Test.YtpligjkbnlfhgaaGreatDoorEstW
import Derived.Test.YtpligjkbnlfhgaaGreatDoorNumC
namespace Go.Proofs.YtpligjkbnlfhgaaGreatDoor
open Go.RowKit

/-! ### A fraction in a block -/
def FB (w : World) (b : Nat) (x : Rat) : Prop := ∃ s A1 n1 c1 A2 n2 c2, w.heap[b]? = some (.cells #[.bool s, .slice A1 n1 c1, .slice A2 n2 c2] 57 (0, 0)) ∧ FrR w (.agg #[.bool s, .slice A1 n1 c1, .slice A2 n2 c2]) x
theorem FB.below {w w' : World} {b : Nat} {x : Rat} (h : FB w b x) (hb : Below w.heap.size w w') : FB w' b x := by
  obtain ⟨s, A1, n1, c1, A2, n2, c2, h1, h2⟩ := h
  exact ⟨s, A1, n1, c1, A2, n2, c2, blk_below hb h1, h2.below hb⟩
theorem FB.lt {w : World} {b : Nat} {x : Rat} (h : FB w b x) : b < w.heap.size := by
  obtain ⟨s, A1, n1, c1, A2, n2, c2, h1, h2⟩ := h
  exact lt_of_blk h1
theorem FrR.sh {w : World} {f : Value} {x : Rat} (h : FrR w f x) : ∃ s A1 n1 c1 A2 n2 c2, f = .agg #[.bool s, .slice A1 n1 c1, .slice A2 n2 c2] ∧ FrR w (.agg #[.bool s, .slice A1 n1 c1, .slice A2 n2 c2]) x := by
  obtain ⟨A1, n1, c1, A2, n2, c2, rfl, -, -, -⟩ := h.shape
  exact ⟨_, A1, n1, c1, A2, n2, c2, rfl, h⟩
section
variable {w wr wx : World} {S D : Nat} {s b0 : Bool} {A1 A2 A3 A4 : Option Addr} {n1 c1 n2 c2 n3 c3 n4 c4 : Nat} {x y : Rat} {t : TypeId}
theorem FrR.put {f : Value} (h : FrR w f x) (hS : w.heap[S]? = some (.cells #[.bool b0, .slice A3 n3 c3, .slice A4 n4 c4] t (0, 0))) (u0 u1 u2 : Value) :
    FrR (((w.setCell ⟨S, 0, none⟩ u0).setCell ⟨S, 1, none⟩ u1).setCell ⟨S, 2, none⟩ u2) f x := by
  obtain ⟨t0, t1, t2⟩ := sets3 hS u0 u1 u2
  exact h.but hS no_dig3 (Nat.le_of_eq t2.symm) (fun k _ hk => t1 k hk)
theorem FB.put {b : Nat} (h : FB w b x) (hS : w.heap[S]? = some (.cells #[.bool b0, .slice A3 n3 c3, .slice A4 n4 c4] t (0, 0))) (hne : b ≠ S) (u0 u1 u2 : Value) :
    FB (((w.setCell ⟨S, 0, none⟩ u0).setCell ⟨S, 1, none⟩ u1).setCell ⟨S, 2, none⟩ u2) b x := by
  obtain ⟨s, A1, n1, c1, A2, n2, c2, h1, h2⟩ := h
  obtain ⟨t0, t1, t2⟩ := sets3 hS u0 u1 u2
  exact ⟨s, A1, n1, c1, A2, n2, c2, (t1 b hne).trans h1, h2.put hS u0 u1 u2⟩
theorem FB.make (hS : w.heap[S]? = some (.cells #[.bool b0, .slice A3 n3 c3, .slice A4 n4 c4] 57 (0, 0))) (h : FrR w (.agg #[.bool s, .slice A1 n1 c1, .slice A2 n2 c2]) x) :
    FB (((w.setCell ⟨S, 0, none⟩ (.bool s)).setCell ⟨S, 1, none⟩ (.slice A1 n1 c1)).setCell ⟨S, 2, none⟩ (.slice A2 n2 c2)) S x :=
  ⟨s, A1, n1, c1, A2, n2, c2, (sets3 hS _ _ _).1, h.put hS _ _ _⟩

/-- What a function of the reference holds: fractions in blocks of its own (L), and other blocks (O). -/
structure FI (w wr : World) (L : List (Nat × Rat)) (O : List (Nat × Obj)) : Prop where
  below : Below w.heap.size w wr
  fr : ∀ p ∈ L, w.heap.size ≤ p.1 ∧ FB wr p.1 p.2
  ob : ∀ p ∈ O, w.heap.size ≤ p.1 ∧ wr.heap[p.1]? = some p.2
  dis : (L.map (·.1) ++ O.map (·.1)).Nodup
variable {L L1 L2 : List (Nat × Rat)} {O O1 O2 : List (Nat × Obj)}
theorem FI.go (h : FI w wr L O) (hb : Below wr.heap.size wr wx) : FI w wx L O :=
  ⟨below_trans' h.below h.below.size hb, fun p hp => ⟨(h.fr p hp).1, (h.fr p hp).2.below hb⟩, fun p hp => ⟨(h.ob p hp).1, blk_below hb (h.ob p hp).2⟩, h.dis⟩
theorem FI.lt (h : FI w wr L O) : ∀ b ∈ L.map (·.1) ++ O.map (·.1), b < wr.heap.size := fun b hb => by
  rcases List.mem_append.1 hb with hb | hb
  · obtain ⟨p, hp, rfl⟩ := List.mem_map.1 hb
    exact (h.fr p hp).2.lt
  · obtain ⟨p, hp, rfl⟩ := List.mem_map.1 hb
    exact lt_of_blk (h.ob p hp).2
/-- A new block. -/
theorem FI.fresh {o : Obj} (h : FI w wr L O) (hb : Below wr.heap.size wr wx) (hD : wr.heap.size ≤ D) (gD : wx.heap[D]? = some o) : FI w wx L ((D, o) :: O) := by
  have h' := h.go hb
  refine ⟨h'.below, h'.fr, fun p hp => ?_, ?_⟩
  · rcases List.mem_cons.1 hp with rfl | hp
    · exact ⟨Nat.le_trans h.below.size hD, gD⟩
    · exact h'.ob p hp
  · rw [List.map_cons]
    refine (List.perm_middle.nodup_iff).2 (List.nodup_cons.2 ⟨fun hm => ?_, h.dis⟩)
    have := h.lt D hm
    omega
theorem FI.alloc {cs : Array Value} (h : FI w wr L O) : FI w (wr.alloc (.cells cs t)) L ((wr.heap.size, .cells cs t (0, 0)) :: O) :=
  h.fresh ((Below.refl _ _).alloc (Nat.le_refl _) _) (Nat.le_refl _) (heap_alloc_new wr _)
/-- A new block becomes a fraction without a store: it was made with one. -/
theorem FI.take (h : FI w wr L ((D, .cells #[.bool s, .slice A1 n1 c1, .slice A2 n2 c2] 57 (0, 0)) :: O)) (hf : FrR wr (.agg #[.bool s, .slice A1 n1 c1, .slice A2 n2 c2]) x) : FI w wr (L ++ [(D, x)]) O := by
  refine ⟨h.below, fun p hp => ?_, fun p hp => h.ob p (List.mem_cons_of_mem _ hp), ?_⟩
  · rcases List.mem_append.1 hp with hp | hp
    · exact h.fr p hp
    · obtain rfl := List.mem_singleton.1 hp
      have := h.ob (D, _) (List.mem_cons_self ..)
      exact ⟨this.1, s, A1, n1, c1, A2, n2, c2, this.2, hf⟩
  · have := h.dis
    rw [List.map_append, List.append_assoc]
    exact this
/-- A store into a block that was new. -/
theorem FI.fill (h : FI w wr L ((S, .cells #[.bool b0, .slice A3 n3 c3, .slice A4 n4 c4] 57 (0, 0)) :: O)) (hf : FrR wr (.agg #[.bool s, .slice A1 n1 c1, .slice A2 n2 c2]) x) :
    FI w (((wr.setCell ⟨S, 0, none⟩ (.bool s)).setCell ⟨S, 1, none⟩ (.slice A1 n1 c1)).setCell ⟨S, 2, none⟩ (.slice A2 n2 c2)) (L ++ [(S, x)]) O := by
  have hS := h.ob _ (List.mem_cons_self ..)
  have hd := h.dis
  rw [List.map_cons] at hd
  have hd' := (List.nodup_cons.1 ((List.perm_middle.nodup_iff).1 hd))
  refine ⟨below_set3 h.below hS.1 _ _ _, fun p hp => ?_, fun p hp => ?_, ?_⟩
  · rcases List.mem_append.1 hp with hp | hp
    · have hne : p.1 ≠ S := fun e => hd'.1 (by rw [← e]; exact List.mem_append_left _ (List.mem_map.2 ⟨p, hp, rfl⟩))
      exact ⟨(h.fr p hp).1, (h.fr p hp).2.put hS.2 hne _ _ _⟩
    · obtain rfl := List.mem_singleton.1 hp
      exact ⟨hS.1, FB.make hS.2 hf⟩
  · have hne : p.1 ≠ S := fun e => hd'.1 (by rw [← e]; exact List.mem_append_right _ (List.mem_map.2 ⟨p, hp, rfl⟩))
    exact ⟨(h.ob p (List.mem_cons_of_mem _ hp)).1, ((sets3 hS.2 _ _ _).2.1 p.1 hne).trans (h.ob p (List.mem_cons_of_mem _ hp)).2⟩
  · rw [List.map_append, List.append_assoc]
    exact h.dis
/-- A store into a fraction's block. -/
theorem FI.set (h : FI w wr (L1 ++ (S, y) :: L2) O) (hf : FrR wr (.agg #[.bool s, .slice A1 n1 c1, .slice A2 n2 c2]) x) :
    FI w (((wr.setCell ⟨S, 0, none⟩ (.bool s)).setCell ⟨S, 1, none⟩ (.slice A1 n1 c1)).setCell ⟨S, 2, none⟩ (.slice A2 n2 c2)) (L1 ++ (S, x) :: L2) O := by
  obtain ⟨hS1, b0, A3, n3, c3, A4, n4, c4, hS2, -⟩ := h.fr (S, y) (List.mem_append_right _ (List.mem_cons_self ..))
  have hd := h.dis
  rw [List.map_append, List.map_cons, List.append_assoc, List.cons_append] at hd
  have hd' := (List.nodup_cons.1 ((List.perm_middle.nodup_iff).1 hd))
  refine ⟨below_set3 h.below hS1 _ _ _, fun p hp => ?_, fun p hp => ?_, ?_⟩
  · have old : p ∈ L1 ∨ p ∈ L2 → w.heap.size ≤ p.1 ∧ FB (((wr.setCell ⟨S, 0, none⟩ (.bool s)).setCell ⟨S, 1, none⟩ (.slice A1 n1 c1)).setCell ⟨S, 2, none⟩ (.slice A2 n2 c2)) p.1 p.2 := fun hp => by
      have hm : p ∈ L1 ++ (S, y) :: L2 := by rcases hp with hp | hp <;> simp [hp]
      have hne : p.1 ≠ S := fun e => hd'.1 (by
        rw [← e]
        rcases hp with hp | hp
        · exact List.mem_append_left _ (List.mem_map.2 ⟨p, hp, rfl⟩)
        · exact List.mem_append_right _ (List.mem_append_left _ (List.mem_map.2 ⟨p, hp, rfl⟩)))
      exact ⟨(h.fr p hm).1, (h.fr p hm).2.put hS2 hne _ _ _⟩
    rcases List.mem_append.1 hp with hp | hp
    · exact old (.inl hp)
    · rcases List.mem_cons.1 hp with rfl | hp
      · exact ⟨hS1, FB.make hS2 hf⟩
      · exact old (.inr hp)
  · have hne : p.1 ≠ S := fun e => hd'.1 (by rw [← e]; exact List.mem_append_right _ (List.mem_append_right _ (List.mem_map.2 ⟨p, hp, rfl⟩)))
    exact ⟨(h.ob p hp).1, ((sets3 hS2 _ _ _).2.1 p.1 hne).trans (h.ob p hp).2⟩
  · rw [List.map_append, List.map_cons, List.append_assoc, List.cons_append]
    exact hd
/-- Fewer blocks. -/
theorem FI.drop (h : FI w wr L O) (hL : L1.Sublist L) (hO : O1.Sublist O) : FI w wr L1 O1 :=
  ⟨h.below, fun p hp => h.fr p (hL.subset hp), fun p hp => h.ob p (hO.subset hp), List.Nodup.sublist (List.Sublist.append (hL.map _) (hO.map _)) h.dis⟩
theorem FI.at (h : FI w wr L O) (b : Nat) (x : Rat) (hm : (b, x) ∈ L) : FB wr b x := (h.fr _ hm).2
end

/-! ### Calls in drawn regions -/
def frG (x : Rat) : Pred := fun v w => FrR w v x
theorem frG_mono (x : Rat) : ∀ v w w', LeW w w' → frG x v w → frG x v w' := fun _ _ _ hb h => FrR.below h hb
section
variable {P : Program} {ops : Array Oper} {R : World → World → Prop} {w0 : World}
theorem withGens_pre {ds : List Tmp} {G : Act → World → Prop} {w : World} {rest : List (Tmp × Pred)} : ∀ (pre0 : List (Tmp × Pred)) (a : Act), pre0.all (fun p => !ds.contains p.1) = true → withGens ds G rest a w → withGens ds G (pre0 ++ rest) a w
  | [], _, _, h => h
  | (d, φ) :: pre0, a, hall, h => by
    simp only [List.all_cons, Bool.and_eq_true, Bool.not_eq_true'] at hall
    simp only [List.cons_append, withGens, hall.1, Bool.false_eq_true, if_false]
    exact withGens_pre pre0 a hall.2 h

/-- A call with known arguments that hands back a fraction. -/
theorem late_fr {f : FuncId} {fn : Func} {dst : Option Tmp} {args : Array Operand} {ats : Array TypeId} {type : TypeId} {pos : String} {after : Array Edge} {pre : List (Tmp × Pred)} {a a' : Act} {next : List (Tmp × Pred) → Act → Prop} {vals : Array Value} {y : Rat}
    (hf : P.funcs[f]? = some fn) (hname : (fn.name == "runtime.NumGoroutine") = false) (hb : fn.body.isNone = false)
    (hc : ∀ x : Beh LeW w0, Calls P f vals x.w fun e w' => ∃ v, e = .returned v ∧ FrR w' v y ∧ Below x.w.heap.size x.w w')
    (hv : args.toList.map a.eval = vals.toList) (hp : a.put dst undef = a') (hn : next (pre ++ [(dst.getD 0, frG y)]) a') : LateAt P ops LeW w0 ⟨dst, .call ⟨.value (.func f), args, ats⟩, type, pos, after, none⟩ [] (some (frG y)) pre a next :=
  late_gen hf hname hb (frG_mono y) (fun x => (hc x).mono fun _ _ ⟨v, e, h, g⟩ => ⟨v, e, g, h⟩) hv hp hn
/-- One argument is a generated fraction. -/
theorem late_fr1 {f : FuncId} {fn : Func} {dst : Option Tmp} {d1 : Tmp} {args : Array Operand} {ats : Array TypeId} {type : TypeId} {pos : String} {after : Array Edge} {a a' : Act} {next : List (Tmp × Pred) → Act → Prop} {x1 y : Rat} (pre0 : List (Tmp × Pred)) (vals : Value → Array Value)
    (hf : P.funcs[f]? = some fn) (hname : (fn.name == "runtime.NumGoroutine") = false) (hb : fn.body.isNone = false) (hpre : pre0.all (fun p => !([d1] : List Tmp).contains p.1) = true)
    (hc : ∀ (x : Beh LeW w0) v, FrR x.w v x1 → Calls P f (vals v) x.w fun e w' => ∃ u, e = .returned u ∧ FrR w' u y ∧ Below x.w.heap.size x.w w')
    (hv : ∀ v, args.toList.map (a.put (some d1) v).eval = (vals v).toList) (hp : a.put dst undef = a') (hn : next (pre0 ++ [(d1, frG x1)] ++ [(dst.getD 0, frG y)]) a') :
    LateAt P ops LeW w0 ⟨dst, .call ⟨.value (.func f), args, ats⟩, type, pos, after, none⟩ [d1] (some (frG y)) (pre0 ++ [(d1, frG x1)]) a next := by
  refine ⟨frG_mono y, fun x => withGens_pre pre0 a hpre ?_, by rw [hp]; exact hn⟩
  simp only [withGens, List.contains_cons, beq_self_eq_true, Bool.true_or, if_true]
  intro v hx
  unfold tOp
  rw [if_pos (show Region.wanted _ _ = true from rfl), run_call_fn hf hname hb, show args.map (a.put (some d1) v).eval = vals v from Array.toList_inj.1 (by rw [Array.toList_map]; exact hv v)]
  exact (hc x v hx).mono fun _ _ ⟨u, e, h, g⟩ => ⟨u, e, g, h⟩
/-- Two arguments are generated fractions. -/
theorem late_fr2 {f : FuncId} {fn : Func} {dst : Option Tmp} {d1 d2 : Tmp} {args : Array Operand} {ats : Array TypeId} {type : TypeId} {pos : String} {after : Array Edge} {a a' : Act} {next : List (Tmp × Pred) → Act → Prop} {x1 x2 y : Rat} (mid : List (Tmp × Pred)) (vals : Value → Value → Array Value)
    (hf : P.funcs[f]? = some fn) (hname : (fn.name == "runtime.NumGoroutine") = false) (hb : fn.body.isNone = false) (hpre : mid.all (fun p => !([d1, d2] : List Tmp).contains p.1) = true)
    (hc : ∀ (x : Beh LeW w0) v u, FrR x.w v x1 → FrR x.w u x2 → Calls P f (vals v u) x.w fun e w' => ∃ u, e = .returned u ∧ FrR w' u y ∧ Below x.w.heap.size x.w w')
    (hv : ∀ v u, args.toList.map ((a.put (some d1) v).put (some d2) u).eval = (vals v u).toList) (hp : a.put dst undef = a') (hn : next ((d1, frG x1) :: mid ++ [(d2, frG x2)] ++ [(dst.getD 0, frG y)]) a') :
    LateAt P ops LeW w0 ⟨dst, .call ⟨.value (.func f), args, ats⟩, type, pos, after, none⟩ [d1, d2] (some (frG y)) ((d1, frG x1) :: mid ++ [(d2, frG x2)]) a next := by
  refine ⟨frG_mono y, fun x => ?_, by rw [hp]; exact hn⟩
  simp only [List.cons_append, withGens, List.contains_cons, beq_self_eq_true, Bool.true_or, if_true]
  intro v hx
  refine withGens_pre mid _ hpre ?_
  simp only [withGens, List.contains_cons, beq_self_eq_true, Bool.true_or, Bool.or_true, if_true]
  intro u hu
  unfold tOp
  rw [if_pos (show Region.wanted _ _ = true from rfl), run_call_fn hf hname hb, show args.map ((a.put (some d1) v).put (some d2) u).eval = vals v u from Array.toList_inj.1 (by rw [Array.toList_map]; exact hv v u)]
  exact (hc x v u hx hu).mono fun _ _ ⟨u, e, h, g⟩ => ⟨u, e, g, h⟩
/-- One argument is a generated fraction, what comes back is known. -/
theorem late_val1 {f : FuncId} {fn : Func} {dst : Option Tmp} {d1 : Tmp} {args : Array Operand} {ats : Array TypeId} {type : TypeId} {pos : String} {after : Array Edge} {a a' : Act} {next : List (Tmp × Pred) → Act → Prop} {x1 : Rat} {c : Value} (pre0 : List (Tmp × Pred)) (vals : Value → Array Value)
    (hf : P.funcs[f]? = some fn) (hname : (fn.name == "runtime.NumGoroutine") = false) (hb : fn.body.isNone = false) (hpre : pre0.all (fun p => !([d1] : List Tmp).contains p.1) = true)
    (hc : ∀ (x : Beh LeW w0) v, FrR x.w v x1 → Calls P f (vals v) x.w fun e w' => e = .returned c ∧ Below x.w.heap.size x.w w')
    (hv : ∀ v, args.toList.map (a.put (some d1) v).eval = (vals v).toList) (hp : a.put dst c = a') (hn : next (pre0 ++ [(d1, frG x1)]) a') :
    LateAt P ops LeW w0 ⟨dst, .call ⟨.value (.func f), args, ats⟩, type, pos, after, none⟩ [d1] none (pre0 ++ [(d1, frG x1)]) a next := by
  refine ⟨c, fun x => withGens_pre pre0 a hpre ?_, by rw [hp]; exact hn⟩
  simp only [withGens, List.contains_cons, beq_self_eq_true, Bool.true_or, if_true]
  intro v hx
  unfold tOp
  rw [if_pos (show Region.wanted _ _ = true from rfl), run_call_fn hf hname hb, show args.map (a.put (some d1) v).eval = vals v from Array.toList_inj.1 (by rw [Array.toList_map]; exact hv v)]
  exact (hc x v hx).mono fun _ _ ⟨e, g⟩ => ⟨c, e, g, rfl⟩
end

theorem rs_of {a b : Nat} {x : Rat} (h : E2 a b x) (ha : a ≤ 399) (hb : b ≤ 399) : RS 400 x := RS.of_le (h.mono ha hb) (by decide)
theorem ratP_fr {a b : Int} (hb : b ≠ 0) : ratP (decide (a < 0) != decide (b < 0)) a.natAbs b.natAbs = frQ a b := by
  rcases Int.lt_or_gt_of_ne hb with hb | hb
  · rw [show decide (b < 0) = true from decide_eq_true hb]
    have h := ratP_neg (decide (a < 0)) a.natAbs b.natAbs
    rw [Bool.bne_true, ← h, ← ratP_mkRat, Rat.mkRat_eq_div]
    unfold frQ
    have h' : ((b.natAbs : Nat) : Rat) = -(b : Rat) := by
      have h : ((b.natAbs : Int)) = -b := by omega
      rw [← Rat.intCast_natCast, h, Rat.intCast_neg]
    rw [h']
    have hb0 : (b : Rat) ≠ 0 := cast_ne (by omega)
    grind
  · rw [show decide (b < 0) = false from decide_eq_false (by omega), Bool.bne_false, ← ratP_mkRat, Rat.mkRat_eq_div]
    unfold frQ
    rw [show ((b.natAbs : Nat) : Rat) = (b : Rat) by
      have h : ((b.natAbs : Int)) = b := by omega
      rw [← Rat.intCast_natCast, h]]
theorem make_fr (a b : Int) (w : World) (h1 : -9223372036854775808 ≤ a) (h2 : a ≤ 9223372036854775807) (h3 : -9223372036854775808 ≤ b) (h4 : b ≤ 9223372036854775807) (hb0 : b ≠ 0) :
    Calls Tryz.prog 53 #[.int .i64 a, .int .i64 b] w fun e w' => ∃ f, e = .returned f ∧ FrR w' f (frQ a b) ∧ Below w.heap.size w w' := by
  have := make69 a b w h1 h2 h3 h4 hb0
  rw [ratP_fr hb0] at this
  exact this

set_option maxRecDepth 100000 in
set_option maxHeartbeats 4000000 in
theorem fits25 (A : Option Addr) (n c : Nat) (f : Nat → Int) (o : Bool) (w : World) (hl : IntsV w A n c f) (ho : o = true ↔ Fit f n) :
    Calls Tryz.prog 25 #[.slice A n c] w fun e w' => e = .returned (.bool o) ∧ w = w' := by
  have hcm := hl.max
  have hle := hl.le
  unfold maxLen at hcm
  have HO := Lib.hid ho
  clear ho
  by_cases h5 : (512 : Int) < (n : Int)
  · have hof : o = false := by
      cases o with
      | false => rfl
      | true => have := (HO.out.1 rfl).1; omega
    subst hof
    go_enter Tryz.func25, Tryz.ntmps25
    go_wp2_with fail
    go_ret
    exact ⟨rfl, rfl⟩
  · go_enter Tryz.func25, Tryz.ntmps25
    go_wp2_with fail
    go_loopg [3] (n + 1) (fun r i wr => ∃ k : Nat, k ≤ n ∧ r = n + 1 - k ∧ i = .int .i64 k ∧ Hid (∀ j, j < k → -1048576 ≤ f j ∧ f j ≤ 1048576) ∧ w = wr)
    case atStart => exact ⟨0, by omega, rfl, rfl, Lib.hid (fun j h => absurd h (by omega)), rfl⟩
    case round =>
      obtain ⟨k, hk, hr, rfl, hgood, rfl⟩ := hrel
      have HR := Lib.hid hr
      clear hr
      by_cases hkn : k < n
      · have hkI : (k : Int) < n := by omega
        obtain ⟨b, off, rfl, hb, hcell⟩ := hl.rd (by omega)
        have hx := hcell k hkn
        obtain ⟨v, hv⟩ : ∃ v, f k = v := ⟨_, rfl⟩
        rw [hv] at hx
        have HV := Lib.hid hv
        have bad : (v < -1048576 ∨ 1048576 < v) → o = false := fun h => by
          cases o with
          | false => rfl
          | true => have := (HO.out.1 rfl).2 k hkn; rw [HV.out] at this; omega
        have HB := Lib.hid bad
        clear hv bad hl hcell
        by_cases hv1 : v < -1048576
        · have := HB.out (.inl hv1)
          subst this
          go_wp2_with fail
          go_ret
          exact ⟨rfl, rfl⟩
        · by_cases hv2 : 1048576 < v
          · have := HB.out (.inr hv2)
            subst this
            go_wp2_with fail
            go_ret
            exact ⟨rfl, rfl⟩
          · go_wp2_with fail
            go_roundg (n + 1 - (k + 1))
            case measure => have := HR.out; omega
            case rel =>
              refine ⟨k + 1, by omega, rfl, by go_num, Lib.hid (fun j hj => ?_), rfl⟩
              by_cases e : j = k
              · rw [e, HV.out]; omega
              · exact hgood.out j (by omega)
      · have hkI : ¬ (k : Int) < n := by omega
        have hkn' : k = n := by omega
        have hot : o = true := HO.out.2 ⟨by omega, fun i hi => hgood.out i (by omega)⟩
        subst hot
        clear hkn'
        go_wp2_with fail
        go_ret
        exact ⟨rfl, rfl⟩

set_option maxRecDepth 100000 in
set_option maxHeartbeats 2000000 in
theorem sum63 (A : Option Addr) (n c : Nat) (f : Nat → Int) (w : World) (hr : RdI w A n f) (hf : Fit f n) :
    Calls Tryz.prog 63 #[.slice A n c] w fun e w' => e = .returned (.int .i64 (sumF f n)) ∧ w = w' := by
  have hn5 := hf.1
  have hfi := Lib.hid hf
  clear hf
  go_enter Tryz.func63, Tryz.ntmps63
  go_wp2_with fail
  go_loopg [3, 4] (n + 1) (fun r s i wr => ∃ k : Nat, k ≤ n ∧ r = n + 1 - k ∧ i = .int .i64 k ∧ s = .int .i64 (sumF f k) ∧ w = wr)
  case atStart => exact ⟨0, by omega, rfl, rfl, rfl, rfl⟩
  case round =>
    obtain ⟨k, hk, hr', rfl, rfl, rfl⟩ := hrel
    have HR := Lib.hid hr'
    clear hr'
    have hs := sum_fit (f := f) (n := k) ⟨by omega, fun i hi => hfi.out.2 i (by omega)⟩
    by_cases hkn : k < n
    · have hknI : (k : Int) < n := by omega
      obtain ⟨b, off, rfl, hb, hcell⟩ := hr (by omega)
      have hx := hcell k hkn
      have hfk := hfi.out.2 k hkn
      have hsu : Hid (sumF f (k + 1) = sumF f k + f k) := Lib.hid rfl
      clear hcell
      go_wp2_with fail
      go_roundg (n + 1 - (k + 1))
      case measure => have := HR.out; omega
      case rel => exact ⟨k + 1, by omega, rfl, by go_num, by rw [hsu.out], rfl⟩
    · have hkn' : k = n := by omega
      have hkI : ¬ (k : Int) < n := by omega
      have HK := Lib.hid hkn'
      clear hkn'
      go_wp2_with fail
      go_ret
      exact ⟨by rw [HK.out]; rfl, rfl⟩

set_option maxRecDepth 100000 in
set_option maxHeartbeats 2000000 in
theorem num30 (a : Int) (w : World) (h1 : -9223372036854775808 ≤ a) (h2 : a ≤ 9223372036854775807) :
    Calls Tryz.prog 30 #[.int .i64 a] w fun e w' => ∃ f, e = .returned f ∧ FrR w' f (frQ a 1) ∧ Below w.heap.size w w' := by
  have HM := Lib.hid (fun w => make_fr a 1 w h1 h2 (by decide) (by decide) (by decide))
  have g0 := heap_alloc_new w (.cells #[.bool false, .slice none 0 0, .slice none 0 0] 57)
  have hbW : Below w.heap.size w (w.alloc (.cells #[.bool false, .slice none 0 0, .slice none 0 0] 57)) := (Below.refl _ _).alloc (Nat.le_refl _) _
  go_enter Tryz.func30, Tryz.ntmps30
  go_wp2_with fail
  generalize w.alloc (.cells #[.bool false, .slice none 0 0, .slice none 0 0] 57) = W at *
  refine (HM.out W).mono ?_
  rintro e w1 ⟨f, rfl, hf, hb⟩
  obtain ⟨A1, e1, k1, A2, e2, k2, rfl, f1, f2, -⟩ := hf.shape
  obtain ⟨sg, hsg⟩ : ∃ c, decide ((frQ a 1).num < 0) = c := ⟨_, rfl⟩
  rw [hsg]
  have G := blk_below hb g0
  have n2 := cells3 G
  have n3 := free_of_block G
  obtain ⟨t0, q1, q2⟩ := ret3g (b := sg) G f1 f2
  obtain ⟨u0, u1, u2⟩ := cells3 t0
  have hbe := below_set3 (below_trans' hbW hbW.size hb) (Nat.le_refl _) (.bool sg) (.slice A1 e1 k1) (.slice A2 e2 k2)
  have HSG := Lib.hid hsg
  clear hsg hf hb hbW g0 t0
  go_wp2_with fail
  exact bodyPost_ret (v := .agg #[.bool sg, .slice A1 e1 k1, .slice A2 e2 k2]) (by simp [results, Tryz.results30, go_sem, u0, u1, u2]) rfl ⟨_, rfl, ⟨_, _, by rw [HSG.out], q1, q2⟩, hbe⟩

set_option maxRecDepth 100000 in
set_option maxHeartbeats 2000000 in
theorem mean27 (A : Option Addr) (n c : Nat) (f : Nat → Int) (w : World) (hl : IntsV w A n c f) (hf : Fit f n) (hn : 1 ≤ n) :
    Calls Tryz.prog 27 #[.slice A n c] w fun e w' => ∃ v, e = .returned v ∧ FrR w' v (meanQ f n) ∧ Below w.heap.size w w' := by
  have hs := sum_fit hf
  have hn5 := hf.1
  have HM := Lib.hid (fun w => make_fr (sumF f n) n w (by omega) (by omega) (by omega) (by omega) (by omega))
  have g0 := heap_alloc_new w (.cells #[.bool false, .slice none 0 0, .slice none 0 0] 57)
  have hbW : Below w.heap.size w (w.alloc (.cells #[.bool false, .slice none 0 0, .slice none 0 0] 57)) := (Below.refl _ _).alloc (Nat.le_refl _) _
  have hr := (hl.below hbW).rd
  have HF := Lib.hid hf
  clear hl hf
  go_enter Tryz.func27, Tryz.ntmps27
  go_wp2_with fail
  generalize w.alloc (.cells #[.bool false, .slice none 0 0, .slice none 0 0] 57) = W at *
  refine (sum63 A n c f W hr HF.out).mono ?_
  rintro e w0 ⟨rfl, rfl⟩
  go_wp2_with fail
  refine (HM.out W).mono ?_
  rintro e w1 ⟨v, rfl, hv, hb⟩
  have hv' : FrR w1 v (meanQ f n) := hv
  obtain ⟨A1, e1, k1, A2, e2, k2, rfl, f1, f2, -⟩ := hv'.shape
  obtain ⟨sg, hsg⟩ : ∃ c, decide ((meanQ f n).num < 0) = c := ⟨_, rfl⟩
  rw [hsg]
  have G := blk_below hb g0
  have n2 := cells3 G
  have n3 := free_of_block G
  obtain ⟨t0, q1, q2⟩ := ret3g (b := sg) G f1 f2
  obtain ⟨u0, u1, u2⟩ := cells3 t0
  have hbe := below_set3 (below_trans' hbW hbW.size hb) (Nat.le_refl _) (.bool sg) (.slice A1 e1 k1) (.slice A2 e2 k2)
  have HSG := Lib.hid hsg
  clear hsg hv hv' hb hbW g0 t0 hr
  go_wp2_with fail
  exact bodyPost_ret (v := .agg #[.bool sg, .slice A1 e1 k1, .slice A2 e2 k2]) (by simp [results, Tryz.results27, go_sem, u0, u1, u2]) rfl ⟨_, rfl, ⟨_, _, by rw [HSG.out], q1, q2⟩, hbe⟩

theorem FI.newF {w wr : World} {L : List (Nat × Rat)} {O : List (Nat × Obj)} {s : Bool} {A1 A2 : Option Addr} {n1 c1 n2 c2 : Nat} {x : Rat} (h : FI w wr L O) (N : Nat) (hN : wr.heap.size = N) (hf : FrR wr (.agg #[.bool s, .slice A1 n1 c1, .slice A2 n2 c2]) x) :
    FI w (wr.alloc (.cells #[.bool s, .slice A1 n1 c1, .slice A2 n2 c2] 57)) (L ++ [(N, x)]) O := by
  subst hN
  exact h.alloc.take (hf.below ((Below.refl _ _).alloc (Nat.le_refl _) _))
theorem FI.front {w wr : World} {L1 L2 : List (Nat × Rat)} {O : List (Nat × Obj)} (h : FI w wr (L1 ++ L2) O) : FI w wr L1 O := h.drop (List.sublist_append_left _ _) (List.Sublist.refl _)
theorem below_alloc (w : World) (cs : Array Value) (t : TypeId) : Below w.heap.size w (w.alloc (.cells cs t)) := (Below.refl _ _).alloc (Nat.le_refl _) _

set_option maxRecDepth 100000 in
set_option maxHeartbeats 16000000 in
theorem covr29 (A B : Option Addr) (n ca cb : Nat) (f g : Nat → Int) (w : World) (hl : IntsV w A n ca f) (hm : IntsV w B n cb g) (hf : Fit f n) (hg : Fit g n) (h2 : 2 ≤ n) :
    Calls Tryz.prog 29 #[.slice A n ca, .slice B n cb] w fun e w' => ∃ v, e = .returned v ∧ FrR w' v (covQ f g n) ∧ Below w.heap.size w w' := by
  obtain ⟨o1, q1, rfl, hbk1, hcl1⟩ := hl.rd (by omega)
  obtain ⟨o2, q2, rfl, hbk2, hcl2⟩ := hm.rd (by omega)
  have HL1 := Lib.hid hcl1
  have HL2 := Lib.hid hcl2
  have hn5 := hf.1
  have HF := Lib.hid hf
  have HG := Lib.hid hg
  have g0 := heap_alloc_new w (.cells #[.bool false, .slice none 0 0, .slice none 0 0] 57)
  have hbW := below_alloc w #[.bool false, .slice none 0 0, .slice none 0 0] 57
  have hl1 := hl.below hbW
  have hm1 := hm.below hbW
  have hI0 : FI w (w.alloc (.cells #[.bool false, .slice none 0 0, .slice none 0 0] 57)) [] [(w.heap.size, .cells #[.bool false, .slice none 0 0, .slice none 0 0] 57 (0, 0))] :=
    ⟨hbW, fun _ h => by simp at h, fun p h => by obtain rfl := List.mem_singleton.1 h; exact ⟨Nat.le_refl _, g0⟩, by simp⟩
  clear hcl1 hcl2 hf hg hl hm g0
  go_enter Tryz.func29, Tryz.ntmps29
  go_wp2_with fail
  generalize w.alloc (.cells #[.bool false, .slice none 0 0, .slice none 0 0] 57) = W at *
  refine (mean27 _ n ca f W hl1 HF.out (by omega)).mono ?_
  rintro e w1 ⟨v1, rfl, h1, b1⟩
  go_wp2_with fail
  refine (mean27 _ n cb g w1 (hm1.below b1) HG.out (by omega)).mono ?_
  rintro e w2 ⟨v2, rfl, h2', b2⟩
  go_wp2_with fail
  refine (num30 0 w2 (by decide) (by decide)).mono ?_
  rintro e w3 ⟨v3, rfl, h3, b3⟩
  obtain ⟨s1, A11, n11, c11, A12, n12, c12, rfl, F1⟩ := FrR.sh h1
  obtain ⟨s2, A21, n21, c21, A22, n22, c22, rfl, F2⟩ := FrR.sh h2'
  obtain ⟨s3, A31, n31, c31, A32, n32, c32, rfl, F3⟩ := FrR.sh h3
  have F1' := (F1.below b2).below b3
  have F2' := F2.below b3
  have k1 := below_alloc w3 #[.bool s1, .slice A11 n11 c11, .slice A12 n12 c12] 57
  have k2 := below_alloc (w3.alloc (.cells #[.bool s1, .slice A11 n11 c11, .slice A12 n12 c12] 57)) #[.bool s2, .slice A21 n21 c21, .slice A22 n22 c22] 57
  have hI1 : FI w _ [(w3.heap.size, meanQ f n), (w3.heap.size + 1, meanQ g n), (w3.heap.size + 1 + 1, frQ 0 1)] [(w.heap.size, .cells #[.bool false, .slice none 0 0, .slice none 0 0] 57 (0, 0))] :=
    (((((hI0.go b1).go b2).go b3).newF w3.heap.size rfl F1').newF (w3.heap.size + 1) (by simp) (F2'.below k1)).newF (w3.heap.size + 1 + 1) (by simp) ((F3.below k1).below k2)
  clear F1 F2 F3 F1' F2' k1 k2 h1 h2' h3 hI0 b1 b2 b3 hl1 hm1 hbW
  go_wp2_with fail
  generalize ((w3.alloc (.cells #[.bool s1, .slice A11 n11 c11, .slice A12 n12 c12] 57)).alloc (.cells #[.bool s2, .slice A21 n21 c21, .slice A22 n22 c22] 57)).alloc (.cells #[.bool s3, .slice A31 n31 c31, .slice A32 n32 c32] 57) = w4 at *
  generalize w3.heap.size + 1 + 1 = NS at *
  generalize w3.heap.size + 1 = NY at *
  generalize w3.heap.size = NX at *
  rw [← scQ_zero (f := f) (g := g) (n := n)] at hI1
  go_loopg [8, 9, 10] n (fun r i _ _ wr => ∃ k : Nat, k ≤ n ∧ r = n - k ∧ i = .int .i64 k ∧ FI w wr [(NX, meanQ f n), (NY, meanQ g n), (NS, scQ f g n k)] [(w.heap.size, .cells #[.bool false, .slice none 0 0, .slice none 0 0] 57 (0, 0))])
  case atStart => exact ⟨0, by omega, rfl, rfl, hI1⟩
  case round =>
    obtain ⟨k, hk, hr', rfl, hI⟩ := hrel
    have HR := Lib.hid hr'
    clear hr' hI1
    by_cases hkn : k < n
    · have hkI : (k : Int) < n := by omega
      have hfk := HF.out.2 k hkn
      have hgk := HG.out.2 k hkn
      have E1 := rs_of (elt_E2 HF.out hkn) (by omega) (by omega)
      have E2 := rs_of (elt_E2 HG.out hkn) (by omega) (by omega)
      have E3 := rs_of (mean_E2 HF.out (by omega)) (by omega) (by omega)
      have E4 := rs_of (mean_E2 HG.out (by omega)) (by omega) (by omega)
      have E5 := rs_of (ctr_E2 HF.out (by omega) hkn) (by omega) (by omega)
      have E6 := rs_of (ctr_E2 HG.out (by omega) hkn) (by omega) (by omega)
      have E7 := rs_of (prod_E2 HF.out HG.out (by omega) hkn) (by omega) (by omega)
      have E8 := rs_of (scQ_E2 HF.out HG.out (by omega) hk) (by omega) (by omega)
      have hs := scQ_succ (f := f) (g := g) (n := n) (by omega) k
      have hcell : ∀ wx, Below w.heap.size w wx → wx.cell? ⟨o1, q1 + k, none⟩ = some (.int .i64 (f k)) ∧ wx.cell? ⟨o2, q2 + k, none⟩ = some (.int .i64 (g k)) := fun wx h =>
        ⟨(h.cell (p := ⟨o1, q1 + k, none⟩) hbk1).trans (HL1.out k hkn), (h.cell (p := ⟨o2, q2 + k, none⟩) hbk2).trans (HL2.out k hkn)⟩
      have HCell := Lib.hid hcell
      have HE := Lib.hid (And.intro (And.intro hfk hgk) hs)
      have HE' := Lib.hid (And.intro E1 (And.intro E2 (And.intro E3 (And.intro E4 (And.intro E5 (And.intro E6 (And.intro E7 E8)))))))
      clear hcell hfk hgk hs E1 E2 E3 E4 E5 E6 E7 E8
      go_upto_region 5 with fail
      have hbd : Below wr.heap.size wr wr.drew := (Below.refl _ _).drew
      have hzz : ∀ x : Beh LeW wr.drew, Below wr.heap.size wr x.w := fun x => below_trans' hbd hbd.size x.h
      obtain ⟨sX, AX1, nX1, cX1, AX2, nX2, cX2, GX, FX⟩ := hI.at NX (meanQ f n) (by simp)
      have zX0 := fun x : Beh LeW wr.drew => (cells3 (blk_below (hzz x) GX)).1
      have zX1 := fun x : Beh LeW wr.drew => (cells3 (blk_below (hzz x) GX)).2.1
      have zX2 := fun x : Beh LeW wr.drew => (cells3 (blk_below (hzz x) GX)).2.2
      have ze := fun x : Beh LeW wr.drew => (HCell.out x.w (below_trans' hI.below hI.below.size (hzz x))).1
      refine wp_region_late (R := LeW) 8 47 [(4, [], some (frG (frQ (f k) 1))), (6, [26], some (frG (frQ (f k) 1 - meanQ f n))), (7, [], some (fresh wr.heap.size #[.bool false, .slice none 0 0, .slice none 0 0] 57))] (by kernel_rfl) (by kernel_rfl) (by kernel_rfl) rfl LeW.refl (fun _ _ _ => LeW.trans) ?_
      simp only [Late, List.take_succ_cons, List.drop_succ_cons, List.take_zero, List.drop_zero, Nat.reduceSub, Nat.reduceAdd, Nat.sub_zero]
      repeat (go_big_quiet_step (fail))
      refine wpQuiet_nil ?_
      refine late_fr Tryz.func30 (by kernel_rfl) (by kernel_rfl) (fun x => num30 (f k) x.w (by have := HE.out.1.1; omega) (by have := HE.out.1.1; omega)) rfl (by simp only [Act.put, List.setIfInBounds_toArray, List.set_cons_succ, List.set_cons_zero]; rfl) ?_
      simp only [List.nil_append, Option.getD_some]
      repeat (go_big_quiet_step (fail))
      refine wpQuiet_nil ?_
      refine late_fr1 [] (fun v => #[v, .agg #[.bool sX, .slice AX1 nX1 cX1, .slice AX2 nX2 cX2]]) Tryz.func64 (by kernel_rfl) (by kernel_rfl) (by rfl) (fun x v hv => minus81 400 v (.agg #[.bool sX, .slice AX1 nX1 cX1, .slice AX2 nX2 cX2]) (frQ (f k) 1) (meanQ f n) x.w (by omega) HE'.out.1 HE'.out.2.2.1 hv (FX.below (hzz x))) (fun v => by simp only [Act.put, List.setIfInBounds_toArray, List.set_cons_succ, List.set_cons_zero]; rfl) (by simp only [Act.put, List.setIfInBounds_toArray, List.set_cons_succ, List.set_cons_zero]; rfl) ?_
      simp only [List.nil_append, List.cons_append, Option.getD_some]
      refine wpQuiet_nil ?_
      refine late_alloc (fun _ _ => by kernel_rfl) (fun x => Nat.le_trans hbd.size x.h.size) (by simp only [Act.put, List.setIfInBounds_toArray, List.set_cons_succ, List.set_cons_zero]; rfl) ?_
      refine wpQuiet_nil ?_
      intro x
      simp only [List.nil_append, List.cons_append, allGens, Option.getD_some]
      rintro r0 hr0 r1 hr1 vp ⟨bD, rfl, hdbD, gdbD⟩
      simp only [Act.put, List.setIfInBounds_toArray, List.set_cons_succ, List.set_cons_zero]
      obtain ⟨sR, AR1, nR1, cR1, AR2, nR2, cR2, rfl, FR⟩ := FrR.sh hr1
      have hJ := (hI.fresh (hzz x) hdbD gdbD).fill FR
      have y1 := cells3 gdbD
      have y2 := free_of_block gdbD
      have y3 := y1.1
      clear hI FR hr0 hr1 zX0 zX1 zX2 ze GX FX hzz gdbD hdbD
      generalize x.w = wy at *
      clear y3
      go_upto_region 6 with fail
      generalize ((wy.setCell ⟨bD, 0, none⟩ (.bool sR)).setCell ⟨bD, 1, none⟩ (.slice AR1 nR1 cR1)).setCell ⟨bD, 2, none⟩ (.slice AR2 nR2 cR2) = w5 at *
      clear y1 y2
      have hbd : Below w5.heap.size w5 w5.drew := (Below.refl _ _).drew
      have hzz : ∀ x : Beh LeW w5.drew, Below w5.heap.size w5 x.w := fun x => below_trans' hbd hbd.size x.h
      obtain ⟨sY, AY1, nY1, cY1, AY2, nY2, cY2, GY, FY⟩ := hJ.at NY (meanQ g n) (by simp)
      have zY0 := fun x : Beh LeW w5.drew => (cells3 (blk_below (hzz x) GY)).1
      have zY1 := fun x : Beh LeW w5.drew => (cells3 (blk_below (hzz x) GY)).2.1
      have zY2 := fun x : Beh LeW w5.drew => (cells3 (blk_below (hzz x) GY)).2.2
      have ze := fun x : Beh LeW w5.drew => (HCell.out x.w (below_trans' hJ.below hJ.below.size (hzz x))).2
      refine wp_region_late (R := LeW) 8 47 [(4, [], some (frG (frQ (g k) 1))), (6, [33], some (frG (frQ (g k) 1 - meanQ g n))), (7, [], some (fresh w5.heap.size #[.bool false, .slice none 0 0, .slice none 0 0] 57))] (by kernel_rfl) (by kernel_rfl) (by kernel_rfl) rfl LeW.refl (fun _ _ _ => LeW.trans) ?_
      simp only [Late, List.take_succ_cons, List.drop_succ_cons, List.take_zero, List.drop_zero, Nat.reduceSub, Nat.reduceAdd, Nat.sub_zero]
      repeat (go_big_quiet_step (fail))
      refine wpQuiet_nil ?_
      refine late_fr Tryz.func30 (by kernel_rfl) (by kernel_rfl) (fun x => num30 (g k) x.w (by have := HE.out.1.2; omega) (by have := HE.out.1.2; omega)) rfl (by simp only [Act.put, List.setIfInBounds_toArray, List.set_cons_succ, List.set_cons_zero]; rfl) ?_
      simp only [List.nil_append, Option.getD_some]
      repeat (go_big_quiet_step (fail))
      refine wpQuiet_nil ?_
      refine late_fr1 [] (fun v => #[v, .agg #[.bool sY, .slice AY1 nY1 cY1, .slice AY2 nY2 cY2]]) Tryz.func64 (by kernel_rfl) (by kernel_rfl) (by rfl) (fun x v hv => minus81 400 v (.agg #[.bool sY, .slice AY1 nY1 cY1, .slice AY2 nY2 cY2]) (frQ (g k) 1) (meanQ g n) x.w (by omega) HE'.out.2.1 HE'.out.2.2.2.1 hv (FY.below (hzz x))) (fun v => by simp only [Act.put, List.setIfInBounds_toArray, List.set_cons_succ, List.set_cons_zero]; rfl) (by simp only [Act.put, List.setIfInBounds_toArray, List.set_cons_succ, List.set_cons_zero]; rfl) ?_
      simp only [List.nil_append, List.cons_append, Option.getD_some]
      refine wpQuiet_nil ?_
      refine late_alloc (fun _ _ => by kernel_rfl) (fun x => Nat.le_trans hbd.size x.h.size) (by simp only [Act.put, List.setIfInBounds_toArray, List.set_cons_succ, List.set_cons_zero]; rfl) ?_
      refine wpQuiet_nil ?_
      intro x
      simp only [List.nil_append, List.cons_append, allGens, Option.getD_some]
      rintro r0 hr0 r1 hr1 vp ⟨bE, rfl, hdbE, gdbE⟩
      simp only [Act.put, List.setIfInBounds_toArray, List.set_cons_succ, List.set_cons_zero]
      obtain ⟨sR, AR1, nR1, cR1, AR2, nR2, cR2, rfl, FR⟩ := FrR.sh hr1
      have hK := (hJ.fresh (hzz x) hdbE gdbE).fill FR
      have y1 := cells3 gdbE
      have y2 := free_of_block gdbE
      have y3 := y1.1
      clear hJ FR hr0 hr1 zY0 zY1 zY2 ze GY FY hzz gdbE hdbE
      generalize x.w = wy at *
      clear y3
      go_upto_region 7 with fail
      generalize ((wy.setCell ⟨bE, 0, none⟩ (.bool sR)).setCell ⟨bE, 1, none⟩ (.slice AR1 nR1 cR1)).setCell ⟨bE, 2, none⟩ (.slice AR2 nR2 cR2) = w6 at *
      clear y1 y2
      have hbd : Below w6.heap.size w6 w6.drew := (Below.refl _ _).drew
      have hzz : ∀ x : Beh LeW w6.drew, Below w6.heap.size w6 x.w := fun x => below_trans' hbd hbd.size x.h
      obtain ⟨sS, AS1, nS1, cS1, AS2, nS2, cS2, GS, FS⟩ := hK.at NS (scQ f g n k) (by simp)
      have zS0 := fun x : Beh LeW w6.drew => (cells3 (blk_below (hzz x) GS)).1
      have zS1 := fun x : Beh LeW w6.drew => (cells3 (blk_below (hzz x) GS)).2.1
      have zS2 := fun x : Beh LeW w6.drew => (cells3 (blk_below (hzz x) GS)).2.2
      obtain ⟨sD, AD1, nD1, cD1, AD2, nD2, cD2, GD, FD⟩ := hK.at bD (frQ (f k) 1 - meanQ f n) (by simp)
      have zD0 := fun x : Beh LeW w6.drew => (cells3 (blk_below (hzz x) GD)).1
      have zD1 := fun x : Beh LeW w6.drew => (cells3 (blk_below (hzz x) GD)).2.1
      have zD2 := fun x : Beh LeW w6.drew => (cells3 (blk_below (hzz x) GD)).2.2
      obtain ⟨sE, AE1, nE1, cE1, AE2, nE2, cE2, GE, FE⟩ := hK.at bE (frQ (g k) 1 - meanQ g n) (by simp)
      have zE0 := fun x : Beh LeW w6.drew => (cells3 (blk_below (hzz x) GE)).1
      have zE1 := fun x : Beh LeW w6.drew => (cells3 (blk_below (hzz x) GE)).2.1
      have zE2 := fun x : Beh LeW w6.drew => (cells3 (blk_below (hzz x) GE)).2.2
      refine wp_region_late (R := LeW) 5 47 [(3, [], some (frG ((frQ (f k) 1 - meanQ f n) * (frQ (g k) 1 - meanQ g n)))), (4, [39], some (frG (scQ f g n k + (frQ (f k) 1 - meanQ f n) * (frQ (g k) 1 - meanQ g n))))] (by kernel_rfl) (by kernel_rfl) (by kernel_rfl) rfl LeW.refl (fun _ _ _ => LeW.trans) ?_
      simp only [Late, List.take_succ_cons, List.drop_succ_cons, List.take_zero, List.drop_zero, Nat.reduceSub, Nat.reduceAdd, Nat.sub_zero]
      repeat (go_big_quiet_step (fail))
      refine wpQuiet_nil ?_
      refine late_fr Tryz.func52 (by kernel_rfl) (by kernel_rfl) (fun x => times68 400 (.agg #[.bool sD, .slice AD1 nD1 cD1, .slice AD2 nD2 cD2]) (.agg #[.bool sE, .slice AE1 nE1 cE1, .slice AE2 nE2 cE2]) _ _ x.w (by omega) HE'.out.2.2.2.2.1 HE'.out.2.2.2.2.2.1 (FD.below (hzz x)) (FE.below (hzz x))) rfl (by simp only [Act.put, List.setIfInBounds_toArray, List.set_cons_succ, List.set_cons_zero]; rfl) ?_
      simp only [List.nil_append, Option.getD_some]
      refine wpQuiet_nil ?_
      refine late_fr1 [] (fun v => #[.agg #[.bool sS, .slice AS1 nS1 cS1, .slice AS2 nS2 cS2], v]) Tryz.func65 (by kernel_rfl) (by kernel_rfl) (by rfl) (fun x v hv => plus78 400 (.agg #[.bool sS, .slice AS1 nS1 cS1, .slice AS2 nS2 cS2]) v _ _ x.w (by omega) HE'.out.2.2.2.2.2.2.2 HE'.out.2.2.2.2.2.2.1 (FS.below (hzz x)) hv) (fun v => by simp only [Act.put, List.setIfInBounds_toArray, List.set_cons_succ, List.set_cons_zero]; rfl) (by simp only [Act.put, List.setIfInBounds_toArray, List.set_cons_succ, List.set_cons_zero]; rfl) ?_
      simp only [List.nil_append, List.cons_append, Option.getD_some]
      refine wpQuiet_nil ?_
      intro x
      simp only [allGens]
      rintro r0 hr0 r1 hr1
      simp only [Act.put, List.setIfInBounds_toArray, List.set_cons_succ, List.set_cons_zero]
      obtain ⟨sR, AR1, nR1, cR1, AR2, nR2, cR2, rfl, FR⟩ := FrR.sh hr1
      have hM := (hK.go (hzz x)).set (L1 := [(NX, meanQ f n), (NY, meanQ g n)]) (L2 := [(bD, frQ (f k) 1 - meanQ f n), (bE, frQ (g k) 1 - meanQ g n)]) FR
      have y1 := cells3 (blk_below (hzz x) GS)
      have y2 := free_of_block (blk_below (hzz x) GS)
      have y3 := y1.1
      clear hK FR hr0 hr1 zS0 zS1 zS2 zD0 zD1 zD2 zE0 zE1 zE2 GS FS GD FD GE FE hzz 
      generalize x.w = wy at *
      clear y3
      go_wp2_with fail
      generalize ((wy.setCell ⟨NS, 0, none⟩ (.bool sR)).setCell ⟨NS, 1, none⟩ (.slice AR1 nR1 cR1)).setCell ⟨NS, 2, none⟩ (.slice AR2 nR2 cR2) = w7 at *
      clear y1 y2
      rw [← HE.out.2] at hM
      go_roundg (n - (k + 1))
      case measure => have := HR.out; omega
      case rel => exact ⟨k + 1, by omega, rfl, by go_num, FI.front (L1 := [(NX, meanQ f n), (NY, meanQ g n), (NS, scQ f g n (k + 1))]) (L2 := [(bD, frQ (f k) 1 - meanQ f n), (bE, frQ (g k) 1 - meanQ g n)]) hM⟩
    · have hkn' : k = n := by omega
      subst hkn'
      have x1 : IntKind.i64.wrap ((k : Int) - 1) = (k : Int) - 1 := IntWalk.i64_in _ (by omega)
      have E1 := rs_of (scQ_E2 HF.out HG.out (by omega) (Nat.le_refl k)) (by omega) (by omega)
      have E2 := rs_of (n1_E2 hn5 h2) (by omega) (by omega)
      have E3 := n1_ne h2
      have E4 := cov_ref (f := f) (g := g) h2
      have HE := Lib.hid (And.intro E1 (And.intro E2 (And.intro E3 E4)))
      clear E1 E2 E3 E4
      go_upto_region 8 with fail
      have hbd : Below wr.heap.size wr wr.drew := (Below.refl _ _).drew
      have hzz : ∀ x : Beh LeW wr.drew, Below wr.heap.size wr x.w := fun x => below_trans' hbd hbd.size x.h
      obtain ⟨sS, AS1, nS1, cS1, AS2, nS2, cS2, GS, FS⟩ := hI.at NS (scQ f g k k) (by simp)
      have zS0 := fun x : Beh LeW wr.drew => (cells3 (blk_below (hzz x) GS)).1
      have zS1 := fun x : Beh LeW wr.drew => (cells3 (blk_below (hzz x) GS)).2.1
      have zS2 := fun x : Beh LeW wr.drew => (cells3 (blk_below (hzz x) GS)).2.2
      refine wp_region_late (R := LeW) 6 47 [(4, [], some (frG (frQ ((k : Int) - 1) 1))), (5, [45], some (frG (scQ f g k k / frQ ((k : Int) - 1) 1)))] (by kernel_rfl) (by kernel_rfl) (by kernel_rfl) rfl LeW.refl (fun _ _ _ => LeW.trans) ?_
      simp only [Late, List.take_succ_cons, List.drop_succ_cons, List.take_zero, List.drop_zero, Nat.reduceSub, Nat.reduceAdd, Nat.sub_zero]
      repeat (go_big_quiet_step (fail))
      refine wpQuiet_nil ?_
      refine late_fr Tryz.func30 (by kernel_rfl) (by kernel_rfl) (fun x => num30 ((k : Int) - 1) x.w (by omega) (by omega)) rfl (by simp only [Act.put, List.setIfInBounds_toArray, List.set_cons_succ, List.set_cons_zero]; rfl) ?_
      simp only [List.nil_append, Option.getD_some]
      refine wpQuiet_nil ?_
      refine late_fr1 [] (fun v => #[.agg #[.bool sS, .slice AS1 nS1 cS1, .slice AS2 nS2 cS2], v]) Tryz.func28 (by kernel_rfl) (by kernel_rfl) (by rfl) (fun x v hv => over83 400 (.agg #[.bool sS, .slice AS1 nS1 cS1, .slice AS2 nS2 cS2]) v (scQ f g k k) (frQ ((k : Int) - 1) 1) x.w (by omega) HE.out.2.2.1 HE.out.1 HE.out.2.1 (FS.below (hzz x)) hv) (fun v => by simp only [Act.put, List.setIfInBounds_toArray, List.set_cons_succ, List.set_cons_zero]; rfl) (by simp only [Act.put, List.setIfInBounds_toArray, List.set_cons_succ, List.set_cons_zero]; rfl) ?_
      simp only [List.nil_append, List.cons_append, Option.getD_some]
      refine wpQuiet_nil ?_
      intro x
      simp only [allGens]
      rintro r0 hr0 r1 hr1
      simp only [Act.put, List.setIfInBounds_toArray, List.set_cons_succ, List.set_cons_zero]
      obtain ⟨sR, AR1, nR1, cR1, AR2, nR2, cR2, rfl, FR⟩ := FrR.sh hr1
      rw [HE.out.2.2.2] at FR
      have hT := ((hI.go (hzz x)).ob _ (List.mem_cons_self ..))
      have hbe := below_set3 (hI.go (hzz x)).below hT.1 (.bool sR) (.slice AR1 nR1 cR1) (.slice AR2 nR2 cR2)
      have FR2 := FR.put hT.2 (.bool sR) (.slice AR1 nR1 cR1) (.slice AR2 nR2 cR2)
      obtain ⟨u0, u1, u2⟩ := cells3 (sets3 hT.2 (.bool sR) (.slice AR1 nR1 cR1) (.slice AR2 nR2 cR2)).1
      have y1 := cells3 hT.2
      have y2 := free_of_block hT.2
      clear hI FR hr0 hr1 hzz GS FS zS0 zS1 zS2 hT hbd
      generalize x.w = wy at *
      go_wp2_with fail
      exact bodyPost_ret (v := .agg #[.bool sR, .slice AR1 nR1 cR1, .slice AR2 nR2 cR2]) (by simp [results, Tryz.results29, go_sem, u0, u1, u2]) rfl ⟨_, rfl, FR2, hbe⟩

theorem tx_V {X Y : ByteArray} {x : Rat} (h : Tx X Y x) : txV (wrR x) = .tuple #[.agg #[.string X, .string Y], .bool true] := by
  obtain ⟨A, B, e, h'⟩ := txV_tx h.1
  obtain ⟨rfl, rfl⟩ := h.inj h'
  exact e
theorem write_tx {f : Value} {x : Rat} {X Y : ByteArray} {w : World} (a : RS 400 x) (h : FrR w f x) (t : Tx X Y x) :
    Calls Tryz.prog 57 #[f] w fun e w' => e = .returned (.tuple #[.agg #[.string X, .string Y], .bool true]) ∧ Below w.heap.size w w' := by
  have := write72 400 f x w (by omega) (by omega) a h
  rw [tx_V t] at this
  exact this
structure FitB (o : Bool) (f : Nat → Int) (n : Nat) : Prop where
  out : o = true ↔ Fit f n
theorem fit_or (f : Nat → Int) (n : Nat) : ∃ o : Bool, FitB o f n := by
  by_cases h : Fit f n
  · exact ⟨true, ⟨by simp [h]⟩⟩
  · exact ⟨false, ⟨by simp [h]⟩⟩
theorem fits_at {A : Option Addr} {n c : Nat} {f : Nat → Int} {o : Bool} (ho : FitB o f n) {w : World} (hl : IntsV w A n c f) : Calls Tryz.prog 25 #[.slice A n c] w fun e w' => e = .returned (.bool o) ∧ w = w' := fits25 A n c f o w hl ho.out

set_option maxRecDepth 100000 in
set_option maxHeartbeats 4000000 in
theorem mean16 (A : Option Addr) (n c : Nat) (f : Nat → Int) (X Y : ByteArray) (w : World) (hl : IntsV w A n c f) (hf : Fit f n) (h1 : 1 ≤ n) (hT : Tx X Y (meanQ f n)) :
    Calls Tryz.prog 16 #[.slice A n c] w fun e w' => e = .returned (.tuple #[.agg #[.string X, .string Y], .bool true]) ∧ Below w.heap.size w w' := by
  have g0 := heap_alloc_new w (.cells #[.string ⟨#[]⟩, .string ⟨#[]⟩] 26)
  have hbW := below_alloc w #[.string ⟨#[]⟩, .string ⟨#[]⟩] 26
  have hl1 := hl.below hbW
  have HF := Lib.hid hf
  have HO := Lib.hid (show FitB true f n from ⟨⟨fun _ => hf, fun _ => rfl⟩⟩)
  have hn0 : ((n : Int) == 0) = false := by rw [beq_eq_false_iff_ne]; omega
  have HT := Lib.hid (And.intro (rs_of (mean_E2 hf h1) (by omega) (by omega)) hT)
  clear hf hT hl
  go_enter Tryz.func16, Tryz.ntmps16
  go_wp2_with fail
  generalize w.alloc (.cells #[.string ⟨#[]⟩, .string ⟨#[]⟩] 26) = W at *
  refine (fits_at HO.out hl1).mono ?_
  rintro e w' ⟨rfl, rfl⟩
  go_wp2_with fail
  refine (mean27 _ n c f _ hl1 HF.out h1).mono ?_
  rintro e w1 ⟨v, rfl, hv, b1⟩
  go_wp2_with fail
  refine (write_tx HT.out.1 hv HT.out.2).mono ?_
  rintro e w2 ⟨rfl, b2⟩
  have b3 := below_trans' b1 b1.size b2
  have G := blk_below b3 g0
  have z0 := free_of_block G
  have z1 := cells2 G
  obtain ⟨y0, y1⟩ := ret2 (A := X) (B := Y) G
  have hbe := below_sets2 (below_trans' hbW hbW.size b3) (Nat.le_refl _) (.string X) (.string Y)
  clear b1 b2 b3 hv hl1 hbW g0 G
  go_wp2_with fail
  exact bodyPost_ret (v := .tuple #[.agg #[.string X, .string Y], .bool true]) (by simp [results, Tryz.results16, go_sem, y0, y1]) rfl ⟨rfl, hbe⟩

set_option maxRecDepth 100000 in
set_option maxHeartbeats 4000000 in
theorem mean16_bad (A : Option Addr) (n c : Nat) (f : Nat → Int) (w : World) (hl : IntsV w A n c f) (hbad : ¬ (1 ≤ n ∧ Fit f n)) :
    Calls Tryz.prog 16 #[.slice A n c] w fun e w' => e = .returned (.tuple #[.agg #[.string ⟨#[]⟩, .string ⟨#[]⟩], .bool false]) ∧ Below w.heap.size w w' := by
  have g0 := heap_alloc_new w (.cells #[.string ⟨#[]⟩, .string ⟨#[]⟩] 26)
  have hbW := below_alloc w #[.string ⟨#[]⟩, .string ⟨#[]⟩] 26
  have hl1 := hl.below hbW
  obtain ⟨o, ho⟩ := fit_or f n
  have HO := Lib.hid ho
  have z0 := free_of_block g0
  have z1 := cells2 g0
  obtain ⟨y0, y1⟩ := ret2 (A := ⟨#[]⟩) (B := ⟨#[]⟩) g0
  have hbe := below_sets2 hbW (Nat.le_refl _) (.string ⟨#[]⟩) (.string ⟨#[]⟩)
  clear hbW hl
  cases o with
  | false =>
    clear hbad
    go_enter Tryz.func16, Tryz.ntmps16
    go_wp2_with fail
    generalize w.alloc (.cells #[.string ⟨#[]⟩, .string ⟨#[]⟩] 26) = W at *
    refine (fits_at HO.out hl1).mono ?_
    rintro e w' ⟨rfl, rfl⟩
    go_wp2_with fail
    exact bodyPost_ret (v := .tuple #[.agg #[.string ⟨#[]⟩, .string ⟨#[]⟩], .bool false]) (by simp [results, Tryz.results16, go_sem, y0, y1]) rfl ⟨rfl, hbe⟩
  | true =>
    have hn0 : ((n : Int) == 0) = true := by
      have : ¬ 1 ≤ n := fun h => hbad ⟨h, ho.out.1 rfl⟩
      simp; omega
    clear hbad
    go_enter Tryz.func16, Tryz.ntmps16
    go_wp2_with fail
    generalize w.alloc (.cells #[.string ⟨#[]⟩, .string ⟨#[]⟩] 26) = W at *
    refine (fits_at HO.out hl1).mono ?_
    rintro e w' ⟨rfl, rfl⟩
    go_wp2_with fail
    exact bodyPost_ret (v := .tuple #[.agg #[.string ⟨#[]⟩, .string ⟨#[]⟩], .bool false]) (by simp [results, Tryz.results16, go_sem, y0, y1]) rfl ⟨rfl, hbe⟩

set_option maxRecDepth 100000 in
set_option maxHeartbeats 4000000 in
theorem cov18 (A B : Option Addr) (n ca cb : Nat) (f g : Nat → Int) (X Y : ByteArray) (w : World) (hl : IntsV w A n ca f) (hm : IntsV w B n cb g) (hf : Fit f n) (hg : Fit g n) (h2 : 2 ≤ n) (hT : Tx X Y (covQ f g n)) :
    Calls Tryz.prog 18 #[.slice A n ca, .slice B n cb] w fun e w' => e = .returned (.tuple #[.agg #[.string X, .string Y], .bool true]) ∧ Below w.heap.size w w' := by
  have g0 := heap_alloc_new w (.cells #[.string ⟨#[]⟩, .string ⟨#[]⟩] 26)
  have hbW := below_alloc w #[.string ⟨#[]⟩, .string ⟨#[]⟩] 26
  have hl1 := hl.below hbW
  have hm1 := hm.below hbW
  have HO := Lib.hid (show FitB true f n from ⟨⟨fun _ => hf, fun _ => rfl⟩⟩)
  have HO' := Lib.hid (show FitB true g n from ⟨⟨fun _ => hg, fun _ => rfl⟩⟩)
  have HC := Lib.hid (fun w hl hm => covr29 A B n ca cb f g w hl hm hf hg h2)
  have HT := Lib.hid (And.intro (rs_of (cov_E2 hf hg h2) (by omega) (by omega)) hT)
  have hn2 : (2 : Int) ≤ n := by omega
  clear hf hT hl hg hm h2
  go_enter Tryz.func18, Tryz.ntmps18
  go_wp2_with fail
  generalize w.alloc (.cells #[.string ⟨#[]⟩, .string ⟨#[]⟩] 26) = W at *
  refine (fits_at HO.out hl1).mono ?_
  rintro e w' ⟨rfl, rfl⟩
  go_wp2_with fail
  refine (fits_at HO'.out hm1).mono ?_
  rintro e w' ⟨rfl, rfl⟩
  go_wp2_with fail
  refine (HC.out _ hl1 hm1).mono ?_
  rintro e w1 ⟨v, rfl, hv, b1⟩
  go_wp2_with fail
  refine (write_tx HT.out.1 hv HT.out.2).mono ?_
  rintro e w2 ⟨rfl, b2⟩
  have b3 := below_trans' b1 b1.size b2
  have G := blk_below b3 g0
  have z0 := free_of_block G
  have z1 := cells2 G
  obtain ⟨y0, y1⟩ := ret2 (A := X) (B := Y) G
  have hbe := below_sets2 (below_trans' hbW hbW.size b3) (Nat.le_refl _) (.string X) (.string Y)
  clear b1 b2 b3 hv hl1 hm1 hbW g0 G
  go_wp2_with fail
  exact bodyPost_ret (v := .tuple #[.agg #[.string X, .string Y], .bool true]) (by simp [results, Tryz.results18, go_sem, y0, y1]) rfl ⟨rfl, hbe⟩

set_option maxRecDepth 100000 in
set_option maxHeartbeats 8000000 in
theorem cov18_bad (A B : Option Addr) (n m ca cb : Nat) (f g : Nat → Int) (w : World) (hl : IntsV w A n ca f) (hm : IntsV w B m cb g) (hbad : ¬ (m = n ∧ 2 ≤ n ∧ Fit f n ∧ Fit g n)) :
    Calls Tryz.prog 18 #[.slice A n ca, .slice B m cb] w fun e w' => e = .returned (.tuple #[.agg #[.string ⟨#[]⟩, .string ⟨#[]⟩], .bool false]) ∧ Below w.heap.size w w' := by
  have g0 := heap_alloc_new w (.cells #[.string ⟨#[]⟩, .string ⟨#[]⟩] 26)
  have hbW := below_alloc w #[.string ⟨#[]⟩, .string ⟨#[]⟩] 26
  have hl1 := hl.below hbW
  have hm1 := hm.below hbW
  obtain ⟨o, ho⟩ := fit_or f n
  obtain ⟨o', ho'⟩ := fit_or g m
  have HO := Lib.hid ho
  have HO' := Lib.hid ho'
  have z0 := free_of_block g0
  have z1 := cells2 g0
  obtain ⟨y0, y1⟩ := ret2 (A := ⟨#[]⟩) (B := ⟨#[]⟩) g0
  have hbe := below_sets2 hbW (Nat.le_refl _) (.string ⟨#[]⟩) (.string ⟨#[]⟩)
  have HB := Lib.hid hbad
  clear hbW hl hm hbad ho ho'
  cases o with
  | false =>
    go_enter Tryz.func18, Tryz.ntmps18
    go_wp2_with fail
    generalize w.alloc (.cells #[.string ⟨#[]⟩, .string ⟨#[]⟩] 26) = W at *
    refine (fits_at HO.out hl1).mono ?_
    rintro e w' ⟨rfl, rfl⟩
    go_wp2_with fail
    exact bodyPost_ret (v := .tuple #[.agg #[.string ⟨#[]⟩, .string ⟨#[]⟩], .bool false]) (by simp [results, Tryz.results18, go_sem, y0, y1]) rfl ⟨rfl, hbe⟩
  | true =>
    cases o' with
    | false =>
      go_enter Tryz.func18, Tryz.ntmps18
      go_wp2_with fail
      generalize w.alloc (.cells #[.string ⟨#[]⟩, .string ⟨#[]⟩] 26) = W at *
      refine (fits_at HO.out hl1).mono ?_
      rintro e w' ⟨rfl, rfl⟩
      go_wp2_with fail
      refine (fits_at HO'.out hm1).mono ?_
      rintro e w' ⟨rfl, rfl⟩
      go_wp2_with fail
      exact bodyPost_ret (v := .tuple #[.agg #[.string ⟨#[]⟩, .string ⟨#[]⟩], .bool false]) (by simp [results, Tryz.results18, go_sem, y0, y1]) rfl ⟨rfl, hbe⟩
    | true =>
      by_cases hne : m = n
      · subst hne
        have hn2 : (m : Int) < 2 := by
          have : ¬ 2 ≤ m := fun h => HB.out ⟨rfl, h, HO.out.out.1 rfl, HO'.out.out.1 rfl⟩
          omega
        go_enter Tryz.func18, Tryz.ntmps18
        go_wp2_with fail
        generalize w.alloc (.cells #[.string ⟨#[]⟩, .string ⟨#[]⟩] 26) = W at *
        refine (fits_at HO.out hl1).mono ?_
        rintro e w' ⟨rfl, rfl⟩
        go_wp2_with fail
        refine (fits_at HO'.out hm1).mono ?_
        rintro e w' ⟨rfl, rfl⟩
        go_wp2_with fail
        exact bodyPost_ret (v := .tuple #[.agg #[.string ⟨#[]⟩, .string ⟨#[]⟩], .bool false]) (by simp [results, Tryz.results18, go_sem, y0, y1]) rfl ⟨rfl, hbe⟩
      · have hnf : ¬ (n : Int) = (m : Int) := by omega
        clear hne
        go_enter Tryz.func18, Tryz.ntmps18
        go_wp2_with fail
        generalize w.alloc (.cells #[.string ⟨#[]⟩, .string ⟨#[]⟩] 26) = W at *
        refine (fits_at HO.out hl1).mono ?_
        rintro e w' ⟨rfl, rfl⟩
        go_wp2_with fail
        refine (fits_at HO'.out hm1).mono ?_
        rintro e w' ⟨rfl, rfl⟩
        go_wp2_with fail
        exact bodyPost_ret (v := .tuple #[.agg #[.string ⟨#[]⟩, .string ⟨#[]⟩], .bool false]) (by simp [results, Tryz.results18, go_sem, y0, y1]) rfl ⟨rfl, hbe⟩

set_option maxRecDepth 100000 in
set_option maxHeartbeats 4000000 in
theorem est26 (n : Int) (f g : Value) (x y : Rat) (X Y V W : ByteArray) (w : World) (hx : RS 400 x) (hy : RS 400 y) (h1 : FrR w f x) (h2 : FrR w g y) (t1 : Tx X Y x) (t2 : Tx V W y) :
    Calls Tryz.prog 26 #[.int .i64 n, f, g] w fun e w' => e = .returned (.tuple #[estV n X Y V W, .bool true]) ∧ Below w.heap.size w w' := by
  obtain ⟨s1, A1, n1, c1, A2, n2, c2, rfl, f1⟩ := FrR.sh h1
  obtain ⟨s2, A3, n3, c3, A4, n4, c4, rfl, f2⟩ := FrR.sh h2
  obtain ⟨hbW, g0, g1, g2⟩ := allocs3 w #[.bool s1, .slice A1 n1 c1, .slice A2 n2 c2] #[.bool s2, .slice A3 n3 c3, .slice A4 n4 c4] #[.int .i64 0, .string ⟨#[]⟩, .string ⟨#[]⟩, .string ⟨#[]⟩, .string ⟨#[]⟩] 57 57 28
  have f1' := f1.below hbW
  have f2' := f2.below hbW
  have z0 := cells3 g0
  have HT := Lib.hid (And.intro (And.intro hx hy) (And.intro t1 t2))
  clear hx hy t1 t2 h1 h2 f1 f2
  go_enter Tryz.func26, Tryz.ntmps26
  go_wp2_with fail
  generalize ((w.alloc (.cells #[.bool s1, .slice A1 n1 c1, .slice A2 n2 c2] 57)).alloc (.cells #[.bool s2, .slice A3 n3 c3, .slice A4 n4 c4] 57)).alloc (.cells #[.int .i64 0, .string ⟨#[]⟩, .string ⟨#[]⟩, .string ⟨#[]⟩, .string ⟨#[]⟩] 28) = W0 at *
  refine (write_tx HT.out.1.1 f1' HT.out.2.1).mono ?_
  rintro e w1 ⟨rfl, b1⟩
  have b2 := below_alloc w1 #[.string X, .string Y] 26
  have b3 := below_trans' b1 b1.size b2
  have p0 := heap_alloc_new w1 (.cells #[.string X, .string Y] 26)
  have z1 := cells3 (blk_below b3 g1)
  have f2'' := f2'.below b3
  have hlt := lt_of_blk (blk_below b1 g2)
  clear z0 f1' f2'
  go_wp2_with fail
  generalize w1.alloc (.cells #[.string X, .string Y] 26) = W1 at *
  refine (write_tx HT.out.1.2 f2'' HT.out.2.2).mono ?_
  rintro e w2 ⟨rfl, b4⟩
  have b5 := below_alloc w2 #[.string V, .string W] 26
  have b6 := below_trans' b4 b4.size b5
  have b7 := below_trans' b3 b3.size b6
  have p1 := cells2 (blk_below b6 p0)
  have p2 := cells2 (heap_alloc_new w2 (.cells #[.string V, .string W] 26))
  have G := blk_below b7 g2
  have z2 := free_of_block G
  have z3 := cells5 G
  obtain ⟨y0, y1, y2, y3, y4⟩ := cells5 (set5 G (.int .i64 n) (.string X) (.string Y) (.string V) (.string W))
  have hbe := below_sets5 (below_trans' hbW hbW.size b7) (show w.heap.size ≤ w.heap.size + 1 + 1 by omega) (.int .i64 n) (.string X) (.string Y) (.string V) (.string W)
  clear b1 b2 b3 b4 b5 b6 b7 z1 f2'' g0 g1 g2 G hbW p0 hlt
  go_wp2_with fail
  exact bodyPost_ret (v := .tuple #[estV n X Y V W, .bool true]) (by simp [results, Tryz.results26, go_sem, y0, y1, y2, y3, y4]) rfl ⟨rfl, hbe⟩

set_option maxRecDepth 100000 in
set_option maxHeartbeats 4000000 in
theorem of7 (A : Option Addr) (n c : Nat) (f : Nat → Int) (X Y V W : ByteArray) (w : World) (hl : IntsV w A n c f) (hf : Fit f n) (h2 : 2 ≤ n) (hT : Tx X Y (meanQ f n)) (hU : Tx V W (varQ f n)) :
    Calls Tryz.prog 7 #[.slice A n c] w fun e w' => e = .returned (.tuple #[estV n X Y V W, .bool true]) ∧ Below w.heap.size w w' := by
  have g0 := heap_alloc_new w (.cells #[.int .i64 0, .string ⟨#[]⟩, .string ⟨#[]⟩, .string ⟨#[]⟩, .string ⟨#[]⟩] 28)
  have hbW := below_alloc w #[.int .i64 0, .string ⟨#[]⟩, .string ⟨#[]⟩, .string ⟨#[]⟩, .string ⟨#[]⟩] 28
  have hl1 := hl.below hbW
  have hn5 := hf.1
  have HO := Lib.hid (show FitB true f n from ⟨⟨fun _ => hf, fun _ => rfl⟩⟩)
  have HM := Lib.hid (fun w hl => mean27 A n c f w hl hf (by omega))
  have HC := Lib.hid (fun w hl => covr29 A A n c c f f w hl hl hf hf h2)
  have HN := Lib.hid (fun w => num30 n w (by omega) (by omega))
  have HD := Lib.hid (fun w (v u : Value) h g => over83 400 v u (covQ f f n) (frQ n 1) w (by omega) (fr_ne (by omega) (by decide)) (rs_of (cov_E2 hf hf h2) (by omega) (by omega)) (rs_of (n_E2 hn5) (by omega) (by omega)) h g)
  have HT := Lib.hid (And.intro (And.intro (rs_of (mean_E2 hf (by omega)) (by omega) (by omega)) (rs_of (var_E2 hf h2) (by omega) (by omega))) (And.intro hT hU))
  have hn2 : (2 : Int) ≤ n := by omega
  clear hf hT hU hl h2 hn5
  go_enter Tryz.func7, Tryz.ntmps7
  go_wp2_with fail
  generalize w.alloc (.cells #[.int .i64 0, .string ⟨#[]⟩, .string ⟨#[]⟩, .string ⟨#[]⟩, .string ⟨#[]⟩] 28) = W0 at *
  refine (fits_at HO.out hl1).mono ?_
  rintro e w' ⟨rfl, rfl⟩
  go_wp2_with fail
  refine (HM.out _ hl1).mono ?_
  rintro e w1 ⟨v1, rfl, hv1, b1⟩
  go_wp2_with fail
  refine (HC.out _ (hl1.below b1)).mono ?_
  rintro e w2 ⟨v2, rfl, hv2, b2⟩
  go_wp2_with fail
  refine (HN.out _).mono ?_
  rintro e w3 ⟨v3, rfl, hv3, b3⟩
  go_wp2_with fail
  refine (HD.out _ _ _ (hv2.below b3) hv3).mono ?_
  rintro e w4 ⟨v4, rfl, hv4, b4⟩
  go_wp2_with fail
  have b34 := below_trans' b3 b3.size b4
  have b24 := below_trans' b2 b2.size b34
  refine (est26 n v1 v4 _ _ X Y V W w4 HT.out.1.1 HT.out.1.2 (hv1.below b24) hv4 HT.out.2.1 HT.out.2.2).mono ?_
  rintro e w5 ⟨rfl, b5⟩
  have b14 := below_trans' b1 b1.size b24
  have b15 := below_trans' b14 b14.size b5
  have G := blk_below b15 g0
  have z0 := free_of_block G
  have z1 := cells5 G
  obtain ⟨y0, y1, y2, y3, y4⟩ := cells5 (set5 G (.int .i64 n) (.string X) (.string Y) (.string V) (.string W))
  have hbe := below_sets5 (below_trans' hbW hbW.size b15) (Nat.le_refl _) (.int .i64 n) (.string X) (.string Y) (.string V) (.string W)
  clear b1 b2 b3 b4 b5 b34 b24 b14 b15 hv1 hv2 hv3 hv4 hl1 hbW g0 G
  go_wp2_with fail
  exact bodyPost_ret (v := .tuple #[estV n X Y V W, .bool true]) (by simp [results, Tryz.results7, go_sem, y0, y1, y2, y3, y4]) rfl ⟨rfl, hbe⟩

set_option maxRecDepth 100000 in
set_option maxHeartbeats 4000000 in
theorem of7_bad (A : Option Addr) (n c : Nat) (f : Nat → Int) (w : World) (hl : IntsV w A n c f) (hbad : ¬ (2 ≤ n ∧ Fit f n)) :
    Calls Tryz.prog 7 #[.slice A n c] w fun e w' => e = .returned (.tuple #[estV 0 ⟨#[]⟩ ⟨#[]⟩ ⟨#[]⟩ ⟨#[]⟩, .bool false]) ∧ Below w.heap.size w w' := by
  have g0 := heap_alloc_new w (.cells #[.int .i64 0, .string ⟨#[]⟩, .string ⟨#[]⟩, .string ⟨#[]⟩, .string ⟨#[]⟩] 28)
  have hbW := below_alloc w #[.int .i64 0, .string ⟨#[]⟩, .string ⟨#[]⟩, .string ⟨#[]⟩, .string ⟨#[]⟩] 28
  have hl1 := hl.below hbW
  obtain ⟨o, ho⟩ := fit_or f n
  have HO := Lib.hid ho
  have z0 := free_of_block g0
  have z1 := cells5 g0
  obtain ⟨y0, y1, y2, y3, y4⟩ := cells5 (set5 g0 (.int .i64 0) (.string ⟨#[]⟩) (.string ⟨#[]⟩) (.string ⟨#[]⟩) (.string ⟨#[]⟩))
  have hbe := below_sets5 hbW (Nat.le_refl _) (.int .i64 0) (.string ⟨#[]⟩) (.string ⟨#[]⟩) (.string ⟨#[]⟩) (.string ⟨#[]⟩)
  clear hbW hl
  cases o with
  | false =>
    clear hbad
    go_enter Tryz.func7, Tryz.ntmps7
    go_wp2_with fail
    generalize w.alloc (.cells #[.int .i64 0, .string ⟨#[]⟩, .string ⟨#[]⟩, .string ⟨#[]⟩, .string ⟨#[]⟩] 28) = W at *
    refine (fits_at HO.out hl1).mono ?_
    rintro e w' ⟨rfl, rfl⟩
    go_wp2_with fail
    exact bodyPost_ret (v := .tuple #[estV 0 ⟨#[]⟩ ⟨#[]⟩ ⟨#[]⟩ ⟨#[]⟩, .bool false]) (by simp [results, Tryz.results7, go_sem, y0, y1, y2, y3, y4]) rfl ⟨rfl, hbe⟩
  | true =>
    have hn0 : (n : Int) < 2 := by
      have : ¬ 2 ≤ n := fun h => hbad ⟨h, ho.out.1 rfl⟩
      omega
    clear hbad
    go_enter Tryz.func7, Tryz.ntmps7
    go_wp2_with fail
    generalize w.alloc (.cells #[.int .i64 0, .string ⟨#[]⟩, .string ⟨#[]⟩, .string ⟨#[]⟩, .string ⟨#[]⟩] 28) = W at *
    refine (fits_at HO.out hl1).mono ?_
    rintro e w' ⟨rfl, rfl⟩
    go_wp2_with fail
    exact bodyPost_ret (v := .tuple #[estV 0 ⟨#[]⟩ ⟨#[]⟩ ⟨#[]⟩ ⟨#[]⟩, .bool false]) (by simp [results, Tryz.results7, go_sem, y0, y1, y2, y3, y4]) rfl ⟨rfl, hbe⟩

set_option maxRecDepth 100000 in
set_option maxHeartbeats 16000000 in
theorem ratio20 (A B : Option Addr) (n ca cb : Nat) (f g : Nat → Int) (R1 R2 V1 V2 : ByteArray) (w : World) (hl : IntsV w A n ca f) (hm : IntsV w B n cb g) (hf : Fit f n) (hg : Fit g n) (h2 : 2 ≤ n) (h0 : sumF g n ≠ 0)
    (TR : Tx R1 R2 (frQ (sumF f n) (sumF g n))) (TV : Tx V1 V2 (ratV f g n)) :
    Calls Tryz.prog 20 #[.slice A n ca, .slice B n cb] w fun e w' => e = .returned (.tuple #[estV n R1 R2 V1 V2, .bool true]) ∧ Below w.heap.size w w' := by
  obtain ⟨o1, q1, rfl, hbk1, hcl1⟩ := hl.rd (by omega)
  obtain ⟨o2, q2, rfl, hbk2, hcl2⟩ := hm.rd (by omega)
  have HL1 := Lib.hid hcl1
  have HL2 := Lib.hid hcl2
  have hn5 := hf.1
  have hs := sum_fit hf
  have ht := sum_fit hg
  have h0' : (sumF g n == 0) = false := by rw [beq_eq_false_iff_ne]; exact h0
  have HF := Lib.hid hf
  have HG := Lib.hid hg
  have HO := Lib.hid (show FitB true f n from ⟨⟨fun _ => hf, fun _ => rfl⟩⟩)
  have HO' := Lib.hid (show FitB true g n from ⟨⟨fun _ => hg, fun _ => rfl⟩⟩)
  have HT := Lib.hid (And.intro TR TV)
  have H0 := Lib.hid h0
  have g0 := heap_alloc_new w (.cells #[.int .i64 0, .string ⟨#[]⟩, .string ⟨#[]⟩, .string ⟨#[]⟩, .string ⟨#[]⟩] 28)
  have hbW := below_alloc w #[.int .i64 0, .string ⟨#[]⟩, .string ⟨#[]⟩, .string ⟨#[]⟩, .string ⟨#[]⟩] 28
  have hl1 := hl.below hbW
  have hm1 := hm.below hbW
  have hI0 : FI w (w.alloc (.cells #[.int .i64 0, .string ⟨#[]⟩, .string ⟨#[]⟩, .string ⟨#[]⟩, .string ⟨#[]⟩] 28)) [] [(w.heap.size, .cells #[.int .i64 0, .string ⟨#[]⟩, .string ⟨#[]⟩, .string ⟨#[]⟩, .string ⟨#[]⟩] 28 (0, 0))] :=
    ⟨hbW, fun _ h => by simp at h, fun p h => by obtain rfl := List.mem_singleton.1 h; exact ⟨Nat.le_refl _, g0⟩, by simp⟩
  have hn2 : (2 : Int) ≤ n := by omega
  clear hcl1 hcl2 hf hg hl hm g0 TR TV h0
  go_enter Tryz.func20, Tryz.ntmps20
  go_wp2_with fail
  generalize w.alloc (.cells #[.int .i64 0, .string ⟨#[]⟩, .string ⟨#[]⟩, .string ⟨#[]⟩, .string ⟨#[]⟩] 28) = W at *
  refine (fits_at HO.out hl1).mono ?_
  rintro e w' ⟨rfl, rfl⟩
  go_wp2_with fail
  refine (fits_at HO'.out hm1).mono ?_
  rintro e w' ⟨rfl, rfl⟩
  go_wp2_with fail
  refine (sum63 _ n cb g _ hm1.rd HG.out).mono ?_
  rintro e w' ⟨rfl, rfl⟩
  go_wp2_with fail
  refine (sum63 _ n ca f _ hl1.rd HF.out).mono ?_
  rintro e w' ⟨rfl, rfl⟩
  go_wp2_with fail
  refine (sum63 _ n cb g _ hm1.rd HG.out).mono ?_
  rintro e w' ⟨rfl, rfl⟩
  go_wp2_with fail
  refine (make_fr (sumF f n) (sumF g n) _ (by omega) (by omega) (by omega) (by omega) H0.out).mono ?_
  rintro e w1 ⟨v1, rfl, h1, b1⟩
  go_wp2_with fail
  refine (mean27 _ n cb g w1 (hm1.below b1) HG.out (by omega)).mono ?_
  rintro e w2 ⟨v2, rfl, h2', b2⟩
  go_wp2_with fail
  refine (num30 0 w2 (by decide) (by decide)).mono ?_
  rintro e w3 ⟨v3, rfl, h3, b3⟩
  obtain ⟨s1, A11, n11, c11, A12, n12, c12, rfl, F1⟩ := FrR.sh h1
  obtain ⟨s2, A21, n21, c21, A22, n22, c22, rfl, F2⟩ := FrR.sh h2'
  obtain ⟨s3, A31, n31, c31, A32, n32, c32, rfl, F3⟩ := FrR.sh h3
  have F1' := (F1.below b2).below b3
  have F2' := F2.below b3
  have k1 := below_alloc w3 #[.bool s1, .slice A11 n11 c11, .slice A12 n12 c12] 57
  have k2 := below_alloc (w3.alloc (.cells #[.bool s1, .slice A11 n11 c11, .slice A12 n12 c12] 57)) #[.bool s2, .slice A21 n21 c21, .slice A22 n22 c22] 57
  have hI1 : FI w _ [(w3.heap.size, frQ (sumF f n) (sumF g n)), (w3.heap.size + 1, meanQ g n), (w3.heap.size + 1 + 1, frQ 0 1)] [(w.heap.size, .cells #[.int .i64 0, .string ⟨#[]⟩, .string ⟨#[]⟩, .string ⟨#[]⟩, .string ⟨#[]⟩] 28 (0, 0))] :=
    (((((hI0.go b1).go b2).go b3).newF w3.heap.size rfl F1').newF (w3.heap.size + 1) (by simp) (F2'.below k1)).newF (w3.heap.size + 1 + 1) (by simp) ((F3.below k1).below k2)
  clear F1 F2 F3 F1' F2' k1 k2 h1 h2' h3 hI0 b1 b2 b3 hl1 hm1 hbW
  go_wp2_with fail
  generalize ((w3.alloc (.cells #[.bool s1, .slice A11 n11 c11, .slice A12 n12 c12] 57)).alloc (.cells #[.bool s2, .slice A21 n21 c21, .slice A22 n22 c22] 57)).alloc (.cells #[.bool s3, .slice A31 n31 c31, .slice A32 n32 c32] 57) = w4 at *
  generalize w3.heap.size + 1 + 1 = NS at *
  generalize w3.heap.size + 1 = NY at *
  generalize w3.heap.size = NX at *
  rw [← sqQ_zero (sumF f n) (sumF g n) f g] at hI1
  go_loopg [9, 10] n (fun r i _ wr => ∃ k : Nat, k ≤ n ∧ r = n - k ∧ i = .int .i64 k ∧ FI w wr [(NX, frQ (sumF f n) (sumF g n)), (NY, meanQ g n), (NS, sqQ (sumF f n) (sumF g n) f g k)] [(w.heap.size, .cells #[.int .i64 0, .string ⟨#[]⟩, .string ⟨#[]⟩, .string ⟨#[]⟩, .string ⟨#[]⟩] 28 (0, 0))])
  case atStart => exact ⟨0, by omega, rfl, rfl, hI1⟩
  case round =>
    obtain ⟨k, hk, hr', rfl, hI⟩ := hrel
    have HR := Lib.hid hr'
    clear hr' hI1
    by_cases hkn : k < n
    · have hkI : (k : Int) < n := by omega
      have hfk := HF.out.2 k hkn
      have hgk := HG.out.2 k hkn
      have hE := ratE_E2 HF.out HG.out H0.out hkn
      have E1 := rs_of (elt_E2 HF.out hkn) (by omega) (by omega)
      have E2 := rs_of (elt_E2 HG.out hkn) (by omega) (by omega)
      have E3 := rs_of (ratR_E2 HF.out HG.out H0.out) (by omega) (by omega)
      have E4 := rs_of hE.1 (by omega) (by omega)
      have E5 := rs_of hE.2.1 (by omega) (by omega)
      have E6 := rs_of hE.2.2 (by omega) (by omega)
      have E7 := rs_of (sq_E2 HF.out HG.out hk (sum_fit HF.out) (sum_fit HG.out) H0.out) (by omega) (by omega)
      have hss := sqQ_succ (A := sumF f n) H0.out f g k
      have hcell : ∀ wx, Below w.heap.size w wx → wx.cell? ⟨o1, q1 + k, none⟩ = some (.int .i64 (f k)) ∧ wx.cell? ⟨o2, q2 + k, none⟩ = some (.int .i64 (g k)) := fun wx h =>
        ⟨(h.cell (p := ⟨o1, q1 + k, none⟩) hbk1).trans (HL1.out k hkn), (h.cell (p := ⟨o2, q2 + k, none⟩) hbk2).trans (HL2.out k hkn)⟩
      have HCell := Lib.hid hcell
      have HE := Lib.hid (And.intro (And.intro hfk hgk) hss)
      have HE' := Lib.hid (And.intro E1 (And.intro E2 (And.intro E3 (And.intro E4 (And.intro E5 (And.intro E6 E7))))))
      clear hcell hfk hgk hss hE E1 E2 E3 E4 E5 E6 E7
      go_upto_region 7 with fail
      have hbd : Below wr.heap.size wr wr.drew := (Below.refl _ _).drew
      have hzz : ∀ x : Beh LeW wr.drew, Below wr.heap.size wr x.w := fun x => below_trans' hbd hbd.size x.h
      obtain ⟨sX, AX1, nX1, cX1, AX2, nX2, cX2, GX, FX⟩ := hI.at NX (frQ (sumF f n) (sumF g n)) (by simp)
      have zX0 := fun x : Beh LeW wr.drew => (cells3 (blk_below (hzz x) GX)).1
      have zX1 := fun x : Beh LeW wr.drew => (cells3 (blk_below (hzz x) GX)).2.1
      have zX2 := fun x : Beh LeW wr.drew => (cells3 (blk_below (hzz x) GX)).2.2
      have ze := fun x : Beh LeW wr.drew => (HCell.out x.w (below_trans' hI.below hI.below.size (hzz x))).1
      have zf := fun x : Beh LeW wr.drew => (HCell.out x.w (below_trans' hI.below hI.below.size (hzz x))).2
      refine wp_region_late (R := LeW) 14 90 [(4, [], some (frG (frQ (f k) 1))), (10, [], some (frG (frQ (g k) 1))), (11, [62], some (frG (frQ (sumF f n) (sumF g n) * frQ (g k) 1))), (12, [56, 63], some (frG (frQ (f k) 1 - frQ (sumF f n) (sumF g n) * frQ (g k) 1))), (13, [], some (fresh wr.heap.size #[.bool false, .slice none 0 0, .slice none 0 0] 57))] (by kernel_rfl) (by kernel_rfl) (by kernel_rfl) rfl LeW.refl (fun _ _ _ => LeW.trans) ?_
      simp only [Late, List.take_succ_cons, List.drop_succ_cons, List.take_zero, List.drop_zero, Nat.reduceSub, Nat.reduceAdd, Nat.sub_zero]
      repeat (go_big_quiet_step (fail))
      refine wpQuiet_nil ?_
      refine late_fr Tryz.func30 (by kernel_rfl) (by kernel_rfl) (fun x => num30 (f k) x.w (by have := HE.out.1.1; omega) (by have := HE.out.1.1; omega)) rfl (by simp only [Act.put, List.setIfInBounds_toArray, List.set_cons_succ, List.set_cons_zero]; rfl) ?_
      simp only [List.nil_append, Option.getD_some]
      repeat (go_big_quiet_step (fail))
      refine wpQuiet_nil ?_
      refine late_fr Tryz.func30 (by kernel_rfl) (by kernel_rfl) (fun x => num30 (g k) x.w (by have := HE.out.1.2; omega) (by have := HE.out.1.2; omega)) rfl (by simp only [Act.put, List.setIfInBounds_toArray, List.set_cons_succ, List.set_cons_zero]; rfl) ?_
      simp only [List.nil_append, List.cons_append, Option.getD_some]
      refine wpQuiet_nil ?_
      refine late_fr1 [(56, frG (frQ (f k) 1))] (fun v => #[.agg #[.bool sX, .slice AX1 nX1 cX1, .slice AX2 nX2 cX2], v]) Tryz.func52 (by kernel_rfl) (by kernel_rfl) (by rfl) (fun x v hv => times68 400 (.agg #[.bool sX, .slice AX1 nX1 cX1, .slice AX2 nX2 cX2]) v (frQ (sumF f n) (sumF g n)) (frQ (g k) 1) x.w (by omega) HE'.out.2.2.1 HE'.out.2.1 (FX.below (hzz x)) hv) (fun v => by simp only [Act.put, List.setIfInBounds_toArray, List.set_cons_succ, List.set_cons_zero]; rfl) (by simp only [Act.put, List.setIfInBounds_toArray, List.set_cons_succ, List.set_cons_zero]; rfl) ?_
      simp only [List.nil_append, List.cons_append, Option.getD_some]
      refine wpQuiet_nil ?_
      refine late_fr2 [(62, frG (frQ (g k) 1))] (fun v u => #[v, u]) Tryz.func64 (by kernel_rfl) (by kernel_rfl) (by rfl) (fun x v u hv hu => minus81 400 v u (frQ (f k) 1) (frQ (sumF f n) (sumF g n) * frQ (g k) 1) x.w (by omega) HE'.out.1 HE'.out.2.2.2.1 hv hu) (fun v u => by simp only [Act.put, List.setIfInBounds_toArray, List.set_cons_succ, List.set_cons_zero]; rfl) (by simp only [Act.put, List.setIfInBounds_toArray, List.set_cons_succ, List.set_cons_zero]; rfl) ?_
      simp only [List.nil_append, List.cons_append, Option.getD_some]
      refine wpQuiet_nil ?_
      refine late_alloc (fun _ _ => by kernel_rfl) (fun x => Nat.le_trans hbd.size x.h.size) (by simp only [Act.put, List.setIfInBounds_toArray, List.set_cons_succ, List.set_cons_zero]; rfl) ?_
      refine wpQuiet_nil ?_
      intro x
      simp only [List.nil_append, List.cons_append, allGens, Option.getD_some]
      rintro r0 hr0 r1 hr1 r2 hr2 r3 hr3 vp ⟨bD, rfl, hdbD, gdbD⟩
      simp only [Act.put, List.setIfInBounds_toArray, List.set_cons_succ, List.set_cons_zero]
      obtain ⟨sR, AR1, nR1, cR1, AR2, nR2, cR2, rfl, FR⟩ := FrR.sh hr3
      have hJ := (hI.fresh (hzz x) hdbD gdbD).fill FR
      have y1 := cells3 gdbD
      have y2 := free_of_block gdbD
      have y3 := y1.1
      clear hI FR hr0 hr1 hr2 hr3 zX0 zX1 zX2 ze zf GX FX hzz gdbD hdbD
      generalize x.w = wy at *
      clear y3
      go_upto_region 8 with fail
      generalize ((wy.setCell ⟨bD, 0, none⟩ (.bool sR)).setCell ⟨bD, 1, none⟩ (.slice AR1 nR1 cR1)).setCell ⟨bD, 2, none⟩ (.slice AR2 nR2 cR2) = w5 at *
      clear y1 y2
      have hbd : Below w5.heap.size w5 w5.drew := (Below.refl _ _).drew
      have hzz : ∀ x : Beh LeW w5.drew, Below w5.heap.size w5 x.w := fun x => below_trans' hbd hbd.size x.h
      obtain ⟨sS, AS1, nS1, cS1, AS2, nS2, cS2, GS, FS⟩ := hJ.at NS (sqQ (sumF f n) (sumF g n) f g k) (by simp)
      have zS0 := fun x : Beh LeW w5.drew => (cells3 (blk_below (hzz x) GS)).1
      have zS1 := fun x : Beh LeW w5.drew => (cells3 (blk_below (hzz x) GS)).2.1
      have zS2 := fun x : Beh LeW w5.drew => (cells3 (blk_below (hzz x) GS)).2.2
      obtain ⟨sD, AD1, nD1, cD1, AD2, nD2, cD2, GD, FD⟩ := hJ.at bD (frQ (f k) 1 - frQ (sumF f n) (sumF g n) * frQ (g k) 1) (by simp)
      have zD0 := fun x : Beh LeW w5.drew => (cells3 (blk_below (hzz x) GD)).1
      have zD1 := fun x : Beh LeW w5.drew => (cells3 (blk_below (hzz x) GD)).2.1
      have zD2 := fun x : Beh LeW w5.drew => (cells3 (blk_below (hzz x) GD)).2.2
      refine wp_region_late (R := LeW) 5 90 [(3, [], some (frG ((frQ (f k) 1 - frQ (sumF f n) (sumF g n) * frQ (g k) 1) * (frQ (f k) 1 - frQ (sumF f n) (sumF g n) * frQ (g k) 1)))), (4, [68], some (frG (sqQ (sumF f n) (sumF g n) f g k + (frQ (f k) 1 - frQ (sumF f n) (sumF g n) * frQ (g k) 1) * (frQ (f k) 1 - frQ (sumF f n) (sumF g n) * frQ (g k) 1))))] (by kernel_rfl) (by kernel_rfl) (by kernel_rfl) rfl LeW.refl (fun _ _ _ => LeW.trans) ?_
      simp only [Late, List.take_succ_cons, List.drop_succ_cons, List.take_zero, List.drop_zero, Nat.reduceSub, Nat.reduceAdd, Nat.sub_zero]
      repeat (go_big_quiet_step (fail))
      refine wpQuiet_nil ?_
      refine late_fr Tryz.func52 (by kernel_rfl) (by kernel_rfl) (fun x => times68 400 (.agg #[.bool sD, .slice AD1 nD1 cD1, .slice AD2 nD2 cD2]) (.agg #[.bool sD, .slice AD1 nD1 cD1, .slice AD2 nD2 cD2]) _ _ x.w (by omega) HE'.out.2.2.2.2.1 HE'.out.2.2.2.2.1 (FD.below (hzz x)) (FD.below (hzz x))) rfl (by simp only [Act.put, List.setIfInBounds_toArray, List.set_cons_succ, List.set_cons_zero]; rfl) ?_
      simp only [List.nil_append, Option.getD_some]
      refine wpQuiet_nil ?_
      refine late_fr1 [] (fun v => #[.agg #[.bool sS, .slice AS1 nS1 cS1, .slice AS2 nS2 cS2], v]) Tryz.func65 (by kernel_rfl) (by kernel_rfl) (by rfl) (fun x v hv => plus78 400 (.agg #[.bool sS, .slice AS1 nS1 cS1, .slice AS2 nS2 cS2]) v _ _ x.w (by omega) HE'.out.2.2.2.2.2.2 HE'.out.2.2.2.2.2.1 (FS.below (hzz x)) hv) (fun v => by simp only [Act.put, List.setIfInBounds_toArray, List.set_cons_succ, List.set_cons_zero]; rfl) (by simp only [Act.put, List.setIfInBounds_toArray, List.set_cons_succ, List.set_cons_zero]; rfl) ?_
      simp only [List.nil_append, List.cons_append, Option.getD_some]
      refine wpQuiet_nil ?_
      intro x
      simp only [allGens]
      rintro r0 hr0 r1 hr1
      simp only [Act.put, List.setIfInBounds_toArray, List.set_cons_succ, List.set_cons_zero]
      obtain ⟨sR, AR1, nR1, cR1, AR2, nR2, cR2, rfl, FR⟩ := FrR.sh hr1
      have hM := (hJ.go (hzz x)).set (L1 := [(NX, frQ (sumF f n) (sumF g n)), (NY, meanQ g n)]) (L2 := [(bD, frQ (f k) 1 - frQ (sumF f n) (sumF g n) * frQ (g k) 1)]) FR
      have y1 := cells3 (blk_below (hzz x) GS)
      have y2 := free_of_block (blk_below (hzz x) GS)
      have y3 := y1.1
      clear hJ FR hr0 hr1 zS0 zS1 zS2 zD0 zD1 zD2 GS FS GD FD hzz 
      generalize x.w = wy at *
      clear y3
      go_wp2_with fail
      generalize ((wy.setCell ⟨NS, 0, none⟩ (.bool sR)).setCell ⟨NS, 1, none⟩ (.slice AR1 nR1 cR1)).setCell ⟨NS, 2, none⟩ (.slice AR2 nR2 cR2) = w6 at *
      clear y1 y2
      rw [← HE.out.2] at hM
      go_roundg (n - (k + 1))
      case measure => have := HR.out; omega
      case rel => exact ⟨k + 1, by omega, rfl, by go_num, FI.front (L1 := [(NX, frQ (sumF f n) (sumF g n)), (NY, meanQ g n), (NS, sqQ (sumF f n) (sumF g n) f g (k + 1))]) (L2 := [(bD, frQ (f k) 1 - frQ (sumF f n) (sumF g n) * frQ (g k) 1)]) hM⟩
    · have hkn' : k = n := by omega
      subst hkn'
      have hnn := nn_fit hn5 h2
      have x1 : IntKind.i64.wrap ((k : Int) - 1) = (k : Int) - 1 := IntWalk.i64_in _ (by omega)
      have x2 : IntKind.i64.wrap ((k : Int) * ((k : Int) - 1)) = (k : Int) * ((k : Int) - 1) := IntWalk.i64_in _ (by omega)
      have hD := ratD_E2 HG.out h2
      have E1 := rs_of (sq_E2 HF.out HG.out (Nat.le_refl k) (sum_fit HF.out) (sum_fit HG.out) H0.out) (by omega) (by omega)
      have E2 := rs_of (mean_E2 HG.out (by omega)) (by omega) (by omega)
      have E3 := rs_of hD.1 (by omega) (by omega)
      have E4 := rs_of hD.2 (by omega) (by omega)
      have E5 := rs_of (nn_E2 hn5 h2) (by omega) (by omega)
      have E6 := rs_of (ratR_E2 HF.out HG.out H0.out) (by omega) (by omega)
      have E7 := rs_of (ratV_E2 HF.out HG.out h2 H0.out) (by omega) (by omega)
      have HE := Lib.hid (And.intro E1 (And.intro E2 (And.intro E3 (And.intro E4 (And.intro E5 (And.intro E6 (And.intro E7 (ratD_ne (g := g) h2 H0.out))))))))
      have HNN := Lib.hid hnn
      clear E1 E2 E3 E4 E5 E6 E7 hD hnn
      go_upto_region 9 with fail
      have hbd : Below wr.heap.size wr wr.drew := (Below.refl _ _).drew
      have hzz : ∀ x : Beh LeW wr.drew, Below wr.heap.size wr x.w := fun x => below_trans' hbd hbd.size x.h
      obtain ⟨sY, AY1, nY1, cY1, AY2, nY2, cY2, GY, FY⟩ := hI.at NY (meanQ g k) (by simp)
      have zY0 := fun x : Beh LeW wr.drew => (cells3 (blk_below (hzz x) GY)).1
      have zY1 := fun x : Beh LeW wr.drew => (cells3 (blk_below (hzz x) GY)).2.1
      have zY2 := fun x : Beh LeW wr.drew => (cells3 (blk_below (hzz x) GY)).2.2
      refine wp_region_late (R := LeW) 12 90 [(6, [], some (frG (frQ ((k : Int) * ((k : Int) - 1)) 1))), (9, [], some (frG (meanQ g k * meanQ g k))), (10, [76, 79], some (frG (frQ ((k : Int) * ((k : Int) - 1)) 1 * (meanQ g k * meanQ g k)))), (11, [], some (fresh wr.heap.size #[.bool false, .slice none 0 0, .slice none 0 0] 57))] (by kernel_rfl) (by kernel_rfl) (by kernel_rfl) rfl LeW.refl (fun _ _ _ => LeW.trans) ?_
      simp only [Late, List.take_succ_cons, List.drop_succ_cons, List.take_zero, List.drop_zero, Nat.reduceSub, Nat.reduceAdd, Nat.sub_zero]
      repeat (go_big_quiet_step (fail))
      refine wpQuiet_nil ?_
      refine late_fr Tryz.func30 (by kernel_rfl) (by kernel_rfl) (fun x => num30 ((k : Int) * ((k : Int) - 1)) x.w (by have := HNN.out; omega) (by have := HNN.out; omega)) rfl (by simp only [Act.put, List.setIfInBounds_toArray, List.set_cons_succ, List.set_cons_zero]; rfl) ?_
      simp only [List.nil_append, Option.getD_some]
      repeat (go_big_quiet_step (fail))
      refine wpQuiet_nil ?_
      refine late_fr Tryz.func52 (by kernel_rfl) (by kernel_rfl) (fun x => times68 400 (.agg #[.bool sY, .slice AY1 nY1 cY1, .slice AY2 nY2 cY2]) (.agg #[.bool sY, .slice AY1 nY1 cY1, .slice AY2 nY2 cY2]) _ _ x.w (by omega) HE.out.2.1 HE.out.2.1 (FY.below (hzz x)) (FY.below (hzz x))) rfl (by simp only [Act.put, List.setIfInBounds_toArray, List.set_cons_succ, List.set_cons_zero]; rfl) ?_
      simp only [List.nil_append, List.cons_append, Option.getD_some]
      refine wpQuiet_nil ?_
      refine late_fr2 [] (fun v u => #[v, u]) Tryz.func52 (by kernel_rfl) (by kernel_rfl) (by rfl) (fun x v u hv hu => times68 400 v u _ _ x.w (by omega) HE.out.2.2.2.2.1 HE.out.2.2.1 hv hu) (fun v u => by simp only [Act.put, List.setIfInBounds_toArray, List.set_cons_succ, List.set_cons_zero]; rfl) (by simp only [Act.put, List.setIfInBounds_toArray, List.set_cons_succ, List.set_cons_zero]; rfl) ?_
      simp only [List.nil_append, List.cons_append, Option.getD_some]
      refine wpQuiet_nil ?_
      refine late_alloc (fun _ _ => by kernel_rfl) (fun x => Nat.le_trans hbd.size x.h.size) (by simp only [Act.put, List.setIfInBounds_toArray, List.set_cons_succ, List.set_cons_zero]; rfl) ?_
      refine wpQuiet_nil ?_
      intro x
      simp only [List.nil_append, List.cons_append, allGens, Option.getD_some]
      rintro r0 hr0 r1 hr1 r2 hr2 vp ⟨bQ, rfl, hdbQ, gdbQ⟩
      simp only [Act.put, List.setIfInBounds_toArray, List.set_cons_succ, List.set_cons_zero]
      obtain ⟨sR, AR1, nR1, cR1, AR2, nR2, cR2, rfl, FR⟩ := FrR.sh hr2
      have hJ := (hI.fresh (hzz x) hdbQ gdbQ).fill FR
      have y1 := cells3 gdbQ
      have y2 := free_of_block gdbQ
      have y3 := y1.1
      clear hI FR hr0 hr1 hr2 zY0 zY1 zY2 GY FY hzz gdbQ hdbQ
      generalize x.w = wy at *
      clear y3
      go_upto_region 10 with fail
      generalize ((wy.setCell ⟨bQ, 0, none⟩ (.bool sR)).setCell ⟨bQ, 1, none⟩ (.slice AR1 nR1 cR1)).setCell ⟨bQ, 2, none⟩ (.slice AR2 nR2 cR2) = w5 at *
      clear y1 y2
      have hbd : Below w5.heap.size w5 w5.drew := (Below.refl _ _).drew
      have hzz : ∀ x : Beh LeW w5.drew, Below w5.heap.size w5 x.w := fun x => below_trans' hbd hbd.size x.h
      obtain ⟨sX, AX1, nX1, cX1, AX2, nX2, cX2, GX, FX⟩ := hJ.at NX (frQ (sumF f k) (sumF g k)) (by simp)
      have zX0 := fun x : Beh LeW w5.drew => (cells3 (blk_below (hzz x) GX)).1
      have zX1 := fun x : Beh LeW w5.drew => (cells3 (blk_below (hzz x) GX)).2.1
      have zX2 := fun x : Beh LeW w5.drew => (cells3 (blk_below (hzz x) GX)).2.2
      obtain ⟨sS, AS1, nS1, cS1, AS2, nS2, cS2, GS, FS⟩ := hJ.at NS (sqQ (sumF f k) (sumF g k) f g k) (by simp)
      have zS0 := fun x : Beh LeW w5.drew => (cells3 (blk_below (hzz x) GS)).1
      have zS1 := fun x : Beh LeW w5.drew => (cells3 (blk_below (hzz x) GS)).2.1
      have zS2 := fun x : Beh LeW w5.drew => (cells3 (blk_below (hzz x) GS)).2.2
      obtain ⟨sQ, AQ1, nQ1, cQ1, AQ2, nQ2, cQ2, GQ, FQ⟩ := hJ.at bQ (frQ ((k : Int) * ((k : Int) - 1)) 1 * (meanQ g k * meanQ g k)) (by simp)
      have zQ0 := fun x : Beh LeW w5.drew => (cells3 (blk_below (hzz x) GQ)).1
      have zQ1 := fun x : Beh LeW w5.drew => (cells3 (blk_below (hzz x) GQ)).2.1
      have zQ2 := fun x : Beh LeW w5.drew => (cells3 (blk_below (hzz x) GQ)).2.2
      refine wp_region_late (R := LeW) 9 90 [(5, [], some (frG (sqQ (sumF f k) (sumF g k) f g k / (frQ ((k : Int) * ((k : Int) - 1)) 1 * (meanQ g k * meanQ g k))))), (6, [86], none)] (by kernel_rfl) (by kernel_rfl) (by kernel_rfl) rfl LeW.refl (fun _ _ _ => LeW.trans) ?_
      simp only [Late, List.take_succ_cons, List.drop_succ_cons, List.take_zero, List.drop_zero, Nat.reduceSub, Nat.reduceAdd, Nat.sub_zero]
      repeat (go_big_quiet_step (fail))
      refine wpQuiet_nil ?_
      refine late_fr Tryz.func28 (by kernel_rfl) (by kernel_rfl) (fun x => over83 400 (.agg #[.bool sS, .slice AS1 nS1 cS1, .slice AS2 nS2 cS2]) (.agg #[.bool sQ, .slice AQ1 nQ1 cQ1, .slice AQ2 nQ2 cQ2]) _ _ x.w (by omega) HE.out.2.2.2.2.2.2.2 HE.out.1 HE.out.2.2.2.1 (FS.below (hzz x)) (FQ.below (hzz x))) rfl (by simp only [Act.put, List.setIfInBounds_toArray, List.set_cons_succ, List.set_cons_zero]; rfl) ?_
      simp only [List.nil_append, Option.getD_some]
      refine wpQuiet_nil ?_
      refine late_val1 [] (fun v => #[.int .i64 k, .agg #[.bool sX, .slice AX1 nX1 cX1, .slice AX2 nX2 cX2], v]) Tryz.func26 (by kernel_rfl) (by kernel_rfl) (by rfl) (fun x v hv => est26 k (.agg #[.bool sX, .slice AX1 nX1 cX1, .slice AX2 nX2 cX2]) v _ _ R1 R2 V1 V2 x.w HE.out.2.2.2.2.2.1 HE.out.2.2.2.2.2.2.1 (FX.below (hzz x)) hv HT.out.1 HT.out.2) (fun v => by simp only [Act.put, List.setIfInBounds_toArray, List.set_cons_succ, List.set_cons_zero]; rfl) (by simp only [Act.put, List.setIfInBounds_toArray, List.set_cons_succ, List.set_cons_zero]; rfl) ?_
      simp only [List.nil_append]
      repeat (go_big_quiet_step (fail))
      refine wpQuiet_nil ?_
      intro x
      simp only [allGens]
      rintro r0 hr0
      simp only [Act.put, List.setIfInBounds_toArray, List.set_cons_succ, List.set_cons_zero]
      have hT := ((hJ.go (hzz x)).ob _ (List.mem_cons_self ..))
      have hbe := below_sets5 (hJ.go (hzz x)).below hT.1 (.int .i64 k) (.string R1) (.string R2) (.string V1) (.string V2)
      obtain ⟨u0, u1, u2, u3, u4⟩ := cells5 (set5 hT.2 (.int .i64 k) (.string R1) (.string R2) (.string V1) (.string V2))
      have y1 := cells5 hT.2
      have y2 := free_of_block hT.2
      clear hJ hr0 hzz GX FX GS FS GQ FQ zX0 zX1 zX2 zS0 zS1 zS2 zQ0 zQ1 zQ2 hT hbd x1 x2
      generalize x.w = wy at *
      go_wp2_with fail
      exact bodyPost_ret (v := .tuple #[estV k R1 R2 V1 V2, .bool true]) (by simp [results, Tryz.results20, go_sem, u0, u1, u2, u3, u4]) rfl ⟨rfl, hbe⟩

/-- An append that is known to run. -/
theorem wpList_append_ok {P : Program} {ops : Array Oper} {rest : List Oper} {o : Oper} {a : Act} {Q : Exit → Act → World → Prop} {w w' : World} (hgd : o.guard = none) (s x : Operand) (t : TypeId)
    (ho : o.op = .call { callee := .builtin .append, args := #[s, x], argTypes := #[t, t] }) {v1 v2 v' : Value} (hs : a.eval s = v1) (hx : a.eval x = v2)
    (hr : (Builtin.append_ #[t, t] o.type #[v1, v2]).run P w = .ok v' w') (h : wpList P ops Q rest (a.put o.dst v') w') : wpList P ops Q (o :: rest) a w := by
  refine wpList_plain hgd fun K hK => ?_
  unfold Oper.wp execOp
  simp only [ho, resolve, invoke, builtin, Sem.run_bind, Sem.run_pure, Result.andThen_ok, List.map_toArray, List.map_cons, List.map_nil, hs, hx, hr]
  exact hK _ _ h

abbrev FV : Type := Bool × (Option Addr × Nat × Nat) × (Option Addr × Nat × Nat)
def frC (x : FV) : List Value := [.bool x.1, .slice x.2.1.1 x.2.1.2.1 x.2.1.2.2, .slice x.2.2.1 x.2.2.2.1 x.2.2.2.2]
def fvV (x : FV) : Value := .agg #[.bool x.1, .slice x.2.1.1 x.2.1.2.1 x.2.1.2.2, .slice x.2.2.1 x.2.2.2.1 x.2.2.2.2]
theorem frC_len (x : FV) : (frC x).length = 3 := rfl
def noDig (cs : List Value) : Prop := ∀ u ∈ cs, ∀ z : Nat, u ≠ u32V z
theorem noDig.get {cs : Array Value} (h : noDig cs.toList) (k z : Nat) : cs[k]? ≠ some (u32V z) := fun e => h _ (Array.mem_toList_iff.2 (Array.mem_of_getElem? e)) z rfl
theorem frC_no (x : FV) : noDig (frC x) := fun u hu z e => by
  subst e
  simp [frC, u32V] at hu
theorem flat_no : ∀ L : List FV, noDig (L.flatMap frC)
  | [] => fun u hu => by simp at hu
  | x :: L => fun u hu => by
    rw [List.flatMap_cons, List.mem_append] at hu
    exact hu.elim (frC_no x u) (flat_no L u)
/-- The slice's block holds no digits. -/
def NoD (w : World) (v : Value) : Prop := ∀ g, v.ownBlock = some g → ∃ cur, w.heap[g]? = some (.cells cur 57 (0, 0)) ∧ noDig cur.toList
theorem NoD.nil (w : World) : NoD w (.slice none 0 0) := fun g h => by cases h
theorem NoD.below {w w' : World} {v : Value} (h : NoD w v) (hb : Below w.heap.size w w') : NoD w' v := fun g hg => by
  obtain ⟨cur, h1, h2⟩ := h g hg
  exact ⟨cur, blk_below hb h1, h2⟩
theorem info57 : (Tryz.prog.info? 57).map (fun i => (i.zero, i.size, i.bytes)) = some (some (.agg #[.bool false, .slice none 0 0, .slice none 0 0]), 3, 56) := by kernel_rfl

theorem zero_no (n : Nat) : noDig (Builtin.zeroCells (Value.cells (.agg #[.bool false, .slice none 0 0, .slice none 0 0])) n).toList := fun u hu z e => by
  subst e
  simp [Builtin.zeroCells, Value.cells, u32V] at hu
  obtain ⟨a, -, ha⟩ := hu
  have h3 : a % 3 < 3 := Nat.mod_lt _ (by decide)
  generalize a % 3 = j at *
  match j, h3 with
  | 0, _ => simp at ha
  | 1, _ => simp at ha
  | 2, _ => simp at ha

set_option maxRecDepth 100000 in
theorem app_frac {w : World} {B : Nat} {v : Value} {L : List FV} (hown : Own frC 57 3 w B v L) (hnd : NoD w v) (h : Nat) (x : FV) (hx : w.heap[h]? = some (.cells (frC x).toArray 57 (0, 0))) (hB : B ≤ w.heap.size) (hl : L.length ≤ 512) :
    ∃ v' w', (Builtin.append_ #[83, 83] 83 #[v, .slice (some ⟨h, 0, none⟩) 1 1]).run Tryz.prog w = .ok v' w' ∧ Own frC 57 3 w' B v' (L ++ [x]) ∧ NoD w' v' ∧ w.grownBy w' v.ownBlock ∧ (v'.ownBlock = v.ownBlock ∨ v'.ownBlock = some w.heap.size) := by
  obtain ⟨i, hi, hz0, hz1, hz2⟩ := info_parts info57
  have hnews : ∀ j u, (frC x)[j]? = some u → w.cell? ((⟨h, 0, none⟩ : Addr).add j) = some u := fun j u hu => by
    have := World.news_of_block hx j u (by simpa using hu)
    exact this
  obtain ⟨v', w', hr, h2, h3, h4, h5⟩ := run_append_own_at (P := Tryz.prog) w B 83 83 57 i _ 3 56 Tryz.underlying83 hi hz0 hz1 hz2 rfl (by omega) v L.length (L.flatMap frC) hown ⟨h, 0, none⟩ 1 1 (frC x) rfl hnews (by simp [frC, Value.oneCell']) (by unfold maxLen; omega) (by omega) hB
  refine ⟨v', w', hr, Own.snoc h2, fun g' hg' => ?_, h3, h5⟩
  rcases hown.2 with ⟨rfl, h0⟩ | ⟨g, cap, cur, rfl, hbg, hg, hnc, hcm, hcs, htake⟩
  · have hnil : L = [] := List.eq_nil_of_length_eq_zero h0
    subst hnil
    have hr2 := run_append_nil (P := Tryz.prog) w 83 83 57 i _ Tryz.underlying83 hi hz0 ⟨h, 0, none⟩ 1 1 (frC x) (by rw [hz1]; rfl) hnews (by omega) (by omega) (by rw [hz2]; omega)
    rw [hr] at hr2
    injection hr2 with e1 e2
    subst e1 e2
    injection hg' with e
    subst e
    refine ⟨_, heap_alloc_new w.drew _, ?_⟩
    rw [Array.toList_append]
    exact fun u hu => (List.mem_append.1 hu).elim (frC_no x u) (zero_no _ u)
  · by_cases hroom : L.length + 1 ≤ cap
    · have hfit : L.length * i.size + (frC x).length ≤ cur.size := by rw [hz1, hcs, frC_len, show L.length * 3 + 3 = (L.length + 1) * 3 from by rw [Nat.add_mul]]; exact Nat.mul_le_mul_right 3 hroom
      have hr2 := run_append_room (P := Tryz.prog) w 83 83 57 i Tryz.underlying83 hi g L.length cap cur hg ⟨h, 0, none⟩ 1 1 (frC x) (by rw [hz1]; rfl) hnews (by simp [frC, Value.oneCell']) hroom hfit
      rw [hr] at hr2
      injection hr2 with e1 e2
      subst e1 e2
      injection hg' with e
      subst e
      obtain ⟨cur', q1, q2⟩ := hnd g rfl
      obtain rfl : cur' = cur := by rw [hg] at q1; injection q1 with q1; injection q1 with q1; exact q1.symm
      refine ⟨_, setRow_heap w g cur' _ 57 _ hg, ?_⟩
      intro u hu
      simp only [List.append_assoc, List.mem_append] at hu
      rcases hu with hu | hu | hu
      · exact q2 u (List.mem_of_mem_take hu)
      · exact frC_no x u hu
      · exact q2 u (List.mem_of_mem_drop hu)
    · have holds : ∀ j u, (L.flatMap frC)[j]? = some u → w.cell? ((⟨g, 0, none⟩ : Addr).add j) = some u := World.ownsRow.cells hown (g := g) rfl
      have hr2 := run_append_grow (P := Tryz.prog) w 83 83 57 i _ Tryz.underlying83 hi hz0 ⟨g, 0, none⟩ L.length cap (L.flatMap frC) (by rw [hz1]; exact hown.1) holds ⟨h, 0, none⟩ 1 1 (frC x) (by rw [hz1]; rfl) hnews (by omega) (by omega) (growslice_fits (by omega) (by rw [hz2]; omega))
      rw [hr] at hr2
      injection hr2 with e1 e2
      subst e1 e2
      injection hg' with e
      subst e
      refine ⟨_, heap_alloc_new w.drew _, ?_⟩
      rw [Array.toList_append, Array.toList_append]
      exact fun u hu => (List.mem_append.1 hu).elim (fun hu => (List.mem_append.1 hu).elim (flat_no L u) (frC_no x u)) (zero_no _ u)

/-- As FI, with a list of fractions. -/
structure FR (w wr : World) (L : List (Nat × Rat)) (O : List (Nat × Obj)) (v : Value) (xs : List FV) (q : Nat → Rat) : Prop where
  base : FI w wr L O
  own : Own frC 57 3 wr w.heap.size v xs
  nod : NoD wr v
  num : ∀ (i : Nat) x, xs[i]? = some x → FrR wr (fvV x) (q i)
  off : ∀ g, v.ownBlock = some g → g ∉ L.map (·.1) ++ O.map (·.1)
section
variable {w wr wx : World} {L L1 L2 L' : List (Nat × Rat)} {O O' : List (Nat × Obj)} {v : Value} {xs : List FV} {q : Nat → Rat} {S D : Nat} {s b0 : Bool} {A1 A2 A3 A4 : Option Addr} {n1 c1 n2 c2 n3 c3 n4 c4 : Nat} {x y : Rat} {t : TypeId}
theorem FR.start (h : FI w wr L O) (q : Nat → Rat) : FR w wr L O (.slice none 0 0) [] q := ⟨h, Own.nil _ _ _ _ _, NoD.nil _, fun i x h => by simp at h, fun g h => by cases h⟩
theorem FR.below (h : FR w wr L O v xs q) : Below w.heap.size w wr := h.base.below
theorem FR.at (h : FR w wr L O v xs q) (b : Nat) (x : Rat) (hm : (b, x) ∈ L) : FB wr b x := h.base.at b x hm
theorem FR.ob (h : FR w wr L O v xs q) : ∀ p ∈ O, w.heap.size ≤ p.1 ∧ wr.heap[p.1]? = some p.2 := h.base.ob
theorem FR.go (h : FR w wr L O v xs q) (hb : Below wr.heap.size wr wx) : FR w wx L O v xs q :=
  ⟨h.base.go hb, h.own.below hb, h.nod.below hb, fun i x hi => (h.num i x hi).below hb, h.off⟩
theorem FR.fresh {o : Obj} (h : FR w wr L O v xs q) (hb : Below wr.heap.size wr wx) (hD : wr.heap.size ≤ D) (gD : wx.heap[D]? = some o) : FR w wx L ((D, o) :: O) v xs q := by
  have h' := h.go hb
  refine ⟨h.base.fresh hb hD gD, h'.own, h'.nod, h'.num, fun g hg hm => ?_⟩
  rw [List.map_cons] at hm
  rcases (List.perm_middle.mem_iff).1 hm |> List.mem_cons.1 with e | hm
  · have := (World.ownsRow.lt h.own g hg).2
    have e' : g = D := e
    omega
  · exact h.off g hg hm
/-- A store into a block that is not the list's. -/
theorem FR.via (h : FR w wr L O v xs q) (hS : wr.heap[S]? = some (.cells #[.bool b0, .slice A3 n3 c3, .slice A4 n4 c4] t (0, 0))) (hm : S ∈ L.map (·.1) ++ O.map (·.1)) {u0 u1 u2 : Value}
    (hI : FI w (((wr.setCell ⟨S, 0, none⟩ u0).setCell ⟨S, 1, none⟩ u1).setCell ⟨S, 2, none⟩ u2) L' O') (hsub : ∀ g, g ∈ L'.map (·.1) ++ O'.map (·.1) → g ∈ L.map (·.1) ++ O.map (·.1)) :
    FR w (((wr.setCell ⟨S, 0, none⟩ u0).setCell ⟨S, 1, none⟩ u1).setCell ⟨S, 2, none⟩ u2) L' O' v xs q := by
  obtain ⟨t0, t1, t2⟩ := sets3 hS u0 u1 u2
  have hne : v.ownBlock ≠ some S := fun e => h.off S e hm
  refine ⟨hI, ?_, fun g hg => ?_, fun i x hi => (h.num i x hi).put hS _ _ _, fun g hg hx => h.off g hg (hsub g hx)⟩
  · exact World.ownsRow.kept (row := some S) h.own ⟨by simp [World.setCell], by simp [World.setCell], by simp [World.setCell], Nat.le_of_eq t2.symm, fun k _ hk => t1 k (fun e => hk (by rw [e]))⟩ (.inr hne)
  · obtain ⟨cur, q1, q2⟩ := h.nod g hg
    exact ⟨cur, (t1 g (fun e => hne (by rw [hg, e]))).trans q1, q2⟩
theorem FR.fill (h : FR w wr L ((S, .cells #[.bool b0, .slice A3 n3 c3, .slice A4 n4 c4] 57 (0, 0)) :: O) v xs q) (hf : FrR wr (.agg #[.bool s, .slice A1 n1 c1, .slice A2 n2 c2]) x) :
    FR w (((wr.setCell ⟨S, 0, none⟩ (.bool s)).setCell ⟨S, 1, none⟩ (.slice A1 n1 c1)).setCell ⟨S, 2, none⟩ (.slice A2 n2 c2)) (L ++ [(S, x)]) O v xs q :=
  h.via (h.ob _ (List.mem_cons_self ..)).2 (by simp) (h.base.fill hf) (fun g hg => by
    rw [List.map_append, List.append_assoc] at hg
    exact hg)
theorem FR.set (h : FR w wr (L1 ++ (S, y) :: L2) O v xs q) (hf : FrR wr (.agg #[.bool s, .slice A1 n1 c1, .slice A2 n2 c2]) x) :
    FR w (((wr.setCell ⟨S, 0, none⟩ (.bool s)).setCell ⟨S, 1, none⟩ (.slice A1 n1 c1)).setCell ⟨S, 2, none⟩ (.slice A2 n2 c2)) (L1 ++ (S, x) :: L2) O v xs q := by
  obtain ⟨-, b0, A3, n3, c3, A4, n4, c4, hS2, -⟩ := h.base.fr (S, y) (List.mem_append_right _ (List.mem_cons_self ..))
  exact h.via hS2 (by simp) (h.base.set hf) (fun g hg => by simpa using hg)
theorem FR.front (h : FR w wr (L1 ++ L2) O v xs q) : FR w wr L1 O v xs q :=
  ⟨FI.front h.base, h.own, h.nod, h.num, fun g hg hm => h.off g hg (by
    rw [List.map_append, List.append_assoc]
    rcases List.mem_append.1 hm with hm | hm
    · exact List.mem_append_left _ hm
    · exact List.mem_append_right _ (List.mem_append_right _ hm))⟩
/-- The append of a fraction that lies in a new block. -/
theorem FR.append (h : FR w wr L O v xs q) (X : FV) (hX : FrR wr (fvV X) (q xs.length)) (hl : xs.length ≤ 512) :
    ∃ v' w', (Builtin.append_ #[83, 83] 83 #[v, .slice (some ⟨wr.heap.size, 0, none⟩) 1 1]).run Tryz.prog (wr.alloc (.cells (frC X).toArray 57)) = .ok v' w' ∧ FR w w' L O v' (xs ++ [X]) q := by
  have h1 := h.go (below_alloc wr (frC X).toArray 57)
  have hX1 := hX.below (below_alloc wr (frC X).toArray 57)
  obtain ⟨v', w', hr, ho, hn, hg, hat⟩ := app_frac h1.own h1.nod wr.heap.size X (heap_alloc_new wr _) h1.below.size hl
  refine ⟨v', w', hr, ?_⟩
  have keepB : ∀ k, k < (wr.alloc (.cells (frC X).toArray 57)).heap.size → some k ≠ v.ownBlock → w'.heap[k]? = (wr.alloc (.cells (frC X).toArray 57)).heap[k]? := hg.block
  have keepF : ∀ {f : Value} {x : Rat}, FrR (wr.alloc (.cells (frC X).toArray 57)) f x → FrR w' f x := fun {f x} hf => by
    cases hv : v.ownBlock with
    | none =>
      have hb : Below (wr.alloc (.cells (frC X).toArray 57)).heap.size (wr.alloc (.cells (frC X).toArray 57)) w' := ⟨hg.os, hg.tape, hg.output, hg.size, fun k hk => keepB k hk (by rw [hv]; exact fun e => by cases e)⟩
      exact hf.below hb
    | some g =>
      obtain ⟨cur, q1, q2⟩ := h1.nod g hv
      exact hf.but q1 q2.get hg.size (fun k hk hne => keepB k hk (by rw [hv]; exact fun e => hne (by injection e)))
  have hlt := h1.base.lt
  have hne : ∀ b, b ∈ L.map (·.1) ++ O.map (·.1) → some b ≠ v.ownBlock := fun b hb e => h.off b e.symm hb
  refine ⟨⟨h1.below.grown hg h1.below.size (fun k hk => (World.ownsRow.lt h1.own k hk).1), fun p hp => ?_, fun p hp => ?_, h.base.dis⟩, ho, hn, fun i x hi => ?_, fun g hgv hm => ?_⟩
  · have hm : p.1 ∈ L.map (·.1) ++ O.map (·.1) := List.mem_append_left _ (List.mem_map.2 ⟨p, hp, rfl⟩)
    obtain ⟨a, s, A1, n1, c1, A2, n2, c2, b, c⟩ := h1.base.fr p hp
    exact ⟨a, s, A1, n1, c1, A2, n2, c2, (keepB _ (hlt _ hm) (hne _ hm)).trans b, keepF c⟩
  · have hm : p.1 ∈ L.map (·.1) ++ O.map (·.1) := List.mem_append_right _ (List.mem_map.2 ⟨p, hp, rfl⟩)
    exact ⟨(h1.base.ob p hp).1, (keepB _ (hlt _ hm) (hne _ hm)).trans (h1.base.ob p hp).2⟩
  · by_cases hi' : i < xs.length
    · rw [List.getElem?_append_left hi'] at hi
      exact keepF (h1.num i x hi)
    · have hiL : i < (xs ++ [X]).length := (List.getElem?_eq_some_iff.1 hi).1
      rw [List.length_append, List.length_singleton] at hiL
      obtain rfl : i = xs.length := by omega
      rw [List.getElem?_append_right (Nat.le_refl _), Nat.sub_self] at hi
      obtain rfl : X = x := by simpa using hi
      exact keepF hX1
  · rcases hat with e | e
    · exact h.off g (by rw [← e]; exact hgv) hm
    · rw [e] at hgv
      injection hgv with e'
      have := hlt g hm
      omega
end

theorem zero_at {w : World} {f : Value} {x : Rat} (h : FrR w f x) : Calls Tryz.prog 67 #[f] w fun e w' => e = .returned (.bool (decide (x = 0))) ∧ Below w.heap.size w w' := zero82 f x w h
theorem read_tx {C1 C2 : ByteArray} {c : Rat} (h : Tx C1 C2 c) (w : World) : Calls Tryz.prog 50 #[.agg #[.string C1, .string C2]] w fun e w' => ∃ s A1 n1 c1 A2 n2 c2, e = .returned (.tuple #[.agg #[.bool s, .slice A1 n1 c1, .slice A2 n2 c2], .bool true]) ∧ FrR w' (.agg #[.bool s, .slice A1 n1 c1, .slice A2 n2 c2]) c ∧ Below w.heap.size w w' := by
  refine (read66 C1 C2 w h.lens.1 h.lens.2).mono ?_
  rintro e w' ⟨s, A1, n1, c1, A2, n2, c2, rfl, h1, h2⟩
  have hr := h.rd
  exact ⟨s, A1, n1, c1, A2, n2, c2, by rw [hr]; rfl, h1 c hr, h2⟩

set_option maxRecDepth 100000 in
set_option maxHeartbeats 32000000 in
theorem adj22 (A B : Option Addr) (n ca cb : Nat) (f g : Nat → Int) (cen : Rat) (C1 C2 M1 M2 V1 V2 : ByteArray) (w : World) (hl : IntsV w A n ca f) (hm : IntsV w B n cb g) (hf : Fit f n) (hg : Fit g n) (h2 : 2 ≤ n)
    (TC : Tx C1 C2 cen) (hc1 : C1.size ≤ 50) (hc2 : C2.size ≤ 50) (TM : Tx M1 M2 (adjM f g n cen)) (TV : Tx V1 V2 (adjV f g n)) :
    Calls Tryz.prog 22 #[.slice A n ca, .slice B n cb, .agg #[.string C1, .string C2]] w fun e w' => e = .returned (.tuple #[estV n M1 M2 V1 V2, .bool true]) ∧ Below w.heap.size w w' := by
  obtain ⟨o1, q1, rfl, hbk1, hcl1⟩ := hl.rd (by omega)
  obtain ⟨o2, q2, rfl, hbk2, hcl2⟩ := hm.rd (by omega)
  have HL1 := Lib.hid hcl1
  have HL2 := Lib.hid hcl2
  have hn5 := hf.1
  have hs := sum_fit hf
  have ht := sum_fit hg
  have HF := Lib.hid hf
  have HG := Lib.hid hg
  have HO := Lib.hid (show FitB true f n from ⟨⟨fun _ => hf, fun _ => rfl⟩⟩)
  have HO' := Lib.hid (show FitB true g n from ⟨⟨fun _ => hg, fun _ => rfl⟩⟩)
  have HT := Lib.hid (And.intro TC (And.intro TM TV))
  have HIl := Lib.hid hl
  have HIm := Lib.hid hm
  have EC := rs_of (cen_E2 TC hc1 hc2) (by omega) (by omega)
  have ET := rs_of (t_E2 hf hg h2) (by omega) (by omega)
  have EV := rs_of (cov_E2 hg hg h2) (by omega) (by omega)
  have EB := rs_of (cov_E2 hf hg h2) (by omega) (by omega)
  have EMf := rs_of (mean_E2 hf (by omega)) (by omega) (by omega)
  have EMg := rs_of (mean_E2 hg (by omega)) (by omega) (by omega)
  have hA := adjM_E2 hf hg h2 (cen_E2 TC hc1 hc2)
  have EA1 := rs_of hA.1 (by omega) (by omega)
  have EA2 := rs_of hA.2.1 (by omega) (by omega)
  have EA3 := rs_of hA.2.2 (by omega) (by omega)
  have HE := Lib.hid (And.intro EC (And.intro ET (And.intro EV (And.intro EB (And.intro EMf (And.intro EMg (And.intro EA1 (And.intro EA2 EA3))))))))
  have hc1I : (C1.size : Int) ≤ 50 := by omega
  have hc2I : (C2.size : Int) ≤ 50 := by omega
  obtain ⟨hbW, g0, g1⟩ := allocs2' w #[.string C1, .string C2] #[.int .i64 0, .string ⟨#[]⟩, .string ⟨#[]⟩, .string ⟨#[]⟩, .string ⟨#[]⟩] 26 28
  have hI0 : FI w ((w.alloc (.cells #[.string C1, .string C2] 26)).alloc (.cells #[.int .i64 0, .string ⟨#[]⟩, .string ⟨#[]⟩, .string ⟨#[]⟩, .string ⟨#[]⟩] 28)) [] [(w.heap.size + 1, .cells #[.int .i64 0, .string ⟨#[]⟩, .string ⟨#[]⟩, .string ⟨#[]⟩, .string ⟨#[]⟩] 28 (0, 0)), (w.heap.size, .cells #[.string C1, .string C2] 26 (0, 0))] :=
    ⟨hbW, fun _ h => by simp at h, fun p h => by
      rcases List.mem_cons.1 h with rfl | h
      · exact ⟨by simp, g1⟩
      · obtain rfl := List.mem_singleton.1 h
        exact ⟨Nat.le_refl _, g0⟩, by simp⟩
  have k0 := cells2 g0
  have hn2 : (2 : Int) ≤ n := by omega
  clear hcl1 hcl2 hf hg hl hm TC TM TV EC ET EV EB EMf EMg EA1 EA2 EA3 hA g1
  go_enter Tryz.func22, Tryz.ntmps22
  go_wp2_with fail
  generalize (w.alloc (.cells #[.string C1, .string C2] 26)).alloc (.cells #[.int .i64 0, .string ⟨#[]⟩, .string ⟨#[]⟩, .string ⟨#[]⟩, .string ⟨#[]⟩] 28) = W at *
  refine (read_tx HT.out.1 W).mono ?_
  rintro e w1 ⟨s1, A11, n11, c11, A12, n12, c12, rfl, F1, b1⟩
  have hI1 := (hI0.go b1).newF w1.heap.size rfl F1
  have b2 := below_trans' b1 b1.size (below_alloc w1 #[.bool s1, .slice A11 n11 c11, .slice A12 n12 c12] 57)
  have k1 := cells2 (blk_below b2 g0)
  have hl1 := HIl.out.below (below_trans' hbW hbW.size b2)
  have hm1 := HIm.out.below (below_trans' hbW hbW.size b2)
  have hlt1 : w.heap.size < w1.heap.size := lt_of_blk (blk_below b1 g0)
  clear k0 g0 hI0 b1 b2 F1 hbW
  go_wp2_with fail
  generalize w1.alloc (.cells #[.bool s1, .slice A11 n11 c11, .slice A12 n12 c12] 57) = w2 at *
  generalize w1.heap.size = NC at *
  refine (fits_at HO.out hl1).mono ?_
  rintro e w' ⟨rfl, rfl⟩
  go_wp2_with fail
  refine (fits_at HO'.out hm1).mono ?_
  rintro e w' ⟨rfl, rfl⟩
  go_wp2_with fail
  refine (num30 0 _ (by decide) (by decide)).mono ?_
  rintro e w3 ⟨v3, rfl, h3, b3⟩
  go_wp2_with fail
  refine (covr29 _ _ n cb cb g g w3 (hm1.below b3) (hm1.below b3) HG.out HG.out h2).mono ?_
  rintro e w4 ⟨v4, rfl, h4, b4⟩
  obtain ⟨s3, A31, n31, c31, A32, n32, c32, rfl, F3⟩ := FrR.sh h3
  obtain ⟨s4, A41, n41, c41, A42, n42, c42, rfl, F4⟩ := FrR.sh h4
  have p1 := below_alloc w4 #[.bool s3, .slice A31 n31 c31, .slice A32 n32 c32] 57
  have hI2 : FI w _ [(NC, cen), (w4.heap.size, frQ 0 1), (w4.heap.size + 1, covQ g g n)] [(w.heap.size + 1, .cells #[.int .i64 0, .string ⟨#[]⟩, .string ⟨#[]⟩, .string ⟨#[]⟩, .string ⟨#[]⟩] 28 (0, 0)), (w.heap.size, .cells #[.string C1, .string C2] 26 (0, 0))] :=
    (((hI1.go b3).go b4).newF w4.heap.size rfl (F3.below b4)).newF (w4.heap.size + 1) (by simp) (F4.below p1)
  clear F3 F4 h3 h4 p1 b3 b4 hI1 hl1 hm1 k1 hlt1
  go_upto_region 5 with fail
  generalize (w4.alloc (.cells #[.bool s3, .slice A31 n31 c31, .slice A32 n32 c32] 57)).alloc (.cells #[.bool s4, .slice A41 n41 c41, .slice A42 n42 c42] 57) = w5 at *
  generalize w4.heap.size + 1 = NV at *
  generalize w4.heap.size = NT at *
  obtain ⟨sV, AV1, nV1, cV1, AV2, nV2, cV2, GV, FV'⟩ := hI2.at NV (covQ g g n) (by simp)
  have y0 := cells3 GV
  go_wp2_with fail
  refine (zero_at FV').mono ?_
  rintro e w6 ⟨rfl, b6⟩
  have hI3 := hI2.go b6
  clear hI2 GV FV' y0 b6
  generalize hbz : decide (covQ g g n = 0) = bz
  have HBZ := Lib.hid hbz
  clear hbz
  go_upto_if 68 with fail
  go_cut [10] (fun s10 wx => s10 = .pointer (some ⟨NT, 0, none⟩) ∧ FI w wx [(NC, cen), (NT, tQ f g n), (NV, covQ g g n)] [(w.heap.size + 1, .cells #[.int .i64 0, .string ⟨#[]⟩, .string ⟨#[]⟩, .string ⟨#[]⟩, .string ⟨#[]⟩] 28 (0, 0)), (w.heap.size, .cells #[.string C1, .string C2] 26 (0, 0))])
  case first =>
    by_cases hz : covQ g g n = 0
    · have e1 : bz = true := by rw [← HBZ.out]; simp [hz]
      subst e1
      have hT : tQ f g n = frQ 0 1 := by unfold tQ; rw [if_pos hz]
      rw [← hT] at hI3
      go_wp2_with fail
      go_meet
      case rel => exact ⟨rfl, hI3⟩
    · have e1 : bz = false := by rw [← HBZ.out]; simp [hz]
      subst e1
      have hT : tQ f g n = covQ f g n / covQ g g n := by unfold tQ; rw [if_neg hz]
      have HZ := Lib.hid (And.intro hz hT)
      clear hz hT
      go_upto_region 6 with fail
      have hbd : Below w6.heap.size w6 w6.drew := (Below.refl _ _).drew
      have hzz : ∀ x : Beh LeW w6.drew, Below w6.heap.size w6 x.w := fun x => below_trans' hbd hbd.size x.h
      obtain ⟨sT, AT1, nT1, cT1, AT2, nT2, cT2, GT, FT⟩ := hI3.at NT (frQ 0 1) (by simp)
      have zT0 := fun x : Beh LeW w6.drew => (cells3 (blk_below (hzz x) GT)).1
      have zT1 := fun x : Beh LeW w6.drew => (cells3 (blk_below (hzz x) GT)).2.1
      have zT2 := fun x : Beh LeW w6.drew => (cells3 (blk_below (hzz x) GT)).2.2
      obtain ⟨sV, AV1, nV1, cV1, AV2, nV2, cV2, GV, FV⟩ := hI3.at NV (covQ g g n) (by simp)
      have zV0 := fun x : Beh LeW w6.drew => (cells3 (blk_below (hzz x) GV)).1
      have zV1 := fun x : Beh LeW w6.drew => (cells3 (blk_below (hzz x) GV)).2.1
      have zV2 := fun x : Beh LeW w6.drew => (cells3 (blk_below (hzz x) GV)).2.2
      refine wp_region_late (R := LeW) 5 148 [(2, [], some (frG (covQ f g n))), (4, [71], some (frG (covQ f g n / covQ g g n)))] (by kernel_rfl) (by kernel_rfl) (by kernel_rfl) rfl LeW.refl (fun _ _ _ => LeW.trans) ?_
      simp only [Late, List.take_succ_cons, List.drop_succ_cons, List.take_zero, List.drop_zero, Nat.reduceSub, Nat.reduceAdd, Nat.sub_zero]
      repeat (go_big_quiet_step (fail))
      refine wpQuiet_nil ?_
      refine late_fr Tryz.func29 (by kernel_rfl) (by kernel_rfl) (fun x => covr29 _ _ n ca cb f g x.w (HIl.out.below (below_trans' hI3.below hI3.below.size (hzz x))) (HIm.out.below (below_trans' hI3.below hI3.below.size (hzz x))) HF.out HG.out h2) rfl (by simp only [Act.put, List.setIfInBounds_toArray, List.set_cons_succ, List.set_cons_zero]; rfl) ?_
      simp only [List.nil_append, Option.getD_some]
      repeat (go_big_quiet_step (fail))
      refine wpQuiet_nil ?_
      refine late_fr1 [] (fun v => #[v, .agg #[.bool sV, .slice AV1 nV1 cV1, .slice AV2 nV2 cV2]]) Tryz.func28 (by kernel_rfl) (by kernel_rfl) (by rfl) (fun x v hv => over83 400 v (.agg #[.bool sV, .slice AV1 nV1 cV1, .slice AV2 nV2 cV2]) (covQ f g n) (covQ g g n) x.w (by omega) HZ.out.1 HE.out.2.2.2.1 HE.out.2.2.1 hv (FV.below (hzz x))) (fun v => by simp only [Act.put, List.setIfInBounds_toArray, List.set_cons_succ, List.set_cons_zero]; rfl) (by simp only [Act.put, List.setIfInBounds_toArray, List.set_cons_succ, List.set_cons_zero]; rfl) ?_
      simp only [List.nil_append, List.cons_append, Option.getD_some]
      refine wpQuiet_nil ?_
      intro x
      simp only [allGens]
      rintro r0 hr0 r1 hr1
      simp only [Act.put, List.setIfInBounds_toArray, List.set_cons_succ, List.set_cons_zero]
      obtain ⟨sR, AR1, nR1, cR1, AR2, nR2, cR2, rfl, FR⟩ := FrR.sh hr1
      have hJ := (hI3.go (hzz x)).set (L1 := [(NC, cen)]) (L2 := [(NV, covQ g g n)]) FR
      have y1 := cells3 (blk_below (hzz x) GT)
      have y2 := free_of_block (blk_below (hzz x) GT)
      have y3 := y1.1
      clear hI3 FR hr0 hr1 zT0 zT1 zT2 zV0 zV1 zV2 GT FT GV FV hzz 
      generalize x.w = wy at *
      clear y3
      go_wp2_with fail
      generalize ((wy.setCell ⟨NT, 0, none⟩ (.bool sR)).setCell ⟨NT, 1, none⟩ (.slice AR1 nR1 cR1)).setCell ⟨NT, 2, none⟩ (.slice AR2 nR2 cR2) = w8 at *
      clear y1 y2
      rw [← HZ.out.2] at hJ
      go_meet
      case rel => exact ⟨rfl, hJ⟩
  case rest =>
    obtain ⟨rfl, hI⟩ := hcut
    clear hI3
    go_upto_region 7 with fail
    have hbd : Below wc.heap.size wc wc.drew := (Below.refl _ _).drew
    have hzz : ∀ x : Beh LeW wc.drew, Below wc.heap.size wc x.w := fun x => below_trans' hbd hbd.size x.h
    obtain ⟨sT, AT1, nT1, cT1, AT2, nT2, cT2, GT, FT⟩ := hI.at NT (tQ f g n) (by simp)
    have zT0 := fun x : Beh LeW wc.drew => (cells3 (blk_below (hzz x) GT)).1
    have zT1 := fun x : Beh LeW wc.drew => (cells3 (blk_below (hzz x) GT)).2.1
    have zT2 := fun x : Beh LeW wc.drew => (cells3 (blk_below (hzz x) GT)).2.2
    obtain ⟨sC, AC1, nC1, cC1, AC2, nC2, cC2, GC, FC⟩ := hI.at NC (cen) (by simp)
    have zC0 := fun x : Beh LeW wc.drew => (cells3 (blk_below (hzz x) GC)).1
    have zC1 := fun x : Beh LeW wc.drew => (cells3 (blk_below (hzz x) GC)).2.1
    have zC2 := fun x : Beh LeW wc.drew => (cells3 (blk_below (hzz x) GC)).2.2
    refine wp_region_late (R := LeW) 10 148 [(1, [], some (frG (meanQ f n))), (4, [], some (frG (meanQ g n))), (6, [78], some (frG (meanQ g n - cen))), (7, [80], some (frG (tQ f g n * (meanQ g n - cen)))), (8, [75, 81], some (frG (meanQ f n - tQ f g n * (meanQ g n - cen)))), (9, [], some (fresh wc.heap.size #[.bool false, .slice none 0 0, .slice none 0 0] 57))] (by kernel_rfl) (by kernel_rfl) (by kernel_rfl) rfl LeW.refl (fun _ _ _ => LeW.trans) ?_
    simp only [Late, List.take_succ_cons, List.drop_succ_cons, List.take_zero, List.drop_zero, Nat.reduceSub, Nat.reduceAdd, Nat.sub_zero]
    repeat (go_big_quiet_step (fail))
    refine wpQuiet_nil ?_
    refine late_fr Tryz.func27 (by kernel_rfl) (by kernel_rfl) (fun x => mean27 _ n ca f x.w (HIl.out.below (below_trans' hI.below hI.below.size (hzz x))) HF.out (by omega)) rfl (by simp only [Act.put, List.setIfInBounds_toArray, List.set_cons_succ, List.set_cons_zero]; rfl) ?_
    simp only [List.nil_append, Option.getD_some]
    repeat (go_big_quiet_step (fail))
    refine wpQuiet_nil ?_
    refine late_fr Tryz.func27 (by kernel_rfl) (by kernel_rfl) (fun x => mean27 _ n cb g x.w (HIm.out.below (below_trans' hI.below hI.below.size (hzz x))) HG.out (by omega)) rfl (by simp only [Act.put, List.setIfInBounds_toArray, List.set_cons_succ, List.set_cons_zero]; rfl) ?_
    simp only [List.nil_append, List.cons_append, Option.getD_some]
    repeat (go_big_quiet_step (fail))
    refine wpQuiet_nil ?_
    refine late_fr1 [(75, frG (meanQ f n))] (fun v => #[v, .agg #[.bool sC, .slice AC1 nC1 cC1, .slice AC2 nC2 cC2]]) Tryz.func64 (by kernel_rfl) (by kernel_rfl) (by rfl) (fun x v hv => minus81 400 v (.agg #[.bool sC, .slice AC1 nC1 cC1, .slice AC2 nC2 cC2]) (meanQ g n) cen x.w (by omega) HE.out.2.2.2.2.2.1 HE.out.1 hv (FC.below (hzz x))) (fun v => by simp only [Act.put, List.setIfInBounds_toArray, List.set_cons_succ, List.set_cons_zero]; rfl) (by simp only [Act.put, List.setIfInBounds_toArray, List.set_cons_succ, List.set_cons_zero]; rfl) ?_
    simp only [List.nil_append, List.cons_append, Option.getD_some]
    refine wpQuiet_nil ?_
    refine late_fr1 [(75, frG (meanQ f n)), (78, frG (meanQ g n))] (fun v => #[.agg #[.bool sT, .slice AT1 nT1 cT1, .slice AT2 nT2 cT2], v]) Tryz.func52 (by kernel_rfl) (by kernel_rfl) (by rfl) (fun x v hv => times68 400 (.agg #[.bool sT, .slice AT1 nT1 cT1, .slice AT2 nT2 cT2]) v (tQ f g n) (meanQ g n - cen) x.w (by omega) HE.out.2.1 HE.out.2.2.2.2.2.2.1 (FT.below (hzz x)) hv) (fun v => by simp only [Act.put, List.setIfInBounds_toArray, List.set_cons_succ, List.set_cons_zero]; rfl) (by simp only [Act.put, List.setIfInBounds_toArray, List.set_cons_succ, List.set_cons_zero]; rfl) ?_
    simp only [List.nil_append, List.cons_append, Option.getD_some]
    refine wpQuiet_nil ?_
    refine late_fr2 [(78, frG (meanQ g n)), (80, frG (meanQ g n - cen))] (fun v u => #[v, u]) Tryz.func64 (by kernel_rfl) (by kernel_rfl) (by rfl) (fun x v u hv hu => minus81 400 v u (meanQ f n) (tQ f g n * (meanQ g n - cen)) x.w (by omega) HE.out.2.2.2.2.1 HE.out.2.2.2.2.2.2.2.1 hv hu) (fun v u => by simp only [Act.put, List.setIfInBounds_toArray, List.set_cons_succ, List.set_cons_zero]; rfl) (by simp only [Act.put, List.setIfInBounds_toArray, List.set_cons_succ, List.set_cons_zero]; rfl) ?_
    simp only [List.nil_append, List.cons_append, Option.getD_some]
    refine wpQuiet_nil ?_
    refine late_alloc (fun _ _ => by kernel_rfl) (fun x => Nat.le_trans hbd.size x.h.size) (by simp only [Act.put, List.setIfInBounds_toArray, List.set_cons_succ, List.set_cons_zero]; rfl) ?_
    refine wpQuiet_nil ?_
    intro x
    simp only [List.nil_append, List.cons_append, allGens, Option.getD_some]
    rintro r0 hr0 r1 hr1 r2 hr2 r3 hr3 r4 hr4 vp ⟨bM, rfl, hdbM, gdbM⟩
    simp only [Act.put, List.setIfInBounds_toArray, List.set_cons_succ, List.set_cons_zero]
    obtain ⟨sR, AR1, nR1, cR1, AR2, nR2, cR2, rfl, FR⟩ := FrR.sh hr4
    have hJ := (hI.fresh (hzz x) hdbM gdbM).fill FR
    have y1 := cells3 gdbM
    have y2 := free_of_block gdbM
    have y3 := y1.1
    clear hI FR hr0 hr1 hr2 hr3 hr4 zT0 zT1 zT2 zC0 zC1 zC2 GT FT GC FC hzz gdbM hdbM
    generalize x.w = wy at *
    clear y3
    go_wp2_with fail
    generalize ((wy.setCell ⟨bM, 0, none⟩ (.bool sR)).setCell ⟨bM, 1, none⟩ (.slice AR1 nR1 cR1)).setCell ⟨bM, 2, none⟩ (.slice AR2 nR2 cR2) = w8 at *
    clear y1 y2
    refine (num30 0 _ (by decide) (by decide)).mono ?_
    rintro e w9 ⟨v9, rfl, h9, b9⟩
    go_wp2_with fail
    refine (num30 0 _ (by decide) (by decide)).mono ?_
    rintro e w10 ⟨v10, rfl, h10, b10⟩
    obtain ⟨s5, A51, n51, c51, A52, n52, c52, rfl, F5⟩ := FrR.sh h9
    obtain ⟨s6, A61, n61, c61, A62, n62, c62, rfl, F6⟩ := FrR.sh h10
    have p1 := below_alloc w10 #[.bool s5, .slice A51 n51 c51, .slice A52 n52 c52] 57
    have hI4 : FI w _ [(NC, cen), (NT, tQ f g n), (NV, covQ g g n), (bM, adjM f g n cen), (w10.heap.size, frQ 0 1), (w10.heap.size + 1, frQ 0 1)] [(w.heap.size + 1, .cells #[.int .i64 0, .string ⟨#[]⟩, .string ⟨#[]⟩, .string ⟨#[]⟩, .string ⟨#[]⟩] 28 (0, 0)), (w.heap.size, .cells #[.string C1, .string C2] 26 (0, 0))] :=
      (((hJ.go b9).go b10).newF w10.heap.size rfl (F5.below b10)).newF (w10.heap.size + 1) (by simp) (F6.below p1)
    clear F5 F6 h9 h10 p1 b9 b10 hJ
    go_wp2_with fail
    generalize (w10.alloc (.cells #[.bool s5, .slice A51 n51 c51, .slice A52 n52 c52] 57)).alloc (.cells #[.bool s6, .slice A61 n61 c61, .slice A62 n62 c62] 57) = w11 at *
    generalize w10.heap.size + 1 = NS at *
    generalize w10.heap.size = NX at *
    have hI5 : FI w w11 [(NC, cen), (NT, tQ f g n), (NV, covQ g g n), (bM, adjM f g n cen), (NX, midQ f g n 0), (NS, frQ 0 1)] [(w.heap.size + 1, .cells #[.int .i64 0, .string ⟨#[]⟩, .string ⟨#[]⟩, .string ⟨#[]⟩, .string ⟨#[]⟩] 28 (0, 0)), (w.heap.size, .cells #[.string C1, .string C2] 26 (0, 0))] := by rw [mid_zero]; exact hI4
    have hR5 := FR.start hI5 (restQ f g n)
    clear hI4 hI5
    go_loopg [13, 16, 17] n (fun r v i _ wr => ∃ (k : Nat) (xs : List FV), k ≤ n ∧ r = n - k ∧ i = .int .i64 k ∧ xs.length = k ∧ FR w wr [(NC, cen), (NT, tQ f g n), (NV, covQ g g n), (bM, adjM f g n cen), (NX, midQ f g n k), (NS, frQ 0 1)] [(w.heap.size + 1, .cells #[.int .i64 0, .string ⟨#[]⟩, .string ⟨#[]⟩, .string ⟨#[]⟩, .string ⟨#[]⟩] 28 (0, 0)), (w.heap.size, .cells #[.string C1, .string C2] 26 (0, 0))] v xs (restQ f g n))
    case atStart => exact ⟨0, [], by omega, rfl, rfl, rfl, hR5⟩
    case round =>
      obtain ⟨k, xs, hk, hr', rfl, hxs, hI⟩ := hrel
      have HR := Lib.hid hr'
      have HXS := Lib.hid hxs
      clear hr' hR5 hxs
      by_cases hkn : k < n
      · have hkI : (k : Int) < n := by omega
        have hfk := HF.out.2 k hkn
        have hgk := HG.out.2 k hkn
        have hE := rest_E2 HF.out HG.out h2 hkn
        have E1 := rs_of (elt_E2 HF.out hkn) (by omega) (by omega)
        have E2 := rs_of hE.1 (by omega) (by omega)
        have E3 := rs_of hE.2.1 (by omega) (by omega)
        have E4 := rs_of hE.2.2 (by omega) (by omega)
        have E5 := rs_of (mid_E2 HF.out HG.out h2 hk) (by omega) (by omega)
        have hcell : ∀ wx, Below w.heap.size w wx → wx.cell? ⟨o1, q1 + k, none⟩ = some (.int .i64 (f k)) ∧ wx.cell? ⟨o2, q2 + k, none⟩ = some (.int .i64 (g k)) := fun wx h =>
          ⟨(h.cell (p := ⟨o1, q1 + k, none⟩) hbk1).trans (HL1.out k hkn), (h.cell (p := ⟨o2, q2 + k, none⟩) hbk2).trans (HL2.out k hkn)⟩
        have HCell := Lib.hid hcell
        have HK := Lib.hid (And.intro (And.intro hfk hgk) (mid_succ (f := f) (g := g) (n := n) k))
        have HE' := Lib.hid (And.intro E1 (And.intro E2 (And.intro E3 (And.intro E4 E5))))
        clear hcell hfk hgk hE E1 E2 E3 E4 E5
        go_upto_region 13 with fail
        have hbd : Below wr.heap.size wr wr.drew := (Below.refl _ _).drew
        have hzz : ∀ x : Beh LeW wr.drew, Below wr.heap.size wr x.w := fun x => below_trans' hbd hbd.size x.h
        obtain ⟨sT, AT1, nT1, cT1, AT2, nT2, cT2, GT, FT⟩ := hI.at NT (tQ f g n) (by simp)
        have zT0 := fun x : Beh LeW wr.drew => (cells3 (blk_below (hzz x) GT)).1
        have zT1 := fun x : Beh LeW wr.drew => (cells3 (blk_below (hzz x) GT)).2.1
        have zT2 := fun x : Beh LeW wr.drew => (cells3 (blk_below (hzz x) GT)).2.2
        have ze := fun x : Beh LeW wr.drew => (HCell.out x.w (below_trans' hI.below hI.below.size (hzz x))).1
        have zf := fun x : Beh LeW wr.drew => (HCell.out x.w (below_trans' hI.below hI.below.size (hzz x))).2
        refine wp_region_late (R := LeW) 14 148 [(4, [], some (frG (frQ (f k) 1))), (10, [], some (frG (frQ (g k) 1))), (11, [101], some (frG (tQ f g n * frQ (g k) 1))), (12, [95, 102], some (frG (frQ (f k) 1 - tQ f g n * frQ (g k) 1))), (13, [], some (fresh wr.heap.size #[.bool false, .slice none 0 0, .slice none 0 0] 57))] (by kernel_rfl) (by kernel_rfl) (by kernel_rfl) rfl LeW.refl (fun _ _ _ => LeW.trans) ?_
        simp only [Late, List.take_succ_cons, List.drop_succ_cons, List.take_zero, List.drop_zero, Nat.reduceSub, Nat.reduceAdd, Nat.sub_zero]
        repeat (go_big_quiet_step (fail))
        refine wpQuiet_nil ?_
        refine late_fr Tryz.func30 (by kernel_rfl) (by kernel_rfl) (fun x => num30 (f k) x.w (by have := HK.out.1.1; omega) (by have := HK.out.1.1; omega)) rfl (by simp only [Act.put, List.setIfInBounds_toArray, List.set_cons_succ, List.set_cons_zero]; rfl) ?_
        simp only [List.nil_append, Option.getD_some]
        repeat (go_big_quiet_step (fail))
        refine wpQuiet_nil ?_
        refine late_fr Tryz.func30 (by kernel_rfl) (by kernel_rfl) (fun x => num30 (g k) x.w (by have := HK.out.1.2; omega) (by have := HK.out.1.2; omega)) rfl (by simp only [Act.put, List.setIfInBounds_toArray, List.set_cons_succ, List.set_cons_zero]; rfl) ?_
        simp only [List.nil_append, List.cons_append, Option.getD_some]
        refine wpQuiet_nil ?_
        refine late_fr1 [(95, frG (frQ (f k) 1))] (fun v => #[.agg #[.bool sT, .slice AT1 nT1 cT1, .slice AT2 nT2 cT2], v]) Tryz.func52 (by kernel_rfl) (by kernel_rfl) (by rfl) (fun x v hv => times68 400 (.agg #[.bool sT, .slice AT1 nT1 cT1, .slice AT2 nT2 cT2]) v (tQ f g n) (frQ (g k) 1) x.w (by omega) HE.out.2.1 HE'.out.2.1 (FT.below (hzz x)) hv) (fun v => by simp only [Act.put, List.setIfInBounds_toArray, List.set_cons_succ, List.set_cons_zero]; rfl) (by simp only [Act.put, List.setIfInBounds_toArray, List.set_cons_succ, List.set_cons_zero]; rfl) ?_
        simp only [List.nil_append, List.cons_append, Option.getD_some]
        refine wpQuiet_nil ?_
        refine late_fr2 [(101, frG (frQ (g k) 1))] (fun v u => #[v, u]) Tryz.func64 (by kernel_rfl) (by kernel_rfl) (by rfl) (fun x v u hv hu => minus81 400 v u (frQ (f k) 1) (tQ f g n * frQ (g k) 1) x.w (by omega) HE'.out.1 HE'.out.2.2.1 hv hu) (fun v u => by simp only [Act.put, List.setIfInBounds_toArray, List.set_cons_succ, List.set_cons_zero]; rfl) (by simp only [Act.put, List.setIfInBounds_toArray, List.set_cons_succ, List.set_cons_zero]; rfl) ?_
        simp only [List.nil_append, List.cons_append, Option.getD_some]
        refine wpQuiet_nil ?_
        refine late_alloc (fun _ _ => by kernel_rfl) (fun x => Nat.le_trans hbd.size x.h.size) (by simp only [Act.put, List.setIfInBounds_toArray, List.set_cons_succ, List.set_cons_zero]; rfl) ?_
        refine wpQuiet_nil ?_
        intro x
        simp only [List.nil_append, List.cons_append, allGens, Option.getD_some]
        rintro r0 hr0 r1 hr1 r2 hr2 r3 hr3 vp ⟨bD, rfl, hdbD, gdbD⟩
        simp only [Act.put, List.setIfInBounds_toArray, List.set_cons_succ, List.set_cons_zero]
        obtain ⟨sR, AR1, nR1, cR1, AR2, nR2, cR2, rfl, FR⟩ := FrR.sh hr3
        have hJ := (hI.fresh (hzz x) hdbD gdbD).fill FR
        have y1 := cells3 gdbD
        have y2 := free_of_block gdbD
        have y3 := y1.1
        clear hI FR hr0 hr1 hr2 hr3 zT0 zT1 zT2 ze zf GT FT hzz gdbD hdbD
        generalize x.w = wy at *
        clear y3
        go_upto_region 14 with fail
        generalize ((wy.setCell ⟨bD, 0, none⟩ (.bool sR)).setCell ⟨bD, 1, none⟩ (.slice AR1 nR1 cR1)).setCell ⟨bD, 2, none⟩ (.slice AR2 nR2 cR2) = w12 at *
        clear y1 y2
        obtain ⟨sD, AD1, nD1, cD1, AD2, nD2, cD2, GD, FD⟩ := hJ.at bD (frQ (f k) 1 - tQ f g n * frQ (g k) 1) (by simp)
        have y0 := cells3 GD
        obtain ⟨v', w13, hrun, hK⟩ := hJ.append (sD, (AD1, nD1, cD1), (AD2, nD2, cD2)) (by rw [HXS.out]; exact FD) (by rw [HXS.out]; omega)
        have hrun' : (Builtin.append_ #[83, 83] 83 #[u13, .slice (some ⟨w12.heap.size, 0, none⟩) 1 1]).run Tryz.prog (w12.alloc (.cells #[.bool sD, .slice AD1 nD1 cD1, .slice AD2 nD2 cD2] 57)) = .ok v' w13 := hrun
        obtain ⟨sX, AX1, nX1, cX1, AX2, nX2, cX2, GX, FX⟩ := hK.at NX (midQ f g n k) (by simp)
        obtain ⟨sE, AE1, nE1, cE1, AE2, nE2, cE2, GE, FE⟩ := hK.at bD (frQ (f k) 1 - tQ f g n * frQ (g k) 1) (by simp)
        have y1 := cells3 GX
        have y2 := cells3 GE
        clear hJ hrun GD FD
        go_wp2_with (at_builtin; refine wpList_append_ok (by rfl) (.tmp 104) (.tmp 106) 83 (by rfl) (by rfl) (by rfl) hrun' ?_)
        refine (plus78 400 _ _ (midQ f g n k) (frQ (f k) 1 - tQ f g n * frQ (g k) 1) w13 (by omega) HE'.out.2.2.2.2 HE'.out.2.2.2.1 FX FE).mono ?_
        rintro e w14 ⟨v14, rfl, h14, b14⟩
        obtain ⟨sR, AR1, nR1, cR1, AR2, nR2, cR2, rfl, FR'⟩ := FrR.sh h14
        have hM := (hK.go b14).set (L1 := [(NC, cen), (NT, tQ f g n), (NV, covQ g g n), (bM, adjM f g n cen)]) (L2 := [(NS, frQ 0 1), (bD, frQ (f k) 1 - tQ f g n * frQ (g k) 1)]) FR'
        have y3 := cells3 (blk_below b14 GX)
        have y4 := free_of_block (blk_below b14 GX)
        clear y0 y1 y2 hrun' hK GX GE FX FE FR' h14 b14
        go_wp2_with fail
        have hM' := FR.front (L1 := [(NC, cen), (NT, tQ f g n), (NV, covQ g g n), (bM, adjM f g n cen)] ++ [(NX, midQ f g n k + restQ f g n k), (NS, frQ 0 1)]) (L2 := [(bD, frQ (f k) 1 - tQ f g n * frQ (g k) 1)]) hM
        rw [← HK.out.2] at hM'
        go_roundg (n - (k + 1))
        case measure => have := HR.out; omega
        case rel => exact ⟨k + 1, _, by omega, rfl, by go_num, by simp [HXS.out], hM'⟩
      · have hkn' : n = k := by omega
        subst hkn'
        have hmid := middle_E2 HF.out HG.out h2
        have E1 := rs_of (mid_E2 HF.out HG.out h2 (Nat.le_refl n)) (by omega) (by omega)
        have E2 := rs_of (n_E2 hn5) (by omega) (by omega)
        have E3 := rs_of hmid (by omega) (by omega)
        have HK := Lib.hid (And.intro E1 (And.intro E2 (And.intro E3 (fr_ne (a := (n : Int)) (b := 1) (by omega) (by decide)))))
        clear E1 E2 E3 hmid
        go_upto_region 16 with fail
        have hbd : Below wr.heap.size wr wr.drew := (Below.refl _ _).drew
        have hzz : ∀ x : Beh LeW wr.drew, Below wr.heap.size wr x.w := fun x => below_trans' hbd hbd.size x.h
        obtain ⟨sX, AX1, nX1, cX1, AX2, nX2, cX2, GX, FX⟩ := hI.at NX (midQ f g n n) (by simp)
        have zX0 := fun x : Beh LeW wr.drew => (cells3 (blk_below (hzz x) GX)).1
        have zX1 := fun x : Beh LeW wr.drew => (cells3 (blk_below (hzz x) GX)).2.1
        have zX2 := fun x : Beh LeW wr.drew => (cells3 (blk_below (hzz x) GX)).2.2
        refine wp_region_late (R := LeW) 5 148 [(3, [], some (frG (frQ (n : Int) 1))), (4, [114], some (frG (midQ f g n n / frQ (n : Int) 1)))] (by kernel_rfl) (by kernel_rfl) (by kernel_rfl) rfl LeW.refl (fun _ _ _ => LeW.trans) ?_
        simp only [Late, List.take_succ_cons, List.drop_succ_cons, List.take_zero, List.drop_zero, Nat.reduceSub, Nat.reduceAdd, Nat.sub_zero]
        repeat (go_big_quiet_step (fail))
        refine wpQuiet_nil ?_
        refine late_fr Tryz.func30 (by kernel_rfl) (by kernel_rfl) (fun x => num30 (n : Int) x.w (by omega) (by omega)) rfl (by simp only [Act.put, List.setIfInBounds_toArray, List.set_cons_succ, List.set_cons_zero]; rfl) ?_
        simp only [List.nil_append, Option.getD_some]
        refine wpQuiet_nil ?_
        refine late_fr1 [] (fun v => #[.agg #[.bool sX, .slice AX1 nX1 cX1, .slice AX2 nX2 cX2], v]) Tryz.func28 (by kernel_rfl) (by kernel_rfl) (by rfl) (fun x v hv => over83 400 (.agg #[.bool sX, .slice AX1 nX1 cX1, .slice AX2 nX2 cX2]) v (midQ f g n n) (frQ (n : Int) 1) x.w (by omega) HK.out.2.2.2 HK.out.1 HK.out.2.1 (FX.below (hzz x)) hv) (fun v => by simp only [Act.put, List.setIfInBounds_toArray, List.set_cons_succ, List.set_cons_zero]; rfl) (by simp only [Act.put, List.setIfInBounds_toArray, List.set_cons_succ, List.set_cons_zero]; rfl) ?_
        simp only [List.nil_append, List.cons_append, Option.getD_some]
        refine wpQuiet_nil ?_
        intro x
        simp only [allGens]
        rintro r0 hr0 r1 hr1
        simp only [Act.put, List.setIfInBounds_toArray, List.set_cons_succ, List.set_cons_zero]
        obtain ⟨sR, AR1, nR1, cR1, AR2, nR2, cR2, rfl, FR⟩ := FrR.sh hr1
        have hJ := (hI.go (hzz x)).set (L1 := [(NC, cen), (NT, tQ f g n), (NV, covQ g g n), (bM, adjM f g n cen)]) (L2 := [(NS, frQ 0 1)]) FR
        have y1 := cells3 (blk_below (hzz x) GX)
        have y2 := free_of_block (blk_below (hzz x) GX)
        have y3 := y1.1
        clear hI FR hr0 hr1 zX0 zX1 zX2 GX FX hzz 
        generalize x.w = wy at *
        clear y3
        go_wp2_with fail
        generalize ((wy.setCell ⟨NX, 0, none⟩ (.bool sR)).setCell ⟨NX, 1, none⟩ (.slice AR1 nR1 cR1)).setCell ⟨NX, 2, none⟩ (.slice AR2 nR2 cR2) = w15 at *
        clear y1 y2
        obtain ⟨AR, cR, rfl, hcR⟩ := Own.shape hJ.own
        rw [HXS.out] at hJ hcR ⊢
        have hJ0 : FR w w15 [(NC, cen), (NT, tQ f g n), (NV, covQ g g n), (bM, adjM f g n cen), (NX, midQ f g n n / frQ (n : Int) 1), (NS, sq2Q f g n 0)] [(w.heap.size + 1, .cells #[.int .i64 0, .string ⟨#[]⟩, .string ⟨#[]⟩, .string ⟨#[]⟩, .string ⟨#[]⟩] 28 (0, 0)), (w.heap.size, .cells #[.string C1, .string C2] 26 (0, 0))] (.slice AR n cR) xs (restQ f g n) := by rw [sq2_zero]; exact hJ
        clear hJ
        go_loopg [18, 19] n (fun r i _ wr => ∃ k : Nat, k ≤ n ∧ r = n - k ∧ i = .int .i64 k ∧ FR w wr [(NC, cen), (NT, tQ f g n), (NV, covQ g g n), (bM, adjM f g n cen), (NX, midQ f g n n / frQ (n : Int) 1), (NS, sq2Q f g n k)] [(w.heap.size + 1, .cells #[.int .i64 0, .string ⟨#[]⟩, .string ⟨#[]⟩, .string ⟨#[]⟩, .string ⟨#[]⟩] 28 (0, 0)), (w.heap.size, .cells #[.string C1, .string C2] 26 (0, 0))] (.slice AR n cR) xs (restQ f g n))
        case atStart => exact ⟨0, by omega, rfl, rfl, hJ0⟩
        case round =>
          obtain ⟨k, hk, hr', rfl, hI⟩ := hrel
          have HR2 := Lib.hid hr'
          clear hr' hJ0
          by_cases hkn : k < n
          · have hkI : (k : Int) < n := by omega
            have hE := d_E2 HF.out HG.out h2 hkn
            have E1 := rs_of (rest_E2 HF.out HG.out h2 hkn).2.2 (by omega) (by omega)
            have E2 := rs_of hE.1 (by omega) (by omega)
            have E3 := rs_of hE.2 (by omega) (by omega)
            have E4 := rs_of (sq2_E2 HF.out HG.out h2 hk) (by omega) (by omega)
            have HE' := Lib.hid (And.intro E1 (And.intro E2 (And.intro E3 E4)))
            have HS := Lib.hid (sq2_succ (f := f) (g := g) (n := n) (by omega) k)
            have hrow := Own.rows frC_len (default : FV) hI.own
            rw [HXS.out] at hrow
            obtain ⟨bR, qR, rfl, hbR, hcR'⟩ := hrow (by omega)
            obtain ⟨X, hX⟩ : ∃ X, xs[k]? = some X := ⟨_, List.getElem?_eq_getElem (by rw [HXS.out]; exact hkn)⟩
            have hXd : xs.getD k default = X := by rw [List.getD_eq_getElem?_getD, hX]; rfl
            have hnum := hI.num k X hX
            have hcX := hcR' k hkn
            simp only [hXd] at hcX
            obtain ⟨sX, ⟨AX1, nX1, cX1⟩, ⟨AX2, nX2, cX2⟩⟩ := X
            have x0 := hcX 0 _ rfl
            have x1 := hcX 1 _ rfl
            have x2 := hcX 2 _ rfl
            have hxk : wr.cell? ⟨bR, qR + k * 3, none⟩ = some (.bool sX) ∧ wr.cell? ⟨bR, qR + k * 3 + 1, none⟩ = some (.slice AX1 nX1 cX1) ∧ wr.cell? ⟨bR, qR + k * 3 + 2, none⟩ = some (.slice AX2 nX2 cX2) := ⟨x0, x1, x2⟩
            clear hE E1 E2 E3 E4 x0 x1 x2 hcX hX hXd hcR' hrow
            go_upto_region 20 with fail
            have hbd : Below wr.heap.size wr wr.drew := (Below.refl _ _).drew
            have hzz : ∀ x : Beh LeW wr.drew, Below wr.heap.size wr x.w := fun x => below_trans' hbd hbd.size x.h
            obtain ⟨sZ, AZ1, nZ1, cZ1, AZ2, nZ2, cZ2, GZ, FZ⟩ := hI.at NX (midQ f g n n / frQ (n : Int) 1) (by simp)
            have zZ0 := fun x : Beh LeW wr.drew => (cells3 (blk_below (hzz x) GZ)).1
            have zZ1 := fun x : Beh LeW wr.drew => (cells3 (blk_below (hzz x) GZ)).2.1
            have zZ2 := fun x : Beh LeW wr.drew => (cells3 (blk_below (hzz x) GZ)).2.2
            have ze := fun x : Beh LeW wr.drew => ((hzz x).cell (p := ⟨bR, qR + k * 3, none⟩) hbR).trans hxk.1
            have zf := fun x : Beh LeW wr.drew => ((hzz x).cell (p := ⟨bR, qR + k * 3 + 1, none⟩) hbR).trans hxk.2.1
            have zg := fun x : Beh LeW wr.drew => ((hzz x).cell (p := ⟨bR, qR + k * 3 + 2, none⟩) hbR).trans hxk.2.2
            refine wp_region_late (R := LeW) 7 148 [(5, [], some (frG (restQ f g n k - midQ f g n n / frQ (n : Int) 1))), (6, [], some (fresh wr.heap.size #[.bool false, .slice none 0 0, .slice none 0 0] 57))] (by kernel_rfl) (by kernel_rfl) (by kernel_rfl) rfl LeW.refl (fun _ _ _ => LeW.trans) ?_
            simp only [Late, List.take_succ_cons, List.drop_succ_cons, List.take_zero, List.drop_zero, Nat.reduceSub, Nat.reduceAdd, Nat.sub_zero]
            repeat (go_big_quiet_step (fail))
            refine wpQuiet_nil ?_
            refine late_fr Tryz.func64 (by kernel_rfl) (by kernel_rfl) (fun x => minus81 400 (.agg #[.bool sX, .slice AX1 nX1 cX1, .slice AX2 nX2 cX2]) (.agg #[.bool sZ, .slice AZ1 nZ1 cZ1, .slice AZ2 nZ2 cZ2]) (restQ f g n k) (midQ f g n n / frQ (n : Int) 1) x.w (by omega) HE'.out.1 HK.out.2.2.1 (hnum.below (hzz x)) (FZ.below (hzz x))) rfl (by simp only [Act.put, List.setIfInBounds_toArray, List.set_cons_succ, List.set_cons_zero]; rfl) ?_
            simp only [List.nil_append, Option.getD_some]
            refine wpQuiet_nil ?_
            refine late_alloc (fun _ _ => by kernel_rfl) (fun x => Nat.le_trans hbd.size x.h.size) (by simp only [Act.put, List.setIfInBounds_toArray, List.set_cons_succ, List.set_cons_zero]; rfl) ?_
            refine wpQuiet_nil ?_
            intro x
            simp only [List.nil_append, List.cons_append, allGens, Option.getD_some]
            rintro r0 hr0 vp ⟨bD, rfl, hdbD, gdbD⟩
            simp only [Act.put, List.setIfInBounds_toArray, List.set_cons_succ, List.set_cons_zero]
            obtain ⟨sR, AR1, nR1, cR1, AR2, nR2, cR2, rfl, FR⟩ := FrR.sh hr0
            have hJ := (hI.fresh (hzz x) hdbD gdbD).fill FR
            have y1 := cells3 gdbD
            have y2 := free_of_block gdbD
            have y3 := y1.1
            clear hI FR hr0 zZ0 zZ1 zZ2 ze zf zg GZ FZ hzz gdbD hdbD
            generalize x.w = wy at *
            clear y3
            go_upto_region 21 with fail
            generalize ((wy.setCell ⟨bD, 0, none⟩ (.bool sR)).setCell ⟨bD, 1, none⟩ (.slice AR1 nR1 cR1)).setCell ⟨bD, 2, none⟩ (.slice AR2 nR2 cR2) = w16 at *
            clear y1 y2
            have hbd : Below w16.heap.size w16 w16.drew := (Below.refl _ _).drew
            have hzz : ∀ x : Beh LeW w16.drew, Below w16.heap.size w16 x.w := fun x => below_trans' hbd hbd.size x.h
            obtain ⟨sS, AS1, nS1, cS1, AS2, nS2, cS2, GS, FS⟩ := hJ.at NS (sq2Q f g n k) (by simp)
            have zS0 := fun x : Beh LeW w16.drew => (cells3 (blk_below (hzz x) GS)).1
            have zS1 := fun x : Beh LeW w16.drew => (cells3 (blk_below (hzz x) GS)).2.1
            have zS2 := fun x : Beh LeW w16.drew => (cells3 (blk_below (hzz x) GS)).2.2
            obtain ⟨sD, AD1, nD1, cD1, AD2, nD2, cD2, GD, FD⟩ := hJ.at bD (restQ f g n k - midQ f g n n / frQ (n : Int) 1) (by simp)
            have zD0 := fun x : Beh LeW w16.drew => (cells3 (blk_below (hzz x) GD)).1
            have zD1 := fun x : Beh LeW w16.drew => (cells3 (blk_below (hzz x) GD)).2.1
            have zD2 := fun x : Beh LeW w16.drew => (cells3 (blk_below (hzz x) GD)).2.2
            refine wp_region_late (R := LeW) 5 148 [(3, [], some (frG ((restQ f g n k - midQ f g n n / frQ (n : Int) 1) * (restQ f g n k - midQ f g n n / frQ (n : Int) 1)))), (4, [131], some (frG (sq2Q f g n k + (restQ f g n k - midQ f g n n / frQ (n : Int) 1) * (restQ f g n k - midQ f g n n / frQ (n : Int) 1))))] (by kernel_rfl) (by kernel_rfl) (by kernel_rfl) rfl LeW.refl (fun _ _ _ => LeW.trans) ?_
            simp only [Late, List.take_succ_cons, List.drop_succ_cons, List.take_zero, List.drop_zero, Nat.reduceSub, Nat.reduceAdd, Nat.sub_zero]
            repeat (go_big_quiet_step (fail))
            refine wpQuiet_nil ?_
            refine late_fr Tryz.func52 (by kernel_rfl) (by kernel_rfl) (fun x => times68 400 (.agg #[.bool sD, .slice AD1 nD1 cD1, .slice AD2 nD2 cD2]) (.agg #[.bool sD, .slice AD1 nD1 cD1, .slice AD2 nD2 cD2]) _ _ x.w (by omega) HE'.out.2.1 HE'.out.2.1 (FD.below (hzz x)) (FD.below (hzz x))) rfl (by simp only [Act.put, List.setIfInBounds_toArray, List.set_cons_succ, List.set_cons_zero]; rfl) ?_
            simp only [List.nil_append, Option.getD_some]
            refine wpQuiet_nil ?_
            refine late_fr1 [] (fun v => #[.agg #[.bool sS, .slice AS1 nS1 cS1, .slice AS2 nS2 cS2], v]) Tryz.func65 (by kernel_rfl) (by kernel_rfl) (by rfl) (fun x v hv => plus78 400 (.agg #[.bool sS, .slice AS1 nS1 cS1, .slice AS2 nS2 cS2]) v _ _ x.w (by omega) HE'.out.2.2.2 HE'.out.2.2.1 (FS.below (hzz x)) hv) (fun v => by simp only [Act.put, List.setIfInBounds_toArray, List.set_cons_succ, List.set_cons_zero]; rfl) (by simp only [Act.put, List.setIfInBounds_toArray, List.set_cons_succ, List.set_cons_zero]; rfl) ?_
            simp only [List.nil_append, List.cons_append, Option.getD_some]
            refine wpQuiet_nil ?_
            intro x
            simp only [allGens]
            rintro r0 hr0 r1 hr1
            simp only [Act.put, List.setIfInBounds_toArray, List.set_cons_succ, List.set_cons_zero]
            obtain ⟨sR, AR1, nR1, cR1, AR2, nR2, cR2, rfl, FR⟩ := FrR.sh hr1
            have hM := (hJ.go (hzz x)).set (L1 := [(NC, cen), (NT, tQ f g n), (NV, covQ g g n), (bM, adjM f g n cen)] ++ [(NX, midQ f g n n / frQ (n : Int) 1)]) (L2 := [(bD, restQ f g n k - midQ f g n n / frQ (n : Int) 1)]) FR
            have y1 := cells3 (blk_below (hzz x) GS)
            have y2 := free_of_block (blk_below (hzz x) GS)
            have y3 := y1.1
            clear hJ FR hr0 hr1 zS0 zS1 zS2 zD0 zD1 zD2 GS FS GD FD hzz 
            generalize x.w = wy at *
            clear y3
            go_wp2_with fail
            generalize ((wy.setCell ⟨NS, 0, none⟩ (.bool sR)).setCell ⟨NS, 1, none⟩ (.slice AR1 nR1 cR1)).setCell ⟨NS, 2, none⟩ (.slice AR2 nR2 cR2) = w17 at *
            clear y1 y2
            have hM' : FR w w17 [(NC, cen), (NT, tQ f g n), (NV, covQ g g n), (bM, adjM f g n cen), (NX, midQ f g n n / frQ (n : Int) 1), (NS, sq2Q f g n (k + 1))] [(w.heap.size + 1, .cells #[.int .i64 0, .string ⟨#[]⟩, .string ⟨#[]⟩, .string ⟨#[]⟩, .string ⟨#[]⟩] 28 (0, 0)), (w.heap.size, .cells #[.string C1, .string C2] 26 (0, 0))] (.slice (some ⟨bR, qR, none⟩) n cR) xs (restQ f g n) := by
              rw [HS.out]
              exact FR.front (L1 := [(NC, cen), (NT, tQ f g n), (NV, covQ g g n), (bM, adjM f g n cen)] ++ [(NX, midQ f g n n / frQ (n : Int) 1), (NS, sq2Q f g n k + dQ f g n k * dQ f g n k)]) (L2 := [(bD, restQ f g n k - midQ f g n n / frQ (n : Int) 1)]) hM
            go_roundg (n - (k + 1))
            case measure => have := HR2.out; omega
            case rel => exact ⟨k + 1, by omega, rfl, by go_num, hM'⟩
          · have hkn' : k = n := by omega
            subst hkn'
            have hnn := nn_fit hn5 h2
            have x1 : IntKind.i64.wrap ((k : Int) - 1) = (k : Int) - 1 := IntWalk.i64_in _ (by omega)
            have x2 : IntKind.i64.wrap ((k : Int) * ((k : Int) - 1)) = (k : Int) * ((k : Int) - 1) := IntWalk.i64_in _ (by omega)
            have E1 := rs_of (sq2_E2 HF.out HG.out h2 (Nat.le_refl k)) (by omega) (by omega)
            have E2 := rs_of (nn_E2 hn5 h2) (by omega) (by omega)
            have hV := (adjV_E2 HF.out HG.out h2).2.2.2.2.2.2
            have E3 := rs_of hV (by omega) (by omega)
            have HE' := Lib.hid (And.intro E1 (And.intro E2 (And.intro E3 (And.intro (fr_ne (a := (k : Int) * ((k : Int) - 1)) (b := 1) (nn_ne h2) (by decide)) (adj_ref (f := f) (g := g) h2)))))
            have HNN := Lib.hid hnn
            clear E1 E2 E3 hV hnn
            go_upto_region 22 with fail
            have hbd : Below wr.heap.size wr wr.drew := (Below.refl _ _).drew
            have hzz : ∀ x : Beh LeW wr.drew, Below wr.heap.size wr x.w := fun x => below_trans' hbd hbd.size x.h
            obtain ⟨sM, AM1, nM1, cM1, AM2, nM2, cM2, GM, FM⟩ := hI.at bM (adjM f g k cen) (by simp)
            have zM0 := fun x : Beh LeW wr.drew => (cells3 (blk_below (hzz x) GM)).1
            have zM1 := fun x : Beh LeW wr.drew => (cells3 (blk_below (hzz x) GM)).2.1
            have zM2 := fun x : Beh LeW wr.drew => (cells3 (blk_below (hzz x) GM)).2.2
            obtain ⟨sS, AS1, nS1, cS1, AS2, nS2, cS2, GS, FS⟩ := hI.at NS (sq2Q f g k k) (by simp)
            have zS0 := fun x : Beh LeW wr.drew => (cells3 (blk_below (hzz x) GS)).1
            have zS1 := fun x : Beh LeW wr.drew => (cells3 (blk_below (hzz x) GS)).2.1
            have zS2 := fun x : Beh LeW wr.drew => (cells3 (blk_below (hzz x) GS)).2.2
            refine wp_region_late (R := LeW) 15 148 [(10, [], some (frG (frQ ((k : Int) * ((k : Int) - 1)) 1))), (11, [143], some (frG (sq2Q f g k k / frQ ((k : Int) * ((k : Int) - 1)) 1))), (12, [144], none)] (by kernel_rfl) (by kernel_rfl) (by kernel_rfl) rfl LeW.refl (fun _ _ _ => LeW.trans) ?_
            simp only [Late, List.take_succ_cons, List.drop_succ_cons, List.take_zero, List.drop_zero, Nat.reduceSub, Nat.reduceAdd, Nat.sub_zero]
            repeat (go_big_quiet_step (fail))
            refine wpQuiet_nil ?_
            refine late_fr Tryz.func30 (by kernel_rfl) (by kernel_rfl) (fun x => num30 ((k : Int) * ((k : Int) - 1)) x.w (by have := HNN.out; omega) (by have := HNN.out; omega)) rfl (by simp only [Act.put, List.setIfInBounds_toArray, List.set_cons_succ, List.set_cons_zero]; rfl) ?_
            simp only [List.nil_append, Option.getD_some]
            refine wpQuiet_nil ?_
            refine late_fr1 [] (fun v => #[.agg #[.bool sS, .slice AS1 nS1 cS1, .slice AS2 nS2 cS2], v]) Tryz.func28 (by kernel_rfl) (by kernel_rfl) (by rfl) (fun x v hv => over83 400 (.agg #[.bool sS, .slice AS1 nS1 cS1, .slice AS2 nS2 cS2]) v (sq2Q f g k k) (frQ ((k : Int) * ((k : Int) - 1)) 1) x.w (by omega) HE'.out.2.2.2.1 HE'.out.1 HE'.out.2.1 (FS.below (hzz x)) hv) (fun v => by simp only [Act.put, List.setIfInBounds_toArray, List.set_cons_succ, List.set_cons_zero]; rfl) (by simp only [Act.put, List.setIfInBounds_toArray, List.set_cons_succ, List.set_cons_zero]; rfl) ?_
            simp only [List.nil_append, List.cons_append, Option.getD_some]
            refine wpQuiet_nil ?_
            refine late_val1 [(143, frG (frQ ((k : Int) * ((k : Int) - 1)) 1))] (fun v => #[.int .i64 k, .agg #[.bool sM, .slice AM1 nM1 cM1, .slice AM2 nM2 cM2], v]) Tryz.func26 (by kernel_rfl) (by kernel_rfl) (by rfl) (fun x v hv => est26 k (.agg #[.bool sM, .slice AM1 nM1 cM1, .slice AM2 nM2 cM2]) v _ _ M1 M2 V1 V2 x.w HE.out.2.2.2.2.2.2.2.2 (by rw [HE'.out.2.2.2.2]; exact HE'.out.2.2.1) (FM.below (hzz x)) hv HT.out.2.1 (by rw [HE'.out.2.2.2.2]; exact HT.out.2.2)) (fun v => by simp only [Act.put, List.setIfInBounds_toArray, List.set_cons_succ, List.set_cons_zero]; rfl) (by simp only [Act.put, List.setIfInBounds_toArray, List.set_cons_succ, List.set_cons_zero]; rfl) ?_
            simp only [List.nil_append, List.cons_append]
            repeat (go_big_quiet_step (fail))
            refine wpQuiet_nil ?_
            intro x
            simp only [allGens]
            rintro r0 hr0 r1 hr1
            simp only [Act.put, List.setIfInBounds_toArray, List.set_cons_succ, List.set_cons_zero]
            have hT := ((hI.go (hzz x)).ob _ (List.mem_cons_self ..))
            have hbe := below_sets5 (hI.go (hzz x)).below hT.1 (.int .i64 k) (.string M1) (.string M2) (.string V1) (.string V2)
            obtain ⟨u0, u1, u2, u3, u4⟩ := cells5 (set5 hT.2 (.int .i64 k) (.string M1) (.string M2) (.string V1) (.string V2))
            have y1 := cells5 hT.2
            have y2 := free_of_block hT.2
            clear hI hr0 hr1 hzz GM FM GS FS zM0 zM1 zM2 zS0 zS1 zS2 hT hbd x1 x2
            generalize x.w = wy at *
            go_wp2_with fail
            exact bodyPost_ret (v := .tuple #[estV k M1 M2 V1 V2, .bool true]) (by simp [results, Tryz.results22, go_sem, u0, u1, u2, u3, u4]) rfl ⟨rfl, hbe⟩

set_option maxRecDepth 100000 in
set_option maxHeartbeats 8000000 in
theorem ratio20_bad (A B : Option Addr) (n m ca cb : Nat) (f g : Nat → Int) (w : World) (hl : IntsV w A n ca f) (hm : IntsV w B m cb g) (hbad : ¬ (m = n ∧ 2 ≤ n ∧ Fit f n ∧ Fit g n)) :
    Calls Tryz.prog 20 #[.slice A n ca, .slice B m cb] w fun e w' => e = .returned (.tuple #[estV 0 ⟨#[]⟩ ⟨#[]⟩ ⟨#[]⟩ ⟨#[]⟩, .bool false]) ∧ Below w.heap.size w w' := by
  have g0 := heap_alloc_new w (.cells #[.int .i64 0, .string ⟨#[]⟩, .string ⟨#[]⟩, .string ⟨#[]⟩, .string ⟨#[]⟩] 28)
  have hbW := below_alloc w #[.int .i64 0, .string ⟨#[]⟩, .string ⟨#[]⟩, .string ⟨#[]⟩, .string ⟨#[]⟩] 28
  have hl1 := hl.below hbW
  have hm1 := hm.below hbW
  obtain ⟨o, ho⟩ := fit_or f n
  obtain ⟨o', ho'⟩ := fit_or g m
  have HO := Lib.hid ho
  have HO' := Lib.hid ho'
  have z0 := free_of_block g0
  have z1 := cells5 g0
  obtain ⟨y0, y1, y2, y3, y4⟩ := cells5 (set5 g0 (.int .i64 0) (.string ⟨#[]⟩) (.string ⟨#[]⟩) (.string ⟨#[]⟩) (.string ⟨#[]⟩))
  have hbe := below_sets5 hbW (Nat.le_refl _) (.int .i64 0) (.string ⟨#[]⟩) (.string ⟨#[]⟩) (.string ⟨#[]⟩) (.string ⟨#[]⟩)
  have HB := Lib.hid hbad
  clear hbW hl hm hbad ho ho'
  cases o with
  | false =>
    go_enter Tryz.func20, Tryz.ntmps20
    go_wp2_with fail
    generalize w.alloc (.cells #[.int .i64 0, .string ⟨#[]⟩, .string ⟨#[]⟩, .string ⟨#[]⟩, .string ⟨#[]⟩] 28) = W at *
    refine (fits_at HO.out hl1).mono ?_
    rintro e w' ⟨rfl, rfl⟩
    go_wp2_with fail
    exact bodyPost_ret (v := .tuple #[estV 0 ⟨#[]⟩ ⟨#[]⟩ ⟨#[]⟩ ⟨#[]⟩, .bool false]) (by simp [results, Tryz.results20, go_sem, y0, y1, y2, y3, y4]) rfl ⟨rfl, hbe⟩
  | true =>
    cases o' with
    | false =>
      go_enter Tryz.func20, Tryz.ntmps20
      go_wp2_with fail
      generalize w.alloc (.cells #[.int .i64 0, .string ⟨#[]⟩, .string ⟨#[]⟩, .string ⟨#[]⟩, .string ⟨#[]⟩] 28) = W at *
      refine (fits_at HO.out hl1).mono ?_
      rintro e w' ⟨rfl, rfl⟩
      go_wp2_with fail
      refine (fits_at HO'.out hm1).mono ?_
      rintro e w' ⟨rfl, rfl⟩
      go_wp2_with fail
      exact bodyPost_ret (v := .tuple #[estV 0 ⟨#[]⟩ ⟨#[]⟩ ⟨#[]⟩ ⟨#[]⟩, .bool false]) (by simp [results, Tryz.results20, go_sem, y0, y1, y2, y3, y4]) rfl ⟨rfl, hbe⟩
    | true =>
      by_cases hne : m = n
      · subst hne
        have hn2 : (m : Int) < 2 := by
          have : ¬ 2 ≤ m := fun h => HB.out ⟨rfl, h, HO.out.out.1 rfl, HO'.out.out.1 rfl⟩
          omega
        go_enter Tryz.func20, Tryz.ntmps20
        go_wp2_with fail
        generalize w.alloc (.cells #[.int .i64 0, .string ⟨#[]⟩, .string ⟨#[]⟩, .string ⟨#[]⟩, .string ⟨#[]⟩] 28) = W at *
        refine (fits_at HO.out hl1).mono ?_
        rintro e w' ⟨rfl, rfl⟩
        go_wp2_with fail
        refine (fits_at HO'.out hm1).mono ?_
        rintro e w' ⟨rfl, rfl⟩
        go_wp2_with fail
        exact bodyPost_ret (v := .tuple #[estV 0 ⟨#[]⟩ ⟨#[]⟩ ⟨#[]⟩ ⟨#[]⟩, .bool false]) (by simp [results, Tryz.results20, go_sem, y0, y1, y2, y3, y4]) rfl ⟨rfl, hbe⟩
      · have hnf : ¬ (n : Int) = (m : Int) := by omega
        clear hne
        go_enter Tryz.func20, Tryz.ntmps20
        go_wp2_with fail
        generalize w.alloc (.cells #[.int .i64 0, .string ⟨#[]⟩, .string ⟨#[]⟩, .string ⟨#[]⟩, .string ⟨#[]⟩] 28) = W at *
        refine (fits_at HO.out hl1).mono ?_
        rintro e w' ⟨rfl, rfl⟩
        go_wp2_with fail
        refine (fits_at HO'.out hm1).mono ?_
        rintro e w' ⟨rfl, rfl⟩
        go_wp2_with fail
        exact bodyPost_ret (v := .tuple #[estV 0 ⟨#[]⟩ ⟨#[]⟩ ⟨#[]⟩ ⟨#[]⟩, .bool false]) (by simp [results, Tryz.results20, go_sem, y0, y1, y2, y3, y4]) rfl ⟨rfl, hbe⟩

set_option maxRecDepth 100000 in
set_option maxHeartbeats 8000000 in
theorem ratio20_zero (A B : Option Addr) (n ca cb : Nat) (f g : Nat → Int) (w : World) (hl : IntsV w A n ca f) (hm : IntsV w B n cb g) (h2 : 2 ≤ n) (hf : Fit f n) (hg : Fit g n) (h0 : sumF g n = 0) :
    Calls Tryz.prog 20 #[.slice A n ca, .slice B n cb] w fun e w' => e = .returned (.tuple #[estV 0 ⟨#[]⟩ ⟨#[]⟩ ⟨#[]⟩ ⟨#[]⟩, .bool false]) ∧ Below w.heap.size w w' := by
  have g0 := heap_alloc_new w (.cells #[.int .i64 0, .string ⟨#[]⟩, .string ⟨#[]⟩, .string ⟨#[]⟩, .string ⟨#[]⟩] 28)
  have hbW := below_alloc w #[.int .i64 0, .string ⟨#[]⟩, .string ⟨#[]⟩, .string ⟨#[]⟩, .string ⟨#[]⟩] 28
  have hl1 := hl.below hbW
  have hm1 := hm.below hbW
  have HO := Lib.hid (show FitB true f n from ⟨⟨fun _ => hf, fun _ => rfl⟩⟩)
  have HO' := Lib.hid (show FitB true g n from ⟨⟨fun _ => hg, fun _ => rfl⟩⟩)
  have HG := Lib.hid hg
  have hn2 : (2 : Int) ≤ n := by omega
  have z0 := free_of_block g0
  have z1 := cells5 g0
  obtain ⟨y0, y1, y2, y3, y4⟩ := cells5 (set5 g0 (.int .i64 0) (.string ⟨#[]⟩) (.string ⟨#[]⟩) (.string ⟨#[]⟩) (.string ⟨#[]⟩))
  have hbe := below_sets5 hbW (Nat.le_refl _) (.int .i64 0) (.string ⟨#[]⟩) (.string ⟨#[]⟩) (.string ⟨#[]⟩) (.string ⟨#[]⟩)
  clear hbW hl hm hf hg
  go_enter Tryz.func20, Tryz.ntmps20
  go_wp2_with fail
  generalize w.alloc (.cells #[.int .i64 0, .string ⟨#[]⟩, .string ⟨#[]⟩, .string ⟨#[]⟩, .string ⟨#[]⟩] 28) = W at *
  refine (fits_at HO.out hl1).mono ?_
  rintro e w' ⟨rfl, rfl⟩
  go_wp2_with fail
  refine (fits_at HO'.out hm1).mono ?_
  rintro e w' ⟨rfl, rfl⟩
  go_wp2_with fail
  refine (sum63 _ n cb g _ hm1.rd HG.out).mono ?_
  rintro e w' ⟨rfl, rfl⟩
  rw [h0]
  go_wp2_with fail
  exact bodyPost_ret (v := .tuple #[estV 0 ⟨#[]⟩ ⟨#[]⟩ ⟨#[]⟩ ⟨#[]⟩, .bool false]) (by simp [results, Tryz.results20, go_sem, y0, y1, y2, y3, y4]) rfl ⟨rfl, hbe⟩

set_option maxRecDepth 100000 in
set_option maxHeartbeats 8000000 in
theorem ratio45_zero (A B : Option Addr) (n ca cb : Nat) (f g : Nat → Int) (w : World) (hl : IntsV w A n ca f) (hm : IntsV w B n cb g) (h2 : 2 ≤ n) (hf : Fit f n) (hg : Fit g n) (h0 : sumF g n = 0) :
    Calls Tryz.prog 19 #[.slice A n ca, .slice B n cb] w fun e w' => e = .returned (.tuple #[estV 0 ⟨#[]⟩ ⟨#[]⟩ ⟨#[]⟩ ⟨#[]⟩, .bool false]) ∧ Below w.heap.size w w' := by
  obtain ⟨hbW, g0, g1⟩ := allocs2' w #[.int .i64 0, .string ⟨#[]⟩, .string ⟨#[]⟩, .string ⟨#[]⟩, .string ⟨#[]⟩] #[.slice A n ca, .slice B n cb] 28 31
  have hl1 := hl.below hbW
  have hm1 := hm.below hbW
  have hC := fits85 2 2 2 _ _ _ _ _ _ (by decide) (by decide) (by decide) (rdl_two g1 hl1.rd hm1.rd hl1.le hl1.max hm1.le hm1.max)
  rw [fits_two.2 ⟨rfl, h2, hf, hg⟩] at hC
  have HC := Lib.hid hC
  have HG := Lib.hid hg
  clear hC hl1 hl hm hf hg
  go_enter Tryz.func19, Tryz.ntmps19
  go_wp2_with fail
  generalize (w.alloc (.cells #[.int .i64 0, .string ⟨#[]⟩, .string ⟨#[]⟩, .string ⟨#[]⟩, .string ⟨#[]⟩] 28)).alloc (.cells #[.slice A n ca, .slice B n cb] 31) = W at *
  refine HC.out.mono ?_
  rintro e w' ⟨rfl, rfl⟩
  have z0 := free_of_block g0
  have z1 := cells5 g0
  obtain ⟨y0, y1, y2, y3, y4⟩ := cells5 (set5 g0 (.int .i64 0) (.string ⟨#[]⟩) (.string ⟨#[]⟩) (.string ⟨#[]⟩) (.string ⟨#[]⟩))
  have hbe := below_sets5 hbW (Nat.le_refl _) (.int .i64 0) (.string ⟨#[]⟩) (.string ⟨#[]⟩) (.string ⟨#[]⟩) (.string ⟨#[]⟩)
  clear hbW
  go_wp2_with fail
  refine (total88 _ n cb g _ hm1.rd HG.out).mono ?_
  rintro e w' ⟨rfl, rfl⟩
  rw [h0]
  go_wp2_with fail
  exact bodyPost_ret (v := .tuple #[estV 0 ⟨#[]⟩ ⟨#[]⟩ ⟨#[]⟩ ⟨#[]⟩, .bool false]) (by simp [results, Tryz.results19, go_sem, y0, y1, y2, y3, y4]) rfl ⟨rfl, hbe⟩

/-- A covariate's center that may be used. -/
def cenOk (C1 C2 : ByteArray) : Prop := (rdR (C1.data.toList, C2.data.toList)).isSome = true ∧ C1.size ≤ 50 ∧ C2.size ≤ 50
theorem fitT {f : Nat → Int} {n : Nat} (h : Fit f n) : FitB true f n := ⟨⟨fun _ => h, fun _ => rfl⟩⟩

set_option maxRecDepth 100000 in
set_option maxHeartbeats 8000000 in
theorem adj46_bad1 (A B : Option Addr) (n m ca cb : Nat) (f g : Nat → Int) (C1 C2 : ByteArray) (w : World) (hl : IntsV w A n ca f) (hm : IntsV w B m cb g) (hC1 : C1.size ≤ maxLen) (hC2 : C2.size ≤ maxLen) (hbad : ¬ (m = n ∧ 2 ≤ n ∧ Fit f n ∧ Fit g n)) :
    Calls Tryz.prog 21 #[.slice A n ca, .slice B m cb, .agg #[.string C1, .string C2]] w fun e w' => e = .returned (.tuple #[estV 0 ⟨#[]⟩ ⟨#[]⟩ ⟨#[]⟩ ⟨#[]⟩, .bool false]) ∧ Below w.heap.size w w' := by
  obtain ⟨hbW, g0, g1, g2⟩ := allocs3 w #[.string C1, .string C2] #[.int .i64 0, .string ⟨#[]⟩, .string ⟨#[]⟩, .string ⟨#[]⟩, .string ⟨#[]⟩] #[.slice A n ca, .slice B m cb] 26 28 31
  have hl1 := hl.below hbW
  have hm1 := hm.below hbW
  have hC := fits85 2 2 2 _ _ _ _ _ _ (by decide) (by decide) (by decide) (rdl_two g2 hl1.rd hm1.rd hl1.le hl1.max hm1.le hm1.max)
  rw [no_two hbad] at hC
  have HC := Lib.hid hC
  have hv := fun w => valid23 C1 C2 w hC1 hC2
  rw [← (rd_form (N := C1.data.toList) (D := C2.data.toList)).1] at hv
  have HV := Lib.hid hv
  have k0 := cells2 g0
  clear hC hv g2 hl1 hm1 hl hm hC1 hC2
  go_enter Tryz.func21, Tryz.ntmps21
  go_wp2_with fail
  generalize ((w.alloc (.cells #[.string C1, .string C2] 26)).alloc (.cells #[.int .i64 0, .string ⟨#[]⟩, .string ⟨#[]⟩, .string ⟨#[]⟩, .string ⟨#[]⟩] 28)).alloc (.cells #[.slice A n ca, .slice B m cb] 31) = W at *
  refine HC.out.mono ?_
  rintro e w' ⟨rfl, rfl⟩
  have z0 := free_of_block g1
  have z1 := cells5 g1
  obtain ⟨y0, y1, y2, y3, y4⟩ := cells5 (set5 g1 (.int .i64 0) (.string ⟨#[]⟩) (.string ⟨#[]⟩) (.string ⟨#[]⟩) (.string ⟨#[]⟩))
  have hbe := below_sets5 hbW (show w.heap.size ≤ w.heap.size + 1 by omega) (.int .i64 0) (.string ⟨#[]⟩) (.string ⟨#[]⟩) (.string ⟨#[]⟩) (.string ⟨#[]⟩)
  clear hbW HV
  go_wp2_with fail
  exact bodyPost_ret (v := .tuple #[estV 0 ⟨#[]⟩ ⟨#[]⟩ ⟨#[]⟩ ⟨#[]⟩, .bool false]) (by simp [results, Tryz.results21, go_sem, y0, y1, y2, y3, y4]) rfl ⟨rfl, hbe⟩

set_option maxRecDepth 100000 in
set_option maxHeartbeats 8000000 in
theorem adj46_bad2 (A B : Option Addr) (n m ca cb : Nat) (f g : Nat → Int) (C1 C2 : ByteArray) (w : World) (hl : IntsV w A n ca f) (hm : IntsV w B m cb g) (hC1 : C1.size ≤ maxLen) (hC2 : C2.size ≤ maxLen) (hok : m = n ∧ 2 ≤ n ∧ Fit f n ∧ Fit g n) (hb : (rdR (C1.data.toList, C2.data.toList)).isSome = false) :
    Calls Tryz.prog 21 #[.slice A n ca, .slice B m cb, .agg #[.string C1, .string C2]] w fun e w' => e = .returned (.tuple #[estV 0 ⟨#[]⟩ ⟨#[]⟩ ⟨#[]⟩ ⟨#[]⟩, .bool false]) ∧ Below w.heap.size w w' := by
  obtain ⟨hbW, g0, g1, g2⟩ := allocs3 w #[.string C1, .string C2] #[.int .i64 0, .string ⟨#[]⟩, .string ⟨#[]⟩, .string ⟨#[]⟩, .string ⟨#[]⟩] #[.slice A n ca, .slice B m cb] 26 28 31
  have hl1 := hl.below hbW
  have hm1 := hm.below hbW
  have hC := fits85 2 2 2 _ _ _ _ _ _ (by decide) (by decide) (by decide) (rdl_two g2 hl1.rd hm1.rd hl1.le hl1.max hm1.le hm1.max)
  rw [fits_two.2 ⟨hok.1, hok.2.1, hok.2.2.1, hok.2.2.2⟩] at hC
  have HC := Lib.hid hC
  clear hok
  have hv := fun w => valid23 C1 C2 w hC1 hC2
  rw [← (rd_form (N := C1.data.toList) (D := C2.data.toList)).1, hb] at hv
  have HV := Lib.hid hv
  have k0 := cells2 g0
  clear hC hv g2 hl1 hm1 hl hm hC1 hC2
  go_enter Tryz.func21, Tryz.ntmps21
  go_wp2_with fail
  refine HC.out.mono ?_
  rintro e w' ⟨rfl, rfl⟩
  go_wp2_with fail
  generalize ((w.alloc (.cells #[.string C1, .string C2] 26)).alloc (.cells #[.int .i64 0, .string ⟨#[]⟩, .string ⟨#[]⟩, .string ⟨#[]⟩, .string ⟨#[]⟩] 28)).alloc (.cells #[.slice A n ca, .slice B m cb] 31) = W at *
  refine (HV.out W).mono ?_
  rintro e w1 ⟨rfl, b1⟩
  replace k0 := cells2 (blk_below b1 g0)
  replace g1 := blk_below b1 g1
  replace hbW := below_trans' hbW hbW.size b1
  clear g0
  have z0 := free_of_block g1
  have z1 := cells5 g1
  obtain ⟨y0, y1, y2, y3, y4⟩ := cells5 (set5 g1 (.int .i64 0) (.string ⟨#[]⟩) (.string ⟨#[]⟩) (.string ⟨#[]⟩) (.string ⟨#[]⟩))
  have hbe := below_sets5 hbW (show w.heap.size ≤ w.heap.size + 1 by omega) (.int .i64 0) (.string ⟨#[]⟩) (.string ⟨#[]⟩) (.string ⟨#[]⟩) (.string ⟨#[]⟩)
  clear hbW HV
  go_wp2_with fail
  exact bodyPost_ret (v := .tuple #[estV 0 ⟨#[]⟩ ⟨#[]⟩ ⟨#[]⟩ ⟨#[]⟩, .bool false]) (by simp [results, Tryz.results21, go_sem, y0, y1, y2, y3, y4]) rfl ⟨rfl, hbe⟩

set_option maxRecDepth 100000 in
set_option maxHeartbeats 8000000 in
theorem adj46_bad3 (A B : Option Addr) (n m ca cb : Nat) (f g : Nat → Int) (C1 C2 : ByteArray) (w : World) (hl : IntsV w A n ca f) (hm : IntsV w B m cb g) (hC1 : C1.size ≤ maxLen) (hC2 : C2.size ≤ maxLen) (hok : m = n ∧ 2 ≤ n ∧ Fit f n ∧ Fit g n) (hb : (rdR (C1.data.toList, C2.data.toList)).isSome = true) (hlong : 50 < C1.size ∨ 50 < C2.size) :
    Calls Tryz.prog 21 #[.slice A n ca, .slice B m cb, .agg #[.string C1, .string C2]] w fun e w' => e = .returned (.tuple #[estV 0 ⟨#[]⟩ ⟨#[]⟩ ⟨#[]⟩ ⟨#[]⟩, .bool false]) ∧ Below w.heap.size w w' := by
  obtain ⟨hbW, g0, g1, g2⟩ := allocs3 w #[.string C1, .string C2] #[.int .i64 0, .string ⟨#[]⟩, .string ⟨#[]⟩, .string ⟨#[]⟩, .string ⟨#[]⟩] #[.slice A n ca, .slice B m cb] 26 28 31
  have hl1 := hl.below hbW
  have hm1 := hm.below hbW
  have hC := fits85 2 2 2 _ _ _ _ _ _ (by decide) (by decide) (by decide) (rdl_two g2 hl1.rd hm1.rd hl1.le hl1.max hm1.le hm1.max)
  rw [fits_two.2 ⟨hok.1, hok.2.1, hok.2.2.1, hok.2.2.2⟩] at hC
  have HC := Lib.hid hC
  clear hok
  have hv := fun w => valid23 C1 C2 w hC1 hC2
  rw [← (rd_form (N := C1.data.toList) (D := C2.data.toList)).1, hb] at hv
  have HV := Lib.hid hv
  have k0 := cells2 g0
  have hmx : decide ((50 : Int) < max (C1.size : Int) (C2.size : Int)) = true := decide_eq_true (by omega)
  clear hlong
  clear hC hv g2 hl1 hm1 hl hm hC1 hC2
  go_enter Tryz.func21, Tryz.ntmps21
  go_wp2_with fail
  refine HC.out.mono ?_
  rintro e w' ⟨rfl, rfl⟩
  go_wp2_with fail
  generalize ((w.alloc (.cells #[.string C1, .string C2] 26)).alloc (.cells #[.int .i64 0, .string ⟨#[]⟩, .string ⟨#[]⟩, .string ⟨#[]⟩, .string ⟨#[]⟩] 28)).alloc (.cells #[.slice A n ca, .slice B m cb] 31) = W at *
  refine (HV.out W).mono ?_
  rintro e w1 ⟨rfl, b1⟩
  replace k0 := cells2 (blk_below b1 g0)
  replace g1 := blk_below b1 g1
  replace hbW := below_trans' hbW hbW.size b1
  clear g0
  have z0 := free_of_block g1
  have z1 := cells5 g1
  obtain ⟨y0, y1, y2, y3, y4⟩ := cells5 (set5 g1 (.int .i64 0) (.string ⟨#[]⟩) (.string ⟨#[]⟩) (.string ⟨#[]⟩) (.string ⟨#[]⟩))
  have hbe := below_sets5 hbW (show w.heap.size ≤ w.heap.size + 1 by omega) (.int .i64 0) (.string ⟨#[]⟩) (.string ⟨#[]⟩) (.string ⟨#[]⟩) (.string ⟨#[]⟩)
  clear hbW HV
  go_wp2_with fail
  exact bodyPost_ret (v := .tuple #[estV 0 ⟨#[]⟩ ⟨#[]⟩ ⟨#[]⟩ ⟨#[]⟩, .bool false]) (by simp [results, Tryz.results21, go_sem, y0, y1, y2, y3, y4]) rfl ⟨rfl, hbe⟩

set_option maxRecDepth 100000 in
set_option maxHeartbeats 8000000 in
theorem adj22_bad1 (A B : Option Addr) (n m ca cb : Nat) (f g : Nat → Int) (C1 C2 : ByteArray) (w : World) (hl : IntsV w A n ca f) (hm : IntsV w B m cb g) (hC1 : C1.size ≤ maxLen) (hC2 : C2.size ≤ maxLen) (ho : FitB false f n) :
    Calls Tryz.prog 22 #[.slice A n ca, .slice B m cb, .agg #[.string C1, .string C2]] w fun e w' => e = .returned (.tuple #[estV 0 ⟨#[]⟩ ⟨#[]⟩ ⟨#[]⟩ ⟨#[]⟩, .bool false]) ∧ Below w.heap.size w w' := by
  obtain ⟨hbW, g0, g1⟩ := allocs2' w #[.string C1, .string C2] #[.int .i64 0, .string ⟨#[]⟩, .string ⟨#[]⟩, .string ⟨#[]⟩, .string ⟨#[]⟩] 26 28
  have HR := Lib.hid (fun w => read66 C1 C2 w hC1 hC2)
  have k0 := cells2 g0
  have HO := Lib.hid ho
  clear ho
  clear hC1 hC2
  go_enter Tryz.func22, Tryz.ntmps22
  go_wp2_with fail
  generalize (w.alloc (.cells #[.string C1, .string C2] 26)).alloc (.cells #[.int .i64 0, .string ⟨#[]⟩, .string ⟨#[]⟩, .string ⟨#[]⟩, .string ⟨#[]⟩] 28) = W at *
  refine (HR.out W).mono ?_
  rintro e w1 ⟨b, A1, n1, c1, A2, n2, c2, rfl, -, b1⟩
  obtain ⟨ok, hok⟩ : ∃ ok, (rdR (C1.data.toList, C2.data.toList)).isSome = ok := ⟨_, rfl⟩
  rw [hok]
  have HOK := Lib.hid hok
  clear hok
  have b2 := below_trans' b1 b1.size (below_alloc w1 #[.bool b, .slice A1 n1 c1, .slice A2 n2 c2] 57)
  have hlt1 : w.heap.size + 1 < w1.heap.size := lt_of_blk (blk_below b1 g1)
  have k1 := cells2 (blk_below b2 g0)
  have G := blk_below b2 g1
  replace hbW := below_trans' hbW hbW.size b2
  have hl1 := hl.below hbW
  have hm1 := hm.below hbW
  have z0 := free_of_block G
  have z1 := cells5 G
  obtain ⟨y0, y1, y2, y3, y4⟩ := cells5 (set5 G (.int .i64 0) (.string ⟨#[]⟩) (.string ⟨#[]⟩) (.string ⟨#[]⟩) (.string ⟨#[]⟩))
  have hbe := below_sets5 hbW (show w.heap.size ≤ w.heap.size + 1 by omega) (.int .i64 0) (.string ⟨#[]⟩) (.string ⟨#[]⟩) (.string ⟨#[]⟩) (.string ⟨#[]⟩)
  clear k0 g0 g1 G b1 b2 hbW hl hm
  go_wp2_with fail
  generalize w1.alloc (.cells #[.bool b, .slice A1 n1 c1, .slice A2 n2 c2] 57) = w2 at *
  refine (fits_at HO.out hl1).mono ?_
  rintro e w' ⟨rfl, rfl⟩
  go_wp2_with fail
  exact bodyPost_ret (v := .tuple #[estV 0 ⟨#[]⟩ ⟨#[]⟩ ⟨#[]⟩ ⟨#[]⟩, .bool false]) (by simp [results, Tryz.results22, go_sem, y0, y1, y2, y3, y4]) rfl ⟨rfl, hbe⟩

set_option maxRecDepth 100000 in
set_option maxHeartbeats 8000000 in
theorem adj22_bad2 (A B : Option Addr) (n m ca cb : Nat) (f g : Nat → Int) (C1 C2 : ByteArray) (w : World) (hl : IntsV w A n ca f) (hm : IntsV w B m cb g) (hC1 : C1.size ≤ maxLen) (hC2 : C2.size ≤ maxLen) (ho : FitB true f n) (ho' : FitB false g m) :
    Calls Tryz.prog 22 #[.slice A n ca, .slice B m cb, .agg #[.string C1, .string C2]] w fun e w' => e = .returned (.tuple #[estV 0 ⟨#[]⟩ ⟨#[]⟩ ⟨#[]⟩ ⟨#[]⟩, .bool false]) ∧ Below w.heap.size w w' := by
  obtain ⟨hbW, g0, g1⟩ := allocs2' w #[.string C1, .string C2] #[.int .i64 0, .string ⟨#[]⟩, .string ⟨#[]⟩, .string ⟨#[]⟩, .string ⟨#[]⟩] 26 28
  have HR := Lib.hid (fun w => read66 C1 C2 w hC1 hC2)
  have k0 := cells2 g0
  have HO := Lib.hid ho
  have HO' := Lib.hid ho'
  clear ho ho'
  clear hC1 hC2
  go_enter Tryz.func22, Tryz.ntmps22
  go_wp2_with fail
  generalize (w.alloc (.cells #[.string C1, .string C2] 26)).alloc (.cells #[.int .i64 0, .string ⟨#[]⟩, .string ⟨#[]⟩, .string ⟨#[]⟩, .string ⟨#[]⟩] 28) = W at *
  refine (HR.out W).mono ?_
  rintro e w1 ⟨b, A1, n1, c1, A2, n2, c2, rfl, -, b1⟩
  obtain ⟨ok, hok⟩ : ∃ ok, (rdR (C1.data.toList, C2.data.toList)).isSome = ok := ⟨_, rfl⟩
  rw [hok]
  have HOK := Lib.hid hok
  clear hok
  have b2 := below_trans' b1 b1.size (below_alloc w1 #[.bool b, .slice A1 n1 c1, .slice A2 n2 c2] 57)
  have hlt1 : w.heap.size + 1 < w1.heap.size := lt_of_blk (blk_below b1 g1)
  have k1 := cells2 (blk_below b2 g0)
  have G := blk_below b2 g1
  replace hbW := below_trans' hbW hbW.size b2
  have hl1 := hl.below hbW
  have hm1 := hm.below hbW
  have z0 := free_of_block G
  have z1 := cells5 G
  obtain ⟨y0, y1, y2, y3, y4⟩ := cells5 (set5 G (.int .i64 0) (.string ⟨#[]⟩) (.string ⟨#[]⟩) (.string ⟨#[]⟩) (.string ⟨#[]⟩))
  have hbe := below_sets5 hbW (show w.heap.size ≤ w.heap.size + 1 by omega) (.int .i64 0) (.string ⟨#[]⟩) (.string ⟨#[]⟩) (.string ⟨#[]⟩) (.string ⟨#[]⟩)
  clear k0 g0 g1 G b1 b2 hbW hl hm
  go_wp2_with fail
  generalize w1.alloc (.cells #[.bool b, .slice A1 n1 c1, .slice A2 n2 c2] 57) = w2 at *
  refine (fits_at HO.out hl1).mono ?_
  rintro e w' ⟨rfl, rfl⟩
  go_wp2_with fail
  refine (fits_at HO'.out hm1).mono ?_
  rintro e w' ⟨rfl, rfl⟩
  go_wp2_with fail
  exact bodyPost_ret (v := .tuple #[estV 0 ⟨#[]⟩ ⟨#[]⟩ ⟨#[]⟩ ⟨#[]⟩, .bool false]) (by simp [results, Tryz.results22, go_sem, y0, y1, y2, y3, y4]) rfl ⟨rfl, hbe⟩

set_option maxRecDepth 100000 in
set_option maxHeartbeats 8000000 in
theorem adj22_bad3 (A B : Option Addr) (n m ca cb : Nat) (f g : Nat → Int) (C1 C2 : ByteArray) (w : World) (hl : IntsV w A n ca f) (hm : IntsV w B m cb g) (hC1 : C1.size ≤ maxLen) (hC2 : C2.size ≤ maxLen) (ho : FitB true f n) (ho' : FitB true g m) (hne : ¬ m = n) :
    Calls Tryz.prog 22 #[.slice A n ca, .slice B m cb, .agg #[.string C1, .string C2]] w fun e w' => e = .returned (.tuple #[estV 0 ⟨#[]⟩ ⟨#[]⟩ ⟨#[]⟩ ⟨#[]⟩, .bool false]) ∧ Below w.heap.size w w' := by
  obtain ⟨hbW, g0, g1⟩ := allocs2' w #[.string C1, .string C2] #[.int .i64 0, .string ⟨#[]⟩, .string ⟨#[]⟩, .string ⟨#[]⟩, .string ⟨#[]⟩] 26 28
  have HR := Lib.hid (fun w => read66 C1 C2 w hC1 hC2)
  have k0 := cells2 g0
  have HO := Lib.hid ho
  have HO' := Lib.hid ho'
  have hnf : ¬ (n : Int) = (m : Int) := by omega
  clear ho ho' hne
  clear hC1 hC2
  go_enter Tryz.func22, Tryz.ntmps22
  go_wp2_with fail
  generalize (w.alloc (.cells #[.string C1, .string C2] 26)).alloc (.cells #[.int .i64 0, .string ⟨#[]⟩, .string ⟨#[]⟩, .string ⟨#[]⟩, .string ⟨#[]⟩] 28) = W at *
  refine (HR.out W).mono ?_
  rintro e w1 ⟨b, A1, n1, c1, A2, n2, c2, rfl, -, b1⟩
  obtain ⟨ok, hok⟩ : ∃ ok, (rdR (C1.data.toList, C2.data.toList)).isSome = ok := ⟨_, rfl⟩
  rw [hok]
  have HOK := Lib.hid hok
  clear hok
  have b2 := below_trans' b1 b1.size (below_alloc w1 #[.bool b, .slice A1 n1 c1, .slice A2 n2 c2] 57)
  have hlt1 : w.heap.size + 1 < w1.heap.size := lt_of_blk (blk_below b1 g1)
  have k1 := cells2 (blk_below b2 g0)
  have G := blk_below b2 g1
  replace hbW := below_trans' hbW hbW.size b2
  have hl1 := hl.below hbW
  have hm1 := hm.below hbW
  have z0 := free_of_block G
  have z1 := cells5 G
  obtain ⟨y0, y1, y2, y3, y4⟩ := cells5 (set5 G (.int .i64 0) (.string ⟨#[]⟩) (.string ⟨#[]⟩) (.string ⟨#[]⟩) (.string ⟨#[]⟩))
  have hbe := below_sets5 hbW (show w.heap.size ≤ w.heap.size + 1 by omega) (.int .i64 0) (.string ⟨#[]⟩) (.string ⟨#[]⟩) (.string ⟨#[]⟩) (.string ⟨#[]⟩)
  clear k0 g0 g1 G b1 b2 hbW hl hm
  go_wp2_with fail
  generalize w1.alloc (.cells #[.bool b, .slice A1 n1 c1, .slice A2 n2 c2] 57) = w2 at *
  refine (fits_at HO.out hl1).mono ?_
  rintro e w' ⟨rfl, rfl⟩
  go_wp2_with fail
  refine (fits_at HO'.out hm1).mono ?_
  rintro e w' ⟨rfl, rfl⟩
  go_wp2_with fail
  exact bodyPost_ret (v := .tuple #[estV 0 ⟨#[]⟩ ⟨#[]⟩ ⟨#[]⟩ ⟨#[]⟩, .bool false]) (by simp [results, Tryz.results22, go_sem, y0, y1, y2, y3, y4]) rfl ⟨rfl, hbe⟩

set_option maxRecDepth 100000 in
set_option maxHeartbeats 8000000 in
theorem adj22_bad4 (A B : Option Addr) (n ca cb : Nat) (f g : Nat → Int) (C1 C2 : ByteArray) (w : World) (hl : IntsV w A n ca f) (hm : IntsV w B n cb g) (hC1 : C1.size ≤ maxLen) (hC2 : C2.size ≤ maxLen) (ho : FitB true f n) (ho' : FitB true g n) (hlt : ¬ 2 ≤ n) :
    Calls Tryz.prog 22 #[.slice A n ca, .slice B n cb, .agg #[.string C1, .string C2]] w fun e w' => e = .returned (.tuple #[estV 0 ⟨#[]⟩ ⟨#[]⟩ ⟨#[]⟩ ⟨#[]⟩, .bool false]) ∧ Below w.heap.size w w' := by
  obtain ⟨hbW, g0, g1⟩ := allocs2' w #[.string C1, .string C2] #[.int .i64 0, .string ⟨#[]⟩, .string ⟨#[]⟩, .string ⟨#[]⟩, .string ⟨#[]⟩] 26 28
  have HR := Lib.hid (fun w => read66 C1 C2 w hC1 hC2)
  have k0 := cells2 g0
  have HO := Lib.hid ho
  have HO' := Lib.hid ho'
  have hn2 : (n : Int) < 2 := by omega
  clear ho ho' hlt
  clear hC1 hC2
  go_enter Tryz.func22, Tryz.ntmps22
  go_wp2_with fail
  generalize (w.alloc (.cells #[.string C1, .string C2] 26)).alloc (.cells #[.int .i64 0, .string ⟨#[]⟩, .string ⟨#[]⟩, .string ⟨#[]⟩, .string ⟨#[]⟩] 28) = W at *
  refine (HR.out W).mono ?_
  rintro e w1 ⟨b, A1, n1, c1, A2, n2, c2, rfl, -, b1⟩
  obtain ⟨ok, hok⟩ : ∃ ok, (rdR (C1.data.toList, C2.data.toList)).isSome = ok := ⟨_, rfl⟩
  rw [hok]
  have HOK := Lib.hid hok
  clear hok
  have b2 := below_trans' b1 b1.size (below_alloc w1 #[.bool b, .slice A1 n1 c1, .slice A2 n2 c2] 57)
  have hlt1 : w.heap.size + 1 < w1.heap.size := lt_of_blk (blk_below b1 g1)
  have k1 := cells2 (blk_below b2 g0)
  have G := blk_below b2 g1
  replace hbW := below_trans' hbW hbW.size b2
  have hl1 := hl.below hbW
  have hm1 := hm.below hbW
  have z0 := free_of_block G
  have z1 := cells5 G
  obtain ⟨y0, y1, y2, y3, y4⟩ := cells5 (set5 G (.int .i64 0) (.string ⟨#[]⟩) (.string ⟨#[]⟩) (.string ⟨#[]⟩) (.string ⟨#[]⟩))
  have hbe := below_sets5 hbW (show w.heap.size ≤ w.heap.size + 1 by omega) (.int .i64 0) (.string ⟨#[]⟩) (.string ⟨#[]⟩) (.string ⟨#[]⟩) (.string ⟨#[]⟩)
  clear k0 g0 g1 G b1 b2 hbW hl hm
  go_wp2_with fail
  generalize w1.alloc (.cells #[.bool b, .slice A1 n1 c1, .slice A2 n2 c2] 57) = w2 at *
  refine (fits_at HO.out hl1).mono ?_
  rintro e w' ⟨rfl, rfl⟩
  go_wp2_with fail
  refine (fits_at HO'.out hm1).mono ?_
  rintro e w' ⟨rfl, rfl⟩
  go_wp2_with fail
  exact bodyPost_ret (v := .tuple #[estV 0 ⟨#[]⟩ ⟨#[]⟩ ⟨#[]⟩ ⟨#[]⟩, .bool false]) (by simp [results, Tryz.results22, go_sem, y0, y1, y2, y3, y4]) rfl ⟨rfl, hbe⟩

set_option maxRecDepth 100000 in
set_option maxHeartbeats 8000000 in
theorem adj22_bad5 (A B : Option Addr) (n ca cb : Nat) (f g : Nat → Int) (C1 C2 : ByteArray) (w : World) (hl : IntsV w A n ca f) (hm : IntsV w B n cb g) (hC1 : C1.size ≤ maxLen) (hC2 : C2.size ≤ maxLen) (ho : FitB true f n) (ho' : FitB true g n) (hge : 2 ≤ n) (hb : (rdR (C1.data.toList, C2.data.toList)).isSome = false) :
    Calls Tryz.prog 22 #[.slice A n ca, .slice B n cb, .agg #[.string C1, .string C2]] w fun e w' => e = .returned (.tuple #[estV 0 ⟨#[]⟩ ⟨#[]⟩ ⟨#[]⟩ ⟨#[]⟩, .bool false]) ∧ Below w.heap.size w w' := by
  obtain ⟨hbW, g0, g1⟩ := allocs2' w #[.string C1, .string C2] #[.int .i64 0, .string ⟨#[]⟩, .string ⟨#[]⟩, .string ⟨#[]⟩, .string ⟨#[]⟩] 26 28
  have HR := Lib.hid (fun w => read66 C1 C2 w hC1 hC2)
  have k0 := cells2 g0
  have HO := Lib.hid ho
  have HO' := Lib.hid ho'
  have hn2 : (2 : Int) ≤ n := by omega
  have HB := Lib.hid hb
  clear ho ho' hge hb
  clear hC1 hC2
  go_enter Tryz.func22, Tryz.ntmps22
  go_wp2_with fail
  generalize (w.alloc (.cells #[.string C1, .string C2] 26)).alloc (.cells #[.int .i64 0, .string ⟨#[]⟩, .string ⟨#[]⟩, .string ⟨#[]⟩, .string ⟨#[]⟩] 28) = W at *
  refine (HR.out W).mono ?_
  rintro e w1 ⟨b, A1, n1, c1, A2, n2, c2, rfl, -, b1⟩
  rw [HB.out]
  have b2 := below_trans' b1 b1.size (below_alloc w1 #[.bool b, .slice A1 n1 c1, .slice A2 n2 c2] 57)
  have hlt1 : w.heap.size + 1 < w1.heap.size := lt_of_blk (blk_below b1 g1)
  have k1 := cells2 (blk_below b2 g0)
  have G := blk_below b2 g1
  replace hbW := below_trans' hbW hbW.size b2
  have hl1 := hl.below hbW
  have hm1 := hm.below hbW
  have z0 := free_of_block G
  have z1 := cells5 G
  obtain ⟨y0, y1, y2, y3, y4⟩ := cells5 (set5 G (.int .i64 0) (.string ⟨#[]⟩) (.string ⟨#[]⟩) (.string ⟨#[]⟩) (.string ⟨#[]⟩))
  have hbe := below_sets5 hbW (show w.heap.size ≤ w.heap.size + 1 by omega) (.int .i64 0) (.string ⟨#[]⟩) (.string ⟨#[]⟩) (.string ⟨#[]⟩) (.string ⟨#[]⟩)
  clear k0 g0 g1 G b1 b2 hbW hl hm
  go_wp2_with fail
  generalize w1.alloc (.cells #[.bool b, .slice A1 n1 c1, .slice A2 n2 c2] 57) = w2 at *
  refine (fits_at HO.out hl1).mono ?_
  rintro e w' ⟨rfl, rfl⟩
  go_wp2_with fail
  refine (fits_at HO'.out hm1).mono ?_
  rintro e w' ⟨rfl, rfl⟩
  go_wp2_with fail
  exact bodyPost_ret (v := .tuple #[estV 0 ⟨#[]⟩ ⟨#[]⟩ ⟨#[]⟩ ⟨#[]⟩, .bool false]) (by simp [results, Tryz.results22, go_sem, y0, y1, y2, y3, y4]) rfl ⟨rfl, hbe⟩

set_option maxRecDepth 100000 in
set_option maxHeartbeats 8000000 in
theorem adj22_bad6 (A B : Option Addr) (n ca cb : Nat) (f g : Nat → Int) (C1 C2 : ByteArray) (w : World) (hl : IntsV w A n ca f) (hm : IntsV w B n cb g) (hC1 : C1.size ≤ maxLen) (hC2 : C2.size ≤ maxLen) (ho : FitB true f n) (ho' : FitB true g n) (hge : 2 ≤ n) (hb : (rdR (C1.data.toList, C2.data.toList)).isSome = true) (hlong : 50 < C1.size) :
    Calls Tryz.prog 22 #[.slice A n ca, .slice B n cb, .agg #[.string C1, .string C2]] w fun e w' => e = .returned (.tuple #[estV 0 ⟨#[]⟩ ⟨#[]⟩ ⟨#[]⟩ ⟨#[]⟩, .bool false]) ∧ Below w.heap.size w w' := by
  obtain ⟨hbW, g0, g1⟩ := allocs2' w #[.string C1, .string C2] #[.int .i64 0, .string ⟨#[]⟩, .string ⟨#[]⟩, .string ⟨#[]⟩, .string ⟨#[]⟩] 26 28
  have HR := Lib.hid (fun w => read66 C1 C2 w hC1 hC2)
  have k0 := cells2 g0
  have HO := Lib.hid ho
  have HO' := Lib.hid ho'
  have hn2 : (2 : Int) ≤ n := by omega
  have HB := Lib.hid hb
  have hlI : (50 : Int) < C1.size := by omega
  clear ho ho' hge hb hlong
  clear hC1 hC2
  go_enter Tryz.func22, Tryz.ntmps22
  go_wp2_with fail
  generalize (w.alloc (.cells #[.string C1, .string C2] 26)).alloc (.cells #[.int .i64 0, .string ⟨#[]⟩, .string ⟨#[]⟩, .string ⟨#[]⟩, .string ⟨#[]⟩] 28) = W at *
  refine (HR.out W).mono ?_
  rintro e w1 ⟨b, A1, n1, c1, A2, n2, c2, rfl, -, b1⟩
  rw [HB.out]
  have b2 := below_trans' b1 b1.size (below_alloc w1 #[.bool b, .slice A1 n1 c1, .slice A2 n2 c2] 57)
  have hlt1 : w.heap.size + 1 < w1.heap.size := lt_of_blk (blk_below b1 g1)
  have k1 := cells2 (blk_below b2 g0)
  have G := blk_below b2 g1
  replace hbW := below_trans' hbW hbW.size b2
  have hl1 := hl.below hbW
  have hm1 := hm.below hbW
  have z0 := free_of_block G
  have z1 := cells5 G
  obtain ⟨y0, y1, y2, y3, y4⟩ := cells5 (set5 G (.int .i64 0) (.string ⟨#[]⟩) (.string ⟨#[]⟩) (.string ⟨#[]⟩) (.string ⟨#[]⟩))
  have hbe := below_sets5 hbW (show w.heap.size ≤ w.heap.size + 1 by omega) (.int .i64 0) (.string ⟨#[]⟩) (.string ⟨#[]⟩) (.string ⟨#[]⟩) (.string ⟨#[]⟩)
  clear k0 g0 g1 G b1 b2 hbW hl hm
  go_wp2_with fail
  generalize w1.alloc (.cells #[.bool b, .slice A1 n1 c1, .slice A2 n2 c2] 57) = w2 at *
  refine (fits_at HO.out hl1).mono ?_
  rintro e w' ⟨rfl, rfl⟩
  go_wp2_with fail
  refine (fits_at HO'.out hm1).mono ?_
  rintro e w' ⟨rfl, rfl⟩
  go_wp2_with fail
  exact bodyPost_ret (v := .tuple #[estV 0 ⟨#[]⟩ ⟨#[]⟩ ⟨#[]⟩ ⟨#[]⟩, .bool false]) (by simp [results, Tryz.results22, go_sem, y0, y1, y2, y3, y4]) rfl ⟨rfl, hbe⟩

set_option maxRecDepth 100000 in
set_option maxHeartbeats 8000000 in
theorem adj22_bad7 (A B : Option Addr) (n ca cb : Nat) (f g : Nat → Int) (C1 C2 : ByteArray) (w : World) (hl : IntsV w A n ca f) (hm : IntsV w B n cb g) (hC1 : C1.size ≤ maxLen) (hC2 : C2.size ≤ maxLen) (ho : FitB true f n) (ho' : FitB true g n) (hge : 2 ≤ n) (hb : (rdR (C1.data.toList, C2.data.toList)).isSome = true) (hshort : C1.size ≤ 50) (hlong : 50 < C2.size) :
    Calls Tryz.prog 22 #[.slice A n ca, .slice B n cb, .agg #[.string C1, .string C2]] w fun e w' => e = .returned (.tuple #[estV 0 ⟨#[]⟩ ⟨#[]⟩ ⟨#[]⟩ ⟨#[]⟩, .bool false]) ∧ Below w.heap.size w w' := by
  obtain ⟨hbW, g0, g1⟩ := allocs2' w #[.string C1, .string C2] #[.int .i64 0, .string ⟨#[]⟩, .string ⟨#[]⟩, .string ⟨#[]⟩, .string ⟨#[]⟩] 26 28
  have HR := Lib.hid (fun w => read66 C1 C2 w hC1 hC2)
  have k0 := cells2 g0
  have HO := Lib.hid ho
  have HO' := Lib.hid ho'
  have hn2 : (2 : Int) ≤ n := by omega
  have HB := Lib.hid hb
  have hsI : (C1.size : Int) ≤ 50 := by omega
  have hlI : (50 : Int) < C2.size := by omega
  clear ho ho' hge hb hlong hshort
  clear hC1 hC2
  go_enter Tryz.func22, Tryz.ntmps22
  go_wp2_with fail
  generalize (w.alloc (.cells #[.string C1, .string C2] 26)).alloc (.cells #[.int .i64 0, .string ⟨#[]⟩, .string ⟨#[]⟩, .string ⟨#[]⟩, .string ⟨#[]⟩] 28) = W at *
  refine (HR.out W).mono ?_
  rintro e w1 ⟨b, A1, n1, c1, A2, n2, c2, rfl, -, b1⟩
  rw [HB.out]
  have b2 := below_trans' b1 b1.size (below_alloc w1 #[.bool b, .slice A1 n1 c1, .slice A2 n2 c2] 57)
  have hlt1 : w.heap.size + 1 < w1.heap.size := lt_of_blk (blk_below b1 g1)
  have k1 := cells2 (blk_below b2 g0)
  have G := blk_below b2 g1
  replace hbW := below_trans' hbW hbW.size b2
  have hl1 := hl.below hbW
  have hm1 := hm.below hbW
  have z0 := free_of_block G
  have z1 := cells5 G
  obtain ⟨y0, y1, y2, y3, y4⟩ := cells5 (set5 G (.int .i64 0) (.string ⟨#[]⟩) (.string ⟨#[]⟩) (.string ⟨#[]⟩) (.string ⟨#[]⟩))
  have hbe := below_sets5 hbW (show w.heap.size ≤ w.heap.size + 1 by omega) (.int .i64 0) (.string ⟨#[]⟩) (.string ⟨#[]⟩) (.string ⟨#[]⟩) (.string ⟨#[]⟩)
  clear k0 g0 g1 G b1 b2 hbW hl hm
  go_wp2_with fail
  generalize w1.alloc (.cells #[.bool b, .slice A1 n1 c1, .slice A2 n2 c2] 57) = w2 at *
  refine (fits_at HO.out hl1).mono ?_
  rintro e w' ⟨rfl, rfl⟩
  go_wp2_with fail
  refine (fits_at HO'.out hm1).mono ?_
  rintro e w' ⟨rfl, rfl⟩
  go_wp2_with fail
  exact bodyPost_ret (v := .tuple #[estV 0 ⟨#[]⟩ ⟨#[]⟩ ⟨#[]⟩ ⟨#[]⟩, .bool false]) (by simp [results, Tryz.results22, go_sem, y0, y1, y2, y3, y4]) rfl ⟨rfl, hbe⟩

theorem adj_bad (A B : Option Addr) (n m ca cb : Nat) (f g : Nat → Int) (C1 C2 : ByteArray) (hC1 : C1.size ≤ maxLen) (hC2 : C2.size ≤ maxLen) (hbad : ¬ (m = n ∧ 2 ≤ n ∧ Fit f n ∧ Fit g n ∧ cenOk C1 C2)) (w : World) (hl : IntsV w A n ca f) (hm : IntsV w B m cb g) :
    (Calls Tryz.prog 21 #[.slice A n ca, .slice B m cb, .agg #[.string C1, .string C2]] w fun e w' => e = .returned (.tuple #[estV 0 ⟨#[]⟩ ⟨#[]⟩ ⟨#[]⟩ ⟨#[]⟩, .bool false]) ∧ Below w.heap.size w w') ∧
    (Calls Tryz.prog 22 #[.slice A n ca, .slice B m cb, .agg #[.string C1, .string C2]] w fun e w' => e = .returned (.tuple #[estV 0 ⟨#[]⟩ ⟨#[]⟩ ⟨#[]⟩ ⟨#[]⟩, .bool false]) ∧ Below w.heap.size w w') := by
  obtain ⟨o, ho⟩ := fit_or f n
  obtain ⟨o', ho'⟩ := fit_or g m
  by_cases hfit : m = n ∧ 2 ≤ n ∧ Fit f n ∧ Fit g n
  · obtain ⟨rfl, h2, hf, hg⟩ := hfit
    have hc : ¬ cenOk C1 C2 := fun h => hbad ⟨rfl, h2, hf, hg, h⟩
    cases hb : (rdR (C1.data.toList, C2.data.toList)).isSome with
    | false => exact ⟨adj46_bad2 A B m m ca cb f g C1 C2 w hl hm hC1 hC2 ⟨rfl, h2, hf, hg⟩ hb, adj22_bad5 A B m ca cb f g C1 C2 w hl hm hC1 hC2 (fitT hf) (fitT hg) h2 hb⟩
    | true =>
      have hlong : 50 < C1.size ∨ 50 < C2.size := by
        by_cases h1 : 50 < C1.size
        · exact .inl h1
        · by_cases h3 : 50 < C2.size
          · exact .inr h3
          · exact absurd ⟨hb, by omega, by omega⟩ hc
      refine ⟨adj46_bad3 A B m m ca cb f g C1 C2 w hl hm hC1 hC2 ⟨rfl, h2, hf, hg⟩ hb hlong, ?_⟩
      by_cases h1 : 50 < C1.size
      · exact adj22_bad6 A B m ca cb f g C1 C2 w hl hm hC1 hC2 (fitT hf) (fitT hg) h2 hb h1
      · exact adj22_bad7 A B m ca cb f g C1 C2 w hl hm hC1 hC2 (fitT hf) (fitT hg) h2 hb (by omega) (by omega)
  · refine ⟨adj46_bad1 A B n m ca cb f g C1 C2 w hl hm hC1 hC2 hfit, ?_⟩
    cases o with
    | false => exact adj22_bad1 A B n m ca cb f g C1 C2 w hl hm hC1 hC2 ho
    | true =>
      cases o' with
      | false => exact adj22_bad2 A B n m ca cb f g C1 C2 w hl hm hC1 hC2 ho ho'
      | true =>
        by_cases hne : m = n
        · subst hne
          exact adj22_bad4 A B m ca cb f g C1 C2 w hl hm hC1 hC2 ho ho' (fun h => hfit ⟨rfl, h, ho.out.1 rfl, ho'.out.1 rfl⟩)
        · exact adj22_bad3 A B n m ca cb f g C1 C2 w hl hm hC1 hC2 ho ho' hne

/-- Both functions hand back this value and make memory. -/
def Two (p q : FuncId) (args : Array Value) (c : Value) (w : World) : Prop :=
  (Calls Tryz.prog p args w fun e w' => e = .returned c ∧ Below w.heap.size w w') ∧ (Calls Tryz.prog q args w fun e w' => e = .returned c ∧ Below w.heap.size w w')
abbrev ratT (X Y : ByteArray) (ok : Bool) : Value := .tuple #[.agg #[.string X, .string Y], .bool ok]
abbrev estT (n : Int) (X Y V W : ByteArray) (ok : Bool) : Value := .tuple #[estV n X Y V W, .bool ok]
theorem tx_of {a b : Nat} {x : Rat} (h : E2 a b x) (ha : a ≤ 1300) (hb : b ≤ 1300) : ∃ X Y, Tx X Y x := by
  obtain ⟨X, Y, -, h⟩ := txV_tx (h.fits ha hb)
  exact ⟨X, Y, h⟩

theorem mean_two (A : Option Addr) (n c : Nat) (f : Nat → Int) : ∃ X Y ok, ∀ w, IntsV w A n c f → Two 15 16 #[.slice A n c] (ratT X Y ok) w := by
  by_cases h : 1 ≤ n ∧ Fit f n
  · obtain ⟨X, Y, h'⟩ := tx_of (mean_E2 h.2 h.1) (by omega) (by omega)
    exact ⟨X, Y, true, fun w hl => ⟨mean44 A n c f X Y w hl h.2 h.1 h', mean16 A n c f X Y w hl h.2 h.1 h'⟩⟩
  · exact ⟨_, _, _, fun w hl => ⟨mean44_bad A n c f w hl h, mean16_bad A n c f w hl h⟩⟩
theorem cov_two (A B : Option Addr) (n m ca cb : Nat) (f g : Nat → Int) : ∃ X Y ok, ∀ w, IntsV w A n ca f → IntsV w B m cb g → Two 17 18 #[.slice A n ca, .slice B m cb] (ratT X Y ok) w := by
  by_cases h : m = n ∧ 2 ≤ n ∧ Fit f n ∧ Fit g n
  · obtain ⟨rfl, h2, hf, hg⟩ := h
    obtain ⟨X, Y, h'⟩ := tx_of (cov_E2 hf hg h2) (by omega) (by omega)
    exact ⟨X, Y, true, fun w hl hm => ⟨covariance43 A B m ca cb f g X Y w hl hm hf hg h2 h', cov18 A B m ca cb f g X Y w hl hm hf hg h2 h'⟩⟩
  · exact ⟨_, _, _, fun w hl hm => ⟨covariance43_bad A B n m ca cb f g w hl hm h, cov18_bad A B n m ca cb f g w hl hm h⟩⟩
theorem of_two (A : Option Addr) (n c : Nat) (f : Nat → Int) : ∃ N X Y V W ok, ∀ w, IntsV w A n c f → Two 24 7 #[.slice A n c] (estT N X Y V W ok) w := by
  by_cases h : 2 ≤ n ∧ Fit f n
  · obtain ⟨X, Y, h'⟩ := tx_of (mean_E2 h.2 (by omega)) (by omega) (by omega)
    obtain ⟨V, W, h''⟩ := tx_of (var_E2 h.2 h.1) (by omega) (by omega)
    exact ⟨n, X, Y, V, W, true, fun w hl => ⟨of36 A n c f X Y V W w hl h.2 h.1 h' h'', of7 A n c f X Y V W w hl h.2 h.1 h' h''⟩⟩
  · exact ⟨_, _, _, _, _, _, fun w hl => ⟨of36_bad A n c f w hl h, of7_bad A n c f w hl h⟩⟩
theorem ratio_two (A B : Option Addr) (n m ca cb : Nat) (f g : Nat → Int) : ∃ N X Y V W ok, ∀ w, IntsV w A n ca f → IntsV w B m cb g → Two 19 20 #[.slice A n ca, .slice B m cb] (estT N X Y V W ok) w := by
  by_cases h : m = n ∧ 2 ≤ n ∧ Fit f n ∧ Fit g n
  · obtain ⟨rfl, h2, hf, hg⟩ := h
    by_cases h0 : sumF g m = 0
    · exact ⟨_, _, _, _, _, _, fun w hl hm => ⟨ratio45_zero A B m ca cb f g w hl hm h2 hf hg h0, ratio20_zero A B m ca cb f g w hl hm h2 hf hg h0⟩⟩
    · obtain ⟨X, Y, h'⟩ := tx_of (ratR_E2 hf hg h0) (by omega) (by omega)
      obtain ⟨V, W, h''⟩ := tx_of (ratV_E2 hf hg h2 h0) (by omega) (by omega)
      exact ⟨m, X, Y, V, W, true, fun w hl hm => ⟨ratio45 A B m ca cb f g X Y V W w hl hm hf hg h2 h0 h' h'', ratio20 A B m ca cb f g X Y V W w hl hm hf hg h2 h0 h' h''⟩⟩
  · exact ⟨_, _, _, _, _, _, fun w hl hm => ⟨ratio45_bad A B n m ca cb f g w hl hm h, ratio20_bad A B n m ca cb f g w hl hm h⟩⟩
theorem adj_two (A B : Option Addr) (n m ca cb : Nat) (f g : Nat → Int) (C1 C2 : ByteArray) (hC1 : C1.size ≤ maxLen) (hC2 : C2.size ≤ maxLen) : ∃ N X Y V W ok, ∀ w, IntsV w A n ca f → IntsV w B m cb g → Two 21 22 #[.slice A n ca, .slice B m cb, .agg #[.string C1, .string C2]] (estT N X Y V W ok) w := by
  by_cases h : m = n ∧ 2 ≤ n ∧ Fit f n ∧ Fit g n ∧ cenOk C1 C2
  · obtain ⟨rfl, h2, hf, hg, hc, h1, h3⟩ := h
    obtain ⟨c, hc⟩ := Option.isSome_iff_exists.1 hc
    have TC := Tx.of_rd hc
    obtain ⟨X, Y, h'⟩ := tx_of (adjM_E2 hf hg h2 (cen_E2 TC h1 h3)).2.2 (by omega) (by omega)
    obtain ⟨V, W, h''⟩ := tx_of (adjV_E2 hf hg h2).2.2.2.2.2.2 (by omega) (by omega)
    exact ⟨m, X, Y, V, W, true, fun w hl hm => ⟨adjusted46 A B m ca cb f g c C1 C2 X Y V W w hl hm hf hg h2 TC h1 h3 h' h'', adj22 A B m ca cb f g c C1 C2 X Y V W w hl hm hf hg h2 TC h1 h3 h' h''⟩⟩
  · exact ⟨_, _, _, _, _, _, fun w hl hm => adj_bad A B n m ca cb f g C1 C2 hC1 hC2 h w hl hm⟩

/-- A fraction of the laws: also where the divisor is zero. -/
theorem frac_zero {a : Int} (ha1 : -9223372036854775808 ≤ a) (ha2 : a ≤ 9223372036854775807) (hf : fitsR (frQ a 3)) :
    ∃ A B, Tx A B (frQ a 3) ∧ Gives 9 #[.int .i64 a, .int .i64 0] A B := by
  obtain ⟨A, B, h1, h2⟩ := txV_tx hf
  refine ⟨A, B, h2, fun w => ?_⟩
  have hof := fun w => of22 a 3 w ha1 ha2 (by decide) (by decide)
  have e : ofT a 3 = wrR (frQ a 3) := ofT_fr (by decide)
  rw [e, h1] at hof
  have HO := Lib.hid hof
  have g0 := heap_alloc_new w (.cells #[.string ⟨#[]⟩, .string ⟨#[]⟩] 26)
  have hbW : Below w.heap.size w (w.alloc (.cells #[.string ⟨#[]⟩, .string ⟨#[]⟩] 26)) := (Below.refl _ _).alloc (Nat.le_refl _) _
  clear hof e h1
  go_enter Tryz.func9, Tryz.ntmps9
  go_wp2_with fail
  generalize w.alloc (.cells #[.string ⟨#[]⟩, .string ⟨#[]⟩] 26) = W at *
  refine (HO.out W).mono ?_
  rintro e w1 ⟨rfl, hb1⟩
  have hst := below_trans' hb1 hb1.size ((Below.refl w1.heap.size w1).alloc (Nat.le_refl _) (.cells #[.string A, .string B] 26))
  have G0 := blk_below hst g0
  have z0 := free_of_block G0
  have z1 := cells2 G0
  have y2 := cells2 (heap_alloc_new w1 (.cells #[.string A, .string B] 26))
  have hB := below_trans' hbW hbW.size hst
  go_wp2_with fail
  obtain ⟨t0, t1⟩ := ret2 (A := A) (B := B) G0
  have hbe := below_sets2 hB (Nat.le_refl _) (.string A) (.string B)
  exact bodyPost_ret (v := .agg #[.string A, .string B]) (by simp [results, Tryz.results9, go_sem, t0, t1]) rfl ⟨rfl, hbe⟩
theorem q_E2 {a b : Int} (hb : b ≠ 0) (ha1 : -9223372036854775808 ≤ a) (ha2 : a ≤ 9223372036854775807) (hb1 : -9223372036854775808 ≤ b) (hb2 : b ≤ 9223372036854775807) : E2 63 63 (frQ a b) :=
  E2.of_int hb (by simp; omega) (by simp; omega)
theorem frac_any {a b : Int} (ha1 : -9223372036854775808 ≤ a) (ha2 : a ≤ 9223372036854775807) (hb1 : -9223372036854775808 ≤ b) (hb2 : b ≤ 9223372036854775807) :
    ∃ A B x, Tx A B x ∧ Gives 9 #[.int .i64 a, .int .i64 b] A B := by
  by_cases hb : b = 0
  · subst hb
    obtain ⟨A, B, h1, h2⟩ := frac_zero ha1 ha2 ((q_E2 (b := 3) (by decide) ha1 ha2 (by decide) (by decide)).fits (by decide) (by decide))
    exact ⟨A, B, _, h1, h2⟩
  · obtain ⟨A, B, h1, h2⟩ := frac37 hb ha1 ha2 hb1 hb2 ((q_E2 hb ha1 ha2 hb1 hb2).fits (by decide) (by decide))
    exact ⟨A, B, _, h1, h2⟩
end Go.Proofs.YtpligjkbnlfhgaaGreatDoor
