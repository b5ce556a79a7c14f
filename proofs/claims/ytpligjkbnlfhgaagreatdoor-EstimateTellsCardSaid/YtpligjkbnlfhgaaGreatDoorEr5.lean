/- A list of fractions of the reference, in memory beside fractions in blocks of their own. No statement is proved here. -/
import Derived.Test.YtpligjkbnlfhgaaGreatDoorEr4
import Derived.Test.YtpligjkbnlfhgaaGreatDoorLst
import Derived.Test.YtpligjkbnlfhgaaGreatDoorEst2
namespace Go.Proofs.YtpligjkbnlfhgaaGreatDoor
open Go.RowKit

/-- An append that is known to run. -/
theorem wpList_append_ok {P : Program} {ops : Array Oper} {rest : List Oper} {o : Oper} {a : Act} {Q : Exit → Act → World → Prop} {w w' : World} (hgd : o.guard = none) (s x : Operand) (t : TypeId)
    (ho : o.op = .call { callee := .builtin .append, args := #[s, x], argTypes := #[t, t] }) {v1 v2 v' : Value} (hs : a.eval s = v1) (hx : a.eval x = v2)
    (hr : (Builtin.append_ #[t, t] o.type #[v1, v2]).run P w = .ok v' w') (h : wpList P ops Q rest (a.put o.dst v') w') : wpList P ops Q (o :: rest) a w := by
  refine wpList_plain hgd fun K hK => ?_
  unfold Oper.wp execOp
  simp only [ho, resolve, invoke, builtin, Sem.run_bind, Sem.run_pure, Result.andThen_ok, List.map_toArray, List.map_cons, List.map_nil, hs, hx, hr]
  exact hK _ _ h

abbrev FV : Type := Bool × (Option Addr × Nat × Nat) × (Option Addr × Nat × Nat)
def frC (x : FV) : List Value := [.bool x.1, .slice x.2.1.1 x.2.1.2.1 x.2.1.2.2, .slice x.2.2.1 x.2.2.2.1 x.2.2.2.2]
def fvV (x : FV) : Value := .agg #[.bool x.1, .slice x.2.1.1 x.2.1.2.1 x.2.1.2.2, .slice x.2.2.1 x.2.2.2.1 x.2.2.2.2]
theorem frC_len (x : FV) : (frC x).length = 3 := rfl
def noDig (cs : List Value) : Prop := ∀ u ∈ cs, ∀ z : Nat, u ≠ u32V z
theorem noDig.get {cs : Array Value} (h : noDig cs.toList) (k z : Nat) : cs[k]? ≠ some (u32V z) := fun e => h _ (Array.mem_toList_iff.2 (Array.mem_of_getElem? e)) z rfl
theorem frC_no (x : FV) : noDig (frC x) := fun u hu z e => by
  subst e
  simp [frC, u32V] at hu
theorem flat_no : ∀ L : List FV, noDig (L.flatMap frC)
  | [] => fun u hu => by simp at hu
  | x :: L => fun u hu => by
    rw [List.flatMap_cons, List.mem_append] at hu
    exact hu.elim (frC_no x u) (flat_no L u)
/-- The slice's block holds no digits. -/
def NoD (w : World) (v : Value) : Prop := ∀ g, v.ownBlock = some g → ∃ cur, w.heap[g]? = some (.cells cur 57 (0, 0)) ∧ noDig cur.toList
theorem NoD.nil (w : World) : NoD w (.slice none 0 0) := fun g h => by cases h
theorem NoD.below {w w' : World} {v : Value} (h : NoD w v) (hb : Below w.heap.size w w') : NoD w' v := fun g hg => by
  obtain ⟨cur, h1, h2⟩ := h g hg
  exact ⟨cur, blk_below hb h1, h2⟩
theorem info57 : (Tryz.prog.info? 57).map (fun i => (i.zero, i.size, i.bytes)) = some (some (.agg #[.bool false, .slice none 0 0, .slice none 0 0]), 3, 56) := by kernel_rfl

theorem zero_no (n : Nat) : noDig (Builtin.zeroCells (Value.cells (.agg #[.bool false, .slice none 0 0, .slice none 0 0])) n).toList := fun u hu z e => by
  subst e
  simp [Builtin.zeroCells, Value.cells, u32V] at hu
  obtain ⟨a, -, ha⟩ := hu
  have h3 : a % 3 < 3 := Nat.mod_lt _ (by decide)
  generalize a % 3 = j at *
  match j, h3 with
  | 0, _ => simp at ha
  | 1, _ => simp at ha
  | 2, _ => simp at ha

set_option maxRecDepth 100000 in
theorem app_frac {w : World} {B : Nat} {v : Value} {L : List FV} (hown : Own frC 57 3 w B v L) (hnd : NoD w v) (h : Nat) (x : FV) (hx : w.heap[h]? = some (.cells (frC x).toArray 57 (0, 0))) (hB : B ≤ w.heap.size) (hl : L.length ≤ 512) :
    ∃ v' w', (Builtin.append_ #[83, 83] 83 #[v, .slice (some ⟨h, 0, none⟩) 1 1]).run Tryz.prog w = .ok v' w' ∧ Own frC 57 3 w' B v' (L ++ [x]) ∧ NoD w' v' ∧ w.grownBy w' v.ownBlock ∧ (v'.ownBlock = v.ownBlock ∨ v'.ownBlock = some w.heap.size) := by
  obtain ⟨i, hi, hz0, hz1, hz2⟩ := info_parts info57
  have hnews : ∀ j u, (frC x)[j]? = some u → w.cell? ((⟨h, 0, none⟩ : Addr).add j) = some u := fun j u hu => by
    have := World.news_of_block hx j u (by simpa using hu)
    exact this
  obtain ⟨v', w', hr, h2, h3, h4, h5⟩ := run_append_own_at (P := Tryz.prog) w B 83 83 57 i _ 3 56 Tryz.underlying83 hi hz0 hz1 hz2 rfl (by omega) v L.length (L.flatMap frC) hown ⟨h, 0, none⟩ 1 1 (frC x) rfl hnews (by simp [frC, Value.oneCell']) (by unfold maxLen; omega) (by omega) hB
  refine ⟨v', w', hr, Own.snoc h2, fun g' hg' => ?_, h3, h5⟩
  rcases hown.2 with ⟨rfl, h0⟩ | ⟨g, cap, cur, rfl, hbg, hg, hnc, hcm, hcs, htake⟩
  · have hnil : L = [] := List.eq_nil_of_length_eq_zero h0
    subst hnil
    have hr2 := run_append_nil (P := Tryz.prog) w 83 83 57 i _ Tryz.underlying83 hi hz0 ⟨h, 0, none⟩ 1 1 (frC x) (by rw [hz1]; rfl) hnews (by omega) (by omega) (by rw [hz2]; omega)
    rw [hr] at hr2
    injection hr2 with e1 e2
    subst e1 e2
    injection hg' with e
    subst e
    refine ⟨_, heap_alloc_new w.drew _, ?_⟩
    rw [Array.toList_append]
    exact fun u hu => (List.mem_append.1 hu).elim (frC_no x u) (zero_no _ u)
  · by_cases hroom : L.length + 1 ≤ cap
    · have hfit : L.length * i.size + (frC x).length ≤ cur.size := by rw [hz1, hcs, frC_len, show L.length * 3 + 3 = (L.length + 1) * 3 from by rw [Nat.add_mul]]; exact Nat.mul_le_mul_right 3 hroom
      have hr2 := run_append_room (P := Tryz.prog) w 83 83 57 i Tryz.underlying83 hi g L.length cap cur hg ⟨h, 0, none⟩ 1 1 (frC x) (by rw [hz1]; rfl) hnews (by simp [frC, Value.oneCell']) hroom hfit
      rw [hr] at hr2
      injection hr2 with e1 e2
      subst e1 e2
      injection hg' with e
      subst e
      obtain ⟨cur', q1, q2⟩ := hnd g rfl
      obtain rfl : cur' = cur := by rw [hg] at q1; injection q1 with q1; injection q1 with q1; exact q1.symm
      refine ⟨_, setRow_heap w g cur' _ 57 _ hg, ?_⟩
      intro u hu
      simp only [List.append_assoc, List.mem_append] at hu
      rcases hu with hu | hu | hu
      · exact q2 u (List.mem_of_mem_take hu)
      · exact frC_no x u hu
      · exact q2 u (List.mem_of_mem_drop hu)
    · have holds : ∀ j u, (L.flatMap frC)[j]? = some u → w.cell? ((⟨g, 0, none⟩ : Addr).add j) = some u := World.ownsRow.cells hown (g := g) rfl
      have hr2 := run_append_grow (P := Tryz.prog) w 83 83 57 i _ Tryz.underlying83 hi hz0 ⟨g, 0, none⟩ L.length cap (L.flatMap frC) (by rw [hz1]; exact hown.1) holds ⟨h, 0, none⟩ 1 1 (frC x) (by rw [hz1]; rfl) hnews (by omega) (by omega) (growslice_fits (by omega) (by rw [hz2]; omega))
      rw [hr] at hr2
      injection hr2 with e1 e2
      subst e1 e2
      injection hg' with e
      subst e
      refine ⟨_, heap_alloc_new w.drew _, ?_⟩
      rw [Array.toList_append, Array.toList_append]
      exact fun u hu => (List.mem_append.1 hu).elim (fun hu => (List.mem_append.1 hu).elim (flat_no L u) (frC_no x u)) (zero_no _ u)

/-- As FI, with a list of fractions. -/
structure FR (w wr : World) (L : List (Nat × Rat)) (O : List (Nat × Obj)) (v : Value) (xs : List FV) (q : Nat → Rat) : Prop where
  base : FI w wr L O
  own : Own frC 57 3 wr w.heap.size v xs
  nod : NoD wr v
  num : ∀ (i : Nat) x, xs[i]? = some x → FrR wr (fvV x) (q i)
  off : ∀ g, v.ownBlock = some g → g ∉ L.map (·.1) ++ O.map (·.1)
section
variable {w wr wx : World} {L L1 L2 L' : List (Nat × Rat)} {O O' : List (Nat × Obj)} {v : Value} {xs : List FV} {q : Nat → Rat} {S D : Nat} {s b0 : Bool} {A1 A2 A3 A4 : Option Addr} {n1 c1 n2 c2 n3 c3 n4 c4 : Nat} {x y : Rat} {t : TypeId}
theorem FR.start (h : FI w wr L O) (q : Nat → Rat) : FR w wr L O (.slice none 0 0) [] q := ⟨h, Own.nil _ _ _ _ _, NoD.nil _, fun i x h => by simp at h, fun g h => by cases h⟩
theorem FR.below (h : FR w wr L O v xs q) : Below w.heap.size w wr := h.base.below
theorem FR.at (h : FR w wr L O v xs q) (b : Nat) (x : Rat) (hm : (b, x) ∈ L) : FB wr b x := h.base.at b x hm
theorem FR.ob (h : FR w wr L O v xs q) : ∀ p ∈ O, w.heap.size ≤ p.1 ∧ wr.heap[p.1]? = some p.2 := h.base.ob
theorem FR.go (h : FR w wr L O v xs q) (hb : Below wr.heap.size wr wx) : FR w wx L O v xs q :=
  ⟨h.base.go hb, h.own.below hb, h.nod.below hb, fun i x hi => (h.num i x hi).below hb, h.off⟩
theorem FR.fresh {o : Obj} (h : FR w wr L O v xs q) (hb : Below wr.heap.size wr wx) (hD : wr.heap.size ≤ D) (gD : wx.heap[D]? = some o) : FR w wx L ((D, o) :: O) v xs q := by
  have h' := h.go hb
  refine ⟨h.base.fresh hb hD gD, h'.own, h'.nod, h'.num, fun g hg hm => ?_⟩
  rw [List.map_cons] at hm
  rcases (List.perm_middle.mem_iff).1 hm |> List.mem_cons.1 with e | hm
  · have := (World.ownsRow.lt h.own g hg).2
    have e' : g = D := e
    omega
  · exact h.off g hg hm
/-- A store into a block that is not the list's. -/
theorem FR.via (h : FR w wr L O v xs q) (hS : wr.heap[S]? = some (.cells #[.bool b0, .slice A3 n3 c3, .slice A4 n4 c4] t (0, 0))) (hm : S ∈ L.map (·.1) ++ O.map (·.1)) {u0 u1 u2 : Value}
    (hI : FI w (((wr.setCell ⟨S, 0, none⟩ u0).setCell ⟨S, 1, none⟩ u1).setCell ⟨S, 2, none⟩ u2) L' O') (hsub : ∀ g, g ∈ L'.map (·.1) ++ O'.map (·.1) → g ∈ L.map (·.1) ++ O.map (·.1)) :
    FR w (((wr.setCell ⟨S, 0, none⟩ u0).setCell ⟨S, 1, none⟩ u1).setCell ⟨S, 2, none⟩ u2) L' O' v xs q := by
  obtain ⟨t0, t1, t2⟩ := sets3 hS u0 u1 u2
  have hne : v.ownBlock ≠ some S := fun e => h.off S e hm
  refine ⟨hI, ?_, fun g hg => ?_, fun i x hi => (h.num i x hi).put hS _ _ _, fun g hg hx => h.off g hg (hsub g hx)⟩
  · exact World.ownsRow.kept (row := some S) h.own ⟨by simp [World.setCell], by simp [World.setCell], by simp [World.setCell], Nat.le_of_eq t2.symm, fun k _ hk => t1 k (fun e => hk (by rw [e]))⟩ (.inr hne)
  · obtain ⟨cur, q1, q2⟩ := h.nod g hg
    exact ⟨cur, (t1 g (fun e => hne (by rw [hg, e]))).trans q1, q2⟩
theorem FR.fill (h : FR w wr L ((S, .cells #[.bool b0, .slice A3 n3 c3, .slice A4 n4 c4] 57 (0, 0)) :: O) v xs q) (hf : FrR wr (.agg #[.bool s, .slice A1 n1 c1, .slice A2 n2 c2]) x) :
    FR w (((wr.setCell ⟨S, 0, none⟩ (.bool s)).setCell ⟨S, 1, none⟩ (.slice A1 n1 c1)).setCell ⟨S, 2, none⟩ (.slice A2 n2 c2)) (L ++ [(S, x)]) O v xs q :=
  h.via (h.ob _ (List.mem_cons_self ..)).2 (by simp) (h.base.fill hf) (fun g hg => by
    rw [List.map_append, List.append_assoc] at hg
    exact hg)
theorem FR.set (h : FR w wr (L1 ++ (S, y) :: L2) O v xs q) (hf : FrR wr (.agg #[.bool s, .slice A1 n1 c1, .slice A2 n2 c2]) x) :
    FR w (((wr.setCell ⟨S, 0, none⟩ (.bool s)).setCell ⟨S, 1, none⟩ (.slice A1 n1 c1)).setCell ⟨S, 2, none⟩ (.slice A2 n2 c2)) (L1 ++ (S, x) :: L2) O v xs q := by
  obtain ⟨-, b0, A3, n3, c3, A4, n4, c4, hS2, -⟩ := h.base.fr (S, y) (List.mem_append_right _ (List.mem_cons_self ..))
  exact h.via hS2 (by simp) (h.base.set hf) (fun g hg => by simpa using hg)
theorem FR.front (h : FR w wr (L1 ++ L2) O v xs q) : FR w wr L1 O v xs q :=
  ⟨FI.front h.base, h.own, h.nod, h.num, fun g hg hm => h.off g hg (by
    rw [List.map_append, List.append_assoc]
    rcases List.mem_append.1 hm with hm | hm
    · exact List.mem_append_left _ hm
    · exact List.mem_append_right _ (List.mem_append_right _ hm))⟩
/-- The append of a fraction that lies in a new block. -/
theorem FR.append (h : FR w wr L O v xs q) (X : FV) (hX : FrR wr (fvV X) (q xs.length)) (hl : xs.length ≤ 512) :
    ∃ v' w', (Builtin.append_ #[83, 83] 83 #[v, .slice (some ⟨wr.heap.size, 0, none⟩) 1 1]).run Tryz.prog (wr.alloc (.cells (frC X).toArray 57)) = .ok v' w' ∧ FR w w' L O v' (xs ++ [X]) q := by
  have h1 := h.go (below_alloc wr (frC X).toArray 57)
  have hX1 := hX.below (below_alloc wr (frC X).toArray 57)
  obtain ⟨v', w', hr, ho, hn, hg, hat⟩ := app_frac h1.own h1.nod wr.heap.size X (heap_alloc_new wr _) h1.below.size hl
  refine ⟨v', w', hr, ?_⟩
  have keepB : ∀ k, k < (wr.alloc (.cells (frC X).toArray 57)).heap.size → some k ≠ v.ownBlock → w'.heap[k]? = (wr.alloc (.cells (frC X).toArray 57)).heap[k]? := hg.block
  have keepF : ∀ {f : Value} {x : Rat}, FrR (wr.alloc (.cells (frC X).toArray 57)) f x → FrR w' f x := fun {f x} hf => by
    cases hv : v.ownBlock with
    | none =>
      have hb : Below (wr.alloc (.cells (frC X).toArray 57)).heap.size (wr.alloc (.cells (frC X).toArray 57)) w' := ⟨hg.os, hg.tape, hg.output, hg.size, fun k hk => keepB k hk (by rw [hv]; exact fun e => by cases e)⟩
      exact hf.below hb
    | some g =>
      obtain ⟨cur, q1, q2⟩ := h1.nod g hv
      exact hf.but q1 q2.get hg.size (fun k hk hne => keepB k hk (by rw [hv]; exact fun e => hne (by injection e)))
  have hlt := h1.base.lt
  have hne : ∀ b, b ∈ L.map (·.1) ++ O.map (·.1) → some b ≠ v.ownBlock := fun b hb e => h.off b e.symm hb
  refine ⟨⟨h1.below.grown hg h1.below.size (fun k hk => (World.ownsRow.lt h1.own k hk).1), fun p hp => ?_, fun p hp => ?_, h.base.dis⟩, ho, hn, fun i x hi => ?_, fun g hgv hm => ?_⟩
  · have hm : p.1 ∈ L.map (·.1) ++ O.map (·.1) := List.mem_append_left _ (List.mem_map.2 ⟨p, hp, rfl⟩)
    obtain ⟨a, s, A1, n1, c1, A2, n2, c2, b, c⟩ := h1.base.fr p hp
    exact ⟨a, s, A1, n1, c1, A2, n2, c2, (keepB _ (hlt _ hm) (hne _ hm)).trans b, keepF c⟩
  · have hm : p.1 ∈ L.map (·.1) ++ O.map (·.1) := List.mem_append_right _ (List.mem_map.2 ⟨p, hp, rfl⟩)
    exact ⟨(h1.base.ob p hp).1, (keepB _ (hlt _ hm) (hne _ hm)).trans (h1.base.ob p hp).2⟩
  · by_cases hi' : i < xs.length
    · rw [List.getElem?_append_left hi'] at hi
      exact keepF (h1.num i x hi)
    · have hiL : i < (xs ++ [X]).length := (List.getElem?_eq_some_iff.1 hi).1
      rw [List.length_append, List.length_singleton] at hiL
      obtain rfl : i = xs.length := by omega
      rw [List.getElem?_append_right (Nat.le_refl _), Nat.sub_self] at hi
      obtain rfl : X = x := by simpa using hi
      exact keepF hX1
  · rcases hat with e | e
    · exact h.off g (by rw [← e]; exact hgv) hm
    · rw [e] at hgv
      injection hgv with e'
      have := hlt g hm
      omega
end
end Go.Proofs.YtpligjkbnlfhgaaGreatDoor
