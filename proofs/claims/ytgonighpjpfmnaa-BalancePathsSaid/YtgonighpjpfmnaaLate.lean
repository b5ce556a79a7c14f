/- Regions that draw their order, walked once in the order of the text: plain operations by the quiet walk, calls that go on from the world they get, new blocks. No statement is proved here. -/
import Derived.Test.YtgonighpjpfmnaaRegion
import Derived.Deep.QuietTactic
import Derived.BigQuiet
namespace Go.Proofs.Ytgonighpjpfmnaa
open Go.RowKit

abbrev Pred := Value → World → Prop

/-- A world behind w0. -/
def Beh (R : World → World → Prop) (w0 : World) : Type := { w : World // R w0 w }
def Beh.w {R : World → World → Prop} {w0 : World} (x : Beh R w0) : World := x.1
instance behHas (w0 : World) : Nonempty (Beh LeW w0) := ⟨⟨w0, LeW.refl w0⟩⟩
theorem Beh.h {R : World → World → Prop} {w0 : World} (x : Beh R w0) : R w0 x.w := x.2

section
variable {P : Program} {ops : Array Oper} {R : World → World → Prop} {w0 : World} {a0 : Act} {N : Nat}

def withGens (ds : List Tmp) (G : Act → World → Prop) : List (Tmp × Pred) → Act → World → Prop
  | [], a, w => G a w
  | (d, φ) :: pre, a, w => if ds.contains d then ∀ v, φ v w → withGens ds G pre (a.put (some d) v) w else withGens ds G pre a w

def allGens (G : Act → World → Prop) : List (Tmp × Pred) → Act → World → Prop
  | [], a, w => G a w
  | (d, φ) :: pre, a, w => ∀ v, φ v w → allGens G pre (a.put (some d) v) w

def LateAt (P : Program) (ops : Array Oper) (R : World → World → Prop) (w0 : World) (o : Oper) (ds : List Tmp) (s : Option Pred) (pre : List (Tmp × Pred)) (a : Act) (next : List (Tmp × Pred) → Act → Prop) : Prop :=
  match s with
  | none => ∃ c, (∀ x : Beh R w0, withGens ds (fun A w => tOp P ops R o A w (det c)) pre a x.w) ∧ next pre (a.put o.dst c)
  | some φ => (∀ v w w', R w w' → φ v w → φ v w') ∧ (∀ x : Beh R w0, withGens ds (fun A w => tOp P ops R o A w φ) pre a x.w) ∧ next (pre ++ [(o.dst.getD 0, φ)]) (a.put o.dst undef)

def Late (P : Program) (ops : Array Oper) (R : World → World → Prop) (w0 : World) (Fin : List (Tmp × Pred) → Act → Prop) : List (Nat × List Tmp × Option Pred) → Nat → List Oper → List (Tmp × Pred) → Act → Prop
  | [], _, l, pre, a => wpQuiet P ops (fun w => ∃ x : Beh R w0, w = x.w) (fun a' => Fin pre a') l a
  | (k, ds, s) :: plan, i, l, pre, a => wpQuiet P ops (fun w => ∃ x : Beh R w0, w = x.w) (fun a' => match l.drop (k - i) with
      | [] => False
      | o :: l' => LateAt P ops R w0 o ds s pre a' (fun pre' a'' => Late P ops R w0 Fin plan (k + 1) l' pre' a'')) (l.take (k - i)) a

/-! ### Operations that enter no function -/
def plainB : Op → Bool
  | .call { callee := .builtin b, .. } => match b with
    | .len | .cap | .max | .min => true
    | _ => false
  | .call _ | .go _ | .defer _ | .panic _ | .send .. | .recv .. | .select .. | .nilCheck _ => false
  | _ => true

def Result.entersNot : Result Next → Prop
  | .ok (.value _) _ => True
  | .ok .skip _ => True
  | .halt _ _ => True
  | _ => False

theorem entersNot_v (s : Sem Value) (w : World) : Result.entersNot ((do pure (.value (← s)) : Sem Next).run P w) := by
  rw [Sem.run_bind]
  cases s.run P w <;> simp [Result.entersNot, pure]
theorem entersNot_u (s : Sem Unit) (w : World) : Result.entersNot ((do s; pure .skip : Sem Next).run P w) := by
  rw [Sem.run_bind]
  cases s.run P w <;> simp [Result.entersNot, pure]

theorem plain_entersNot (ρ : Operand → Value) (o : Oper) (h : plainB o.op = true) (w : World) : Result.entersNot ((execOp ρ o).run P w) := by
  obtain ⟨dst, op, type, pos, after, guard⟩ := o
  simp only at h
  cases op
  case call c =>
    obtain ⟨cal, args, ats⟩ := c
    cases cal with
    | value f => simp [plainB] at h
    | invoke r m => simp [plainB] at h
    | builtin b =>
      cases b <;> simp [plainB] at h
      all_goals (simp only [execOp, resolve, invoke, builtin, pure_bind]; exact entersNot_v _ _)
  case pick c a b => simp only [execOp]; exact entersNot_v (do pure (if ← asBool (ρ c) then ρ a else ρ b)) _ |> fun h => by simpa [bind_assoc] using h
  all_goals first
    | (simp [plainB] at h; done)
    | (simp only [execOp]; exact entersNot_v _ _)
    | (simp only [execOp]; exact entersNot_u _ _)
    | (simp [execOp, Result.entersNot, pure]; done)
end
section
variable {P : Program} {ops : Array Oper} {R : World → World → Prop} {w0 : World} {a0 : Act} {N : Nat}

/-! ### The static look -/
def dstOf (ops : Array Oper) (j : Nat) : Option Tmp := (ops[j]?).bind (·.dst)

def Late.sortedB (N : Nat) : Nat → List (Nat × List Tmp × Bool) → Bool
  | _, [] => true
  | i, (k, _, _) :: l => decide (i ≤ k) && decide (k < N) && Late.sortedB N (k + 1) l

def Late.genB (plan : List (Nat × List Tmp × Bool)) (j : Nat) : Bool := plan.any fun p => decide (p.1 = j) && p.2.2

def Late.okB (ops : Array Oper) (N : Nat) (plan : List (Nat × List Tmp × Bool)) : Bool :=
  Region.noSelect ops && Late.sortedB N 0 plan &&
  ((List.range N).all fun i => match ops[i]? with
    | none => false
    | some o =>
      ((o.looksAt ops).all fun s => outB ops N s || (depsOf N o).any fun j => decide (dstOf ops j = some s)) &&
      (match plan.find? (fun p => decide (p.1 = i)) with
      | none => plainB o.op && (o.looksAt ops).all fun s => (List.range N).all fun j => !Late.genB plan j || decide (dstOf ops j ≠ some s)
      | some p => (p.2.1.all fun s => (o.looksAt ops).contains s) && (o.looksAt ops).all fun s => p.2.1.contains s || (List.range N).all fun j => !Late.genB plan j || decide (dstOf ops j ≠ some s)))

theorem tOp_congr {o : Oper} {a a' : Act} {w : World} {φ : Pred} (hs : ∀ cs b, o.op ≠ .select cs b) (hz : a.tmps.size = a'.tmps.size) (h : ∀ s ∈ o.looksAt ops, a.tmps.getD s undef = a'.tmps.getD s undef)
    (ht : tOp P ops R o a w φ) : tOp P ops R o a' w φ := by
  have he : execOp a'.eval o = execOp a.eval o := execOp_congr o hs fun x hx => by
    cases x with
    | tmp t => exact (h t (List.mem_append_left _ (List.mem_filterMap.2 ⟨.tmp t, by simpa using hx, rfl⟩))).symm
    | _ => rfl
  have hw : Region.wanted o (yielded ops a'.tmps) = Region.wanted o (yielded ops a.tmps) := by
    unfold Region.wanted
    cases hg : o.guard with
    | none => rfl
    | some gw =>
      obtain ⟨g, want⟩ := gw
      have hy : yielded ops a'.tmps g = yielded ops a.tmps g := by
        unfold yielded
        cases ht : (ops[g]?).bind (·.dst) with
        | none => rfl
        | some t =>
          have h1 := h t (by simp [Oper.looksAt, hg, ht])
          simp only [Option.bind_some]
          by_cases hlt : t < a.tmps.size
          · have hlt' : t < a'.tmps.size := hz ▸ hlt
            simp [Array.getD, hlt, hlt'] at h1
            simp [hlt, hlt', h1]
          · have hlt' : ¬ t < a'.tmps.size := hz ▸ hlt
            simp [hlt, hlt']
      simp only [hy]
  unfold tOp at *
  rw [he, hw]
  exact ht

def putG (F : Act) (l : List (Tmp × Pred)) (a : Act) : Act := l.foldl (fun a p => a.put (some p.1) (F.tmps.getD p.1 undef)) a

theorem putG_keep (F : Act) : ∀ (l : List (Tmp × Pred)) (a : Act), (putG F l a).tmps.size = a.tmps.size ∧ (putG F l a).defers = a.defers
  | [], a => ⟨rfl, rfl⟩
  | p :: l, a => by
    have := putG_keep F l (a.put (some p.1) (F.tmps.getD p.1 undef))
    simp only [putG, List.foldl_cons] at this ⊢
    rw [this.1, this.2, put_size, put_defers]
    exact ⟨rfl, rfl⟩

theorem putG_at (F : Act) (s : Tmp) : ∀ (l : List (Tmp × Pred)) (a : Act), (putG F l a).tmps.getD s undef = if (∃ p ∈ l, p.1 = s) ∧ s < a.tmps.size then F.tmps.getD s undef else a.tmps.getD s undef
  | [], a => by simp [putG]
  | p :: l, a => by
    have h := putG_at F s l (a.put (some p.1) (F.tmps.getD p.1 undef))
    simp only [putG, List.foldl_cons] at h ⊢
    rw [h, put_size, put_getD]
    by_cases h1 : ∃ q ∈ l, q.1 = s
    · by_cases h2 : s < a.tmps.size
      · obtain ⟨q, hq, hqs⟩ := h1
        rw [if_pos ⟨⟨q, hq, hqs⟩, h2⟩, if_pos ⟨⟨q, List.mem_cons_of_mem _ hq, hqs⟩, h2⟩]
      · simp [h2]
    · by_cases h2 : p.1 = s ∧ s < a.tmps.size
      · rw [if_neg (by simp [h1]), if_pos h2, if_pos ⟨⟨p, by simp, h2.1⟩, h2.2⟩, h2.1]
      · have : ¬((∃ q ∈ p :: l, q.1 = s) ∧ s < a.tmps.size) := by
          rintro ⟨⟨q, hq, hqs⟩, h3⟩
          rcases List.mem_cons.1 hq with rfl | hq
          · exact h2 ⟨hqs, h3⟩
          · exact h1 ⟨q, hq, hqs⟩
        rw [if_neg (by simp [h1]), if_neg h2, if_neg this]

theorem allGens_apply {G : Act → World → Prop} (F : Act) (w : World) : ∀ (l : List (Tmp × Pred)) (a : Act), (∀ p ∈ l, p.2 (F.tmps.getD p.1 undef) w) → allGens G l a w → G (putG F l a) w
  | [], _, _, h => h
  | p :: l, a, hF, h => allGens_apply F w l _ (fun q hq => hF q (List.mem_cons_of_mem _ hq)) (h _ (hF p (by simp)))

theorem withGens_apply {ds : List Tmp} {G : Act → World → Prop} (F : Act) (w : World) : ∀ (l : List (Tmp × Pred)) (a : Act), (∀ p ∈ l, ds.contains p.1 = true → p.2 (F.tmps.getD p.1 undef) w) → withGens ds G l a w →
    G (putG F (l.filter fun p => ds.contains p.1) a) w
  | [], _, _, h => h
  | p :: l, a, hF, h => by
    simp only [withGens] at h
    by_cases hc : ds.contains p.1 = true
    · rw [if_pos hc] at h
      rw [List.filter_cons, if_pos hc]
      exact withGens_apply F w l _ (fun q hq => hF q (List.mem_cons_of_mem _ hq)) (h _ (hF p (by simp) hc))
    · rw [if_neg hc] at h
      rw [List.filter_cons, if_neg hc]
      exact withGens_apply F w l _ (fun q hq => hF q (List.mem_cons_of_mem _ hq)) h

/-- The walk's state behind i operations. -/
structure LJ (ops : Array Oper) (a0 : Act) (N : Nat) (gen : Nat → Bool) (i : Nat) (ps : List Pred) (pre : List (Tmp × Pred)) (a : Act) : Prop where
  len : ps.length = i
  size : a.tmps.size = a0.tmps.size
  defers : a.defers = a0.defers
  out : ∀ s, (∀ j, j < N → dstOf ops j ≠ some s) → a.tmps.getD s undef = a0.tmps.getD s undef
  det : ∀ j, j < i → gen j = false → ∃ c, phi ps j = Ytgonighpjpfmnaa.det c ∧ ∀ d, dstOf ops j = some d → a.tmps.getD d undef = c
  gens : ∀ j d, j < i → gen j = true → dstOf ops j = some d → (d, phi ps j) ∈ pre
  pre : ∀ p ∈ pre, ∃ j, j < i ∧ gen j = true ∧ dstOf ops j = some p.1 ∧ p.2 = phi ps j

theorem LJ.snoc_det {gen : Nat → Bool} {i : Nat} {ps : List Pred} {pre : List (Tmp × Pred)} {a : Act} (h : LJ ops a0 N gen i ps pre a) (hi : i < N) (hg : gen i = false) {o : Oper} (ho : ops[i]? = some o) (c : Value)
    (hdst : ∀ i, i < N → ∃ d, dstOf ops i = some d ∧ d < a0.tmps.size ∧ ∀ j, j < N → j ≠ i → dstOf ops j ≠ some d) : LJ ops a0 N gen (i + 1) (ps ++ [Ytgonighpjpfmnaa.det c]) pre (a.put o.dst c) := by
  obtain ⟨d, hd, hlt, hne⟩ := hdst i hi
  have hod : o.dst = some d := by unfold dstOf at hd; rw [ho] at hd; exact hd
  have hput : ∀ s, (a.put o.dst c).tmps.getD s undef = if d = s then c else a.tmps.getD s undef := fun s => by
    rw [hod, put_getD]
    by_cases e : d = s
    · subst e; rw [if_pos ⟨rfl, by rw [h.size]; exact hlt⟩, if_pos rfl]
    · rw [if_neg (fun hh => e hh.1), if_neg e]
  have hph : ∀ j, j < i → phi (ps ++ [Ytgonighpjpfmnaa.det c]) j = phi ps j := fun j hj => phi_append ps _ j (by rw [h.len]; exact hj)
  refine ⟨by simp [h.len], by rw [put_size]; exact h.size, by rw [put_defers]; exact h.defers, fun s hs => ?_, fun j hj hgj => ?_, fun j d' hj hgj hd' => ?_, fun p hp => ?_⟩
  · rw [hput, if_neg (fun e => hs i hi (by rw [hd, e])), h.out s hs]
  · by_cases hji : j = i
    · subst hji
      refine ⟨c, ?_, fun d' hd' => ?_⟩
      · unfold phi; rw [List.getD_eq_getElem?_getD, List.getElem?_append_right (by rw [h.len]; exact Nat.le_refl _)]; simp [h.len]
      · rw [hd] at hd'; injection hd' with e; rw [hput, if_pos e]
    · obtain ⟨c', h1, h2⟩ := h.det j (by omega) hgj
      refine ⟨c', by rw [hph j (by omega), h1], fun d' hd' => ?_⟩
      rw [hput, if_neg (fun e => hne j (by omega) hji (by rw [hd', e])), h2 d' hd']
  · have hji : j ≠ i := fun e => by rw [e, hg] at hgj; cases hgj
    rw [hph j (by omega)]
    exact h.gens j d' (by omega) hgj hd'
  · obtain ⟨j, h1, h2, h3, h4⟩ := h.pre p hp
    exact ⟨j, by omega, h2, h3, by rw [hph j h1, h4]⟩

theorem LJ.snoc_gen {gen : Nat → Bool} {i : Nat} {ps : List Pred} {pre : List (Tmp × Pred)} {a : Act} (h : LJ ops a0 N gen i ps pre a) (hi : i < N) (hg : gen i = true) {o : Oper} (ho : ops[i]? = some o) (φ : Pred) (c : Value)
    (hdst : ∀ i, i < N → ∃ d, dstOf ops i = some d ∧ d < a0.tmps.size ∧ ∀ j, j < N → j ≠ i → dstOf ops j ≠ some d) : LJ ops a0 N gen (i + 1) (ps ++ [φ]) (pre ++ [(o.dst.getD 0, φ)]) (a.put o.dst c) := by
  obtain ⟨d, hd, hlt, hne⟩ := hdst i hi
  have hod : o.dst = some d := by unfold dstOf at hd; rw [ho] at hd; exact hd
  have hput : ∀ s, (a.put o.dst c).tmps.getD s undef = if d = s then c else a.tmps.getD s undef := fun s => by
    rw [hod, put_getD]
    by_cases e : d = s
    · subst e; rw [if_pos ⟨rfl, by rw [h.size]; exact hlt⟩, if_pos rfl]
    · rw [if_neg (fun hh => e hh.1), if_neg e]
  have hph : ∀ j, j < i → phi (ps ++ [φ]) j = phi ps j := fun j hj => phi_append ps _ j (by rw [h.len]; exact hj)
  have hpi : phi (ps ++ [φ]) i = φ := by unfold phi; rw [List.getD_eq_getElem?_getD, List.getElem?_append_right (by rw [h.len]; exact Nat.le_refl _)]; simp [h.len]
  refine ⟨by simp [h.len], by rw [put_size]; exact h.size, by rw [put_defers]; exact h.defers, fun s hs => ?_, fun j hj hgj => ?_, fun j d' hj hgj hd' => ?_, fun p hp => ?_⟩
  · rw [hput, if_neg (fun e => hs i hi (by rw [hd, e])), h.out s hs]
  · have hji : j ≠ i := fun e => by rw [e, hg] at hgj; cases hgj
    obtain ⟨c', h1, h2⟩ := h.det j (by omega) hgj
    refine ⟨c', by rw [hph j (by omega), h1], fun d' hd' => ?_⟩
    rw [hput, if_neg (fun e => hne j (by omega) hji (by rw [hd', e])), h2 d' hd']
  · by_cases hji : j = i
    · subst hji
      rw [hpi]
      rw [hd] at hd'; injection hd' with e
      rw [hod, ← e]; simp
    · rw [hph j (by omega)]
      exact List.mem_append_left _ (h.gens j d' (by omega) hgj hd')
  · rw [List.mem_append, List.mem_singleton] at hp
    rcases hp with hp | rfl
    · obtain ⟨j, h1, h2, h3, h4⟩ := h.pre p hp
      exact ⟨j, by omega, h2, h3, by rw [hph j h1, h4]⟩
    · exact ⟨i, by omega, hg, by rw [hod]; exact hd, hpi.symm⟩

/-- What the plan says of operation j. -/
def planAt (plan : List (Nat × List Tmp × Option Pred)) (j : Nat) : Option (List Tmp × Bool) := (plan.find? fun p => decide (p.1 = j)).map fun p => (p.2.1, p.2.2.isSome)

def okAt (ops : Array Oper) (N : Nat) (gen : Nat → Bool) (o : Oper) (j : Nat) : Option (List Tmp × Bool) → Prop
  | none => gen j = false ∧ plainB o.op = true ∧ ∀ s ∈ o.looksAt ops, ∀ k, k < N → gen k = true → dstOf ops k ≠ some s
  | some (ds, b) => gen j = b ∧ (∀ s ∈ ds, s ∈ o.looksAt ops) ∧ ∀ s ∈ o.looksAt ops, ds.contains s = true ∨ ∀ k, k < N → gen k = true → dstOf ops k ≠ some s

def Sorted (N : Nat) : Nat → List (Nat × List Tmp × Option Pred) → Prop
  | _, [] => True
  | i, (k, _, _) :: l => i ≤ k ∧ k < N ∧ Sorted N (k + 1) l

theorem Sorted.least : ∀ {l : List (Nat × List Tmp × Option Pred)} {i : Nat}, Sorted N i l → ∀ j, j < i → planAt l j = none
  | [], _, _, _, _ => rfl
  | (k, ds, s) :: l, i, h, j, hj => by
    obtain ⟨h1, _, h3⟩ := h
    have := h3.least j (by omega)
    unfold planAt at *
    rw [List.find?_cons_of_neg (by simp; omega)]
    exact this

/-- What is shown of operation k, given what is known of those before. -/
def LStep (P : Program) (ops : Array Oper) (R : World → World → Prop) (w0 : World) (a0 : Act) (N : Nat) (ps : List Pred) (k : Nat) : Prop :=
  (∀ v w w', R w w' → phi ps k v w → phi ps k v w') ∧ ∀ o, ops[k]? = some o → ∀ a w, TPre ops R (phi (ps.take k)) w0 a0 N (depsOf N o) a w → tOp P ops R o a w (phi ps k)

theorem LStep.grow {ps t : List Pred} {k : Nat} (hk : k < ps.length) (h : LStep P ops R w0 a0 N ps k) : LStep P ops R w0 a0 N (ps ++ t) k := by
  unfold LStep at *
  rw [phi_append ps t k hk, List.take_append_of_le_length (by omega)]
  exact h

section
variable {gen : Nat → Bool} (hsel : ∀ (j : Nat) (o : Oper) cs b, ops[j]? = some o → o.op ≠ .select cs b)
  (hdst : ∀ i, i < N → ∃ d, dstOf ops i = some d ∧ d < a0.tmps.size ∧ ∀ j, j < N → j ≠ i → dstOf ops j ≠ some d)
  (hlook : ∀ i o, i < N → ops[i]? = some o → ∀ s ∈ o.looksAt ops, (∀ j, j < N → dstOf ops j ≠ some s) ∨ ∃ j ∈ depsOf N o, j < i ∧ dstOf ops j = some s)
include hsel hdst hlook

omit hsel in
/-- The frames agree where operation i looks. -/
theorem LJ.agree {i : Nat} {ps : List Pred} {pre : List (Tmp × Pred)} {a : Act} (h : LJ ops a0 N gen i ps pre a) (hi : i < N) {o : Oper} (ho : ops[i]? = some o) {a1 : Act} {w1 : World} {qs : List Pred}
    (hq : ∀ j, j < i → phi qs j = phi ps j) (hp : TPre ops R (phi qs) w0 a0 N (depsOf N o) a1 w1) (ds : List Tmp)
    (hds : ∀ s ∈ o.looksAt ops, ds.contains s = true ∨ ∀ j, j < N → gen j = true → dstOf ops j ≠ some s) :
    ∀ s ∈ o.looksAt ops, (putG a1 (pre.filter fun p => ds.contains p.1) a).tmps.getD s undef = a1.tmps.getD s undef := by
  intro s hs
  rw [putG_at]
  split
  · rfl
  · rename_i hnot
    rcases hlook i o hi ho s hs with hout | ⟨j, hj, hji, hd⟩
    · rw [h.out s hout, hp.outside s hout]
    · obtain ⟨d, hd', hlt, hne⟩ := hdst j (by omega)
      have e : d = s := by rw [hd] at hd'; injection hd' with e; exact e.symm
      subst e
      cases hg : gen j with
      | true =>
        exfalso
        apply hnot
        refine ⟨⟨(d, phi ps j), ?_, rfl⟩, by rw [h.size]; exact hlt⟩
        rw [List.mem_filter]
        refine ⟨h.gens j d hji hg hd, ?_⟩
        rcases hds d hs with h1 | h1
        · exact h1
        · exact absurd hd (h1 j (by omega) hg)
      | false =>
        obtain ⟨c, h1, h2⟩ := h.det j hji hg
        rw [h2 d hd]
        have h3 := hp.done j hj
        rw [hq j hji, h1] at h3
        unfold sv at h3
        unfold dstOf at hd
        rw [hd] at h3
        exact h3.symm

theorem quiet_steps (hr : ∀ w, R w w) (htr : ∀ a b c, R a b → R b c → R a c) {Q : Act → Prop} : ∀ (l : List Oper) (i : Nat) (ps : List Pred) (pre : List (Tmp × Pred)) (a : Act), i + l.length ≤ N → (∀ j, j < l.length → l[j]? = ops[i + j]?) →
    (∀ j o, i ≤ j → j < i + l.length → ops[j]? = some o → gen j = false ∧ plainB o.op = true ∧ ∀ s ∈ o.looksAt ops, ∀ k, k < N → gen k = true → dstOf ops k ≠ some s) →
    LJ ops a0 N gen i ps pre a → wpQuiet P ops (fun w => ∃ x : Beh R w0, w = x.w) Q l a →
    ∃ t a', t.length = l.length ∧ LJ ops a0 N gen (i + l.length) (ps ++ t) pre a' ∧ Q a' ∧ ∀ k, i ≤ k → k < i + l.length → LStep P ops R w0 a0 N (ps ++ t) k
  | [], i, ps, pre, a, _, _, _, hJ, h => ⟨[], a, rfl, by simpa using hJ, h, fun k h1 h2 => by simp at h2; omega⟩
  | o :: l, i, ps, pre, a, hN, hl, hok, hJ, h => by
    simp only [List.length_cons] at hN hok
    have ho : ops[i]? = some o := by simpa using (hl 0 (by simp)).symm
    obtain ⟨hg, hpl, hgs⟩ := hok i o (Nat.le_refl _) (by omega) ho
    have key : ∃ c, (if Region.wanted o (yielded ops a.tmps) then (∀ w, (∃ x : Beh R w0, w = x.w) → o.quietAt P a (fun w => ∃ x : Beh R w0, w = x.w) w c) else c = undef) ∧ wpQuiet P ops (fun w => ∃ x : Beh R w0, w = x.w) Q l (a.put o.dst c) := by
      unfold wpQuiet at h
      by_cases hw : Region.wanted o (yielded ops a.tmps) = true
      · rw [if_pos hw] at h
        obtain ⟨c, h1, h2⟩ := h
        exact ⟨c, by rw [if_pos hw]; exact h1, h2⟩
      · rw [if_neg hw] at h
        exact ⟨undef, by rw [if_neg hw], h⟩
    obtain ⟨c, hc, hrest⟩ := key
    have hJ' := hJ.snoc_det (by omega) hg ho c hdst
    have hstep : LStep P ops R w0 a0 N (ps ++ [Ytgonighpjpfmnaa.det c]) i := by
      have hpi : phi (ps ++ [Ytgonighpjpfmnaa.det c]) i = Ytgonighpjpfmnaa.det c := by unfold phi; rw [List.getD_eq_getElem?_getD, List.getElem?_append_right (by rw [hJ.len]; exact Nat.le_refl _)]; simp [hJ.len]
      refine ⟨by rw [hpi]; exact det_mono c, fun o' ho' a1 w1 hp => ?_⟩
      obtain rfl : o = o' := Option.some.inj (ho.symm.trans ho')
      rw [hpi]
      have htk : (ps ++ [Ytgonighpjpfmnaa.det c]).take i = ps := by rw [← hJ.len]; simp
      rw [htk] at hp
      have hag := hJ.agree hdst hlook (by omega) ho (fun _ _ => rfl) hp [] (fun s hs => .inr (hgs s hs))
      have e0 : pre.filter (fun p => ([] : List Tmp).contains p.1) = [] := by simp
      rw [e0] at hag
      refine tOp_congr (hsel i o · · ho) (by rw [hJ.size, hp.size]) (a := a) (fun s hs => hag s hs) ?_
      unfold tOp
      by_cases hw : Region.wanted o (yielded ops a.tmps) = true
      · rw [if_pos hw] at hc ⊢
        have h1 := hc w1 ⟨⟨w1, hp.world⟩, rfl⟩
        have h2 := plain_entersNot (P := P) a.eval o hpl w1
        unfold Oper.quietAt at h1
        generalize (execOp a.eval o).run P w1 = r at h1 h2
        cases r with
        | ok n w' =>
          cases n <;> simp only [Oper.quietUpon, Result.entersNot] at h1 h2
          case value v => simp only [tUpon]; rw [h1.1]; exact ⟨hr _, h1.2⟩
          case skip => simp only [tUpon]; rw [h1.1]; exact ⟨hr _, h1.2.symm⟩
        | halt x w' => simp only [Oper.quietUpon] at h1
      · rw [if_neg hw] at hc ⊢
        exact hc.symm
    obtain ⟨t, a', ht, hJ2, hQ, hall⟩ := quiet_steps hr htr l (i + 1) _ pre _ (by omega) (fun j hj => by have := hl (j + 1) (by simp; omega); simpa [Nat.add_assoc, Nat.add_comm 1 j] using this) (fun j o' h1 h2 => hok j o' (by omega) (by omega)) hJ' hrest
    have e : ps ++ [Ytgonighpjpfmnaa.det c] ++ t = ps ++ (Ytgonighpjpfmnaa.det c :: t) := by simp
    rw [e] at hJ2 hall
    refine ⟨Ytgonighpjpfmnaa.det c :: t, a', by simp [ht], by rw [List.length_cons, show i + (l.length + 1) = i + 1 + l.length by omega]; exact hJ2, hQ, fun k h1 h2 => ?_⟩
    simp only [List.length_cons] at h2
    by_cases hk : k = i
    · subst hk
      rw [← e]
      exact hstep.grow (by rw [hJ'.len]; omega)
    · exact hall k (by omega) (by omega)

theorem late_steps (hr : ∀ w, R w w) (htr : ∀ a b c, R a b → R b c → R a c) {Fin : List (Tmp × Pred) → Act → Prop} : ∀ (plan : List (Nat × List Tmp × Option Pred)) (i : Nat) (l : List Oper) (ps : List Pred) (pre : List (Tmp × Pred)) (a : Act),
    i + l.length = N → Sorted N i plan → (∀ j, j < l.length → l[j]? = ops[i + j]?) →
    (∀ j o, i ≤ j → j < N → ops[j]? = some o → okAt ops N gen o j (planAt plan j)) →
    LJ ops a0 N gen i ps pre a → Late P ops R w0 Fin plan i l pre a →
    ∃ t pre' a', t.length = l.length ∧ LJ ops a0 N gen N (ps ++ t) pre' a' ∧ Fin pre' a' ∧ ∀ k, i ≤ k → k < N → LStep P ops R w0 a0 N (ps ++ t) k
  | [], i, l, ps, pre, a, hN, _, hl, hok, hJ, h => by
    obtain ⟨t, a', ht, hJ', hF, hall⟩ := quiet_steps hsel hdst hlook hr htr l i ps pre a (by omega) hl (fun j o h1 h2 ho => hok j o h1 (by omega) ho) hJ h
    rw [hN] at hJ' hall
    exact ⟨t, pre, a', ht, hJ', hF, hall⟩
  | (k, ds, s) :: plan, i, l, ps, pre, a, hN, hS, hl, hok, hJ, h => by
    obtain ⟨hik, hkN, hS'⟩ := hS
    have hlen : (l.take (k - i)).length = k - i := by rw [List.length_take]; omega
    have hnone : ∀ j, j < k → planAt ((k, ds, s) :: plan) j = none := fun j hj => by
      have := hS'.least j (by omega)
      unfold planAt at *
      rw [List.find?_cons_of_neg (by simp; omega)]
      exact this
    obtain ⟨t, a', ht, hJ', hQ, hall⟩ := quiet_steps hsel hdst hlook hr htr (l.take (k - i)) i ps pre a (by omega) (fun j hj => by rw [List.getElem?_take, if_pos (by omega)]; exact hl j (by omega))
      (fun j o h1 h2 ho => by have := hok j o h1 (by omega) ho; rw [hnone j (by omega)] at this; exact this) hJ h
    rw [hlen, show i + (k - i) = k by omega] at hJ' hall
    cases hd : l.drop (k - i) with
    | nil => rw [hd] at hQ; exact hQ.elim
    | cons o l' =>
      rw [hd] at hQ
      simp only at hQ
      have hll : (o :: l').length = l.length - (k - i) := by rw [← hd, List.length_drop]
      simp only [List.length_cons] at hll
      have hld : ∀ j, j < l'.length + 1 → (o :: l')[j]? = ops[k + j]? := fun j hj => by
        rw [← hd, List.getElem?_drop, hl (k - i + j) (by omega), show i + (k - i + j) = k + j by omega]
      have ho : ops[k]? = some o := by simpa using (hld 0 (by omega)).symm
      have hok' := hok k o hik hkN ho
      have hat : planAt ((k, ds, s) :: plan) k = some (ds, s.isSome) := by unfold planAt; rw [List.find?_cons_of_pos (by simp)]; rfl
      rw [hat] at hok'
      obtain ⟨hgk, hds1, hds2⟩ := hok'
      -- the triple, carried to whatever frame comes up
      have carry : ∀ (φ : Pred) (hall' : ∀ x : Beh R w0, withGens ds (fun A w => tOp P ops R o A w φ) pre a' x.w) (a1 : Act) (w1 : World), TPre ops R (phi (ps ++ t)) w0 a0 N (depsOf N o) a1 w1 → tOp P ops R o a1 w1 φ := fun φ hall' a1 w1 hp => by
        have h1 := withGens_apply (ds := ds) a1 w1 pre a' (fun p hp1 hp2 => ?_) (hall' ⟨w1, hp.world⟩)
        · have hag := hJ'.agree hdst hlook hkN ho (fun _ _ => rfl) hp ds hds2
          refine tOp_congr (hsel k o · · ho) ?_ hag h1
          rw [(putG_keep a1 _ a').1, hJ'.size, hp.size]
        · obtain ⟨j, hj, hgj, hdj, e⟩ := hJ'.pre p hp1
          rw [e]
          rcases hlook k o hkN ho p.1 (hds1 p.1 (by simpa using hp2)) with hout | ⟨j', hj', hji', hd'⟩
          · exact absurd hdj (hout j (by omega))
          · obtain ⟨d, hd1, _, hne⟩ := hdst j (by omega)
            have ed : d = p.1 := by rw [hdj] at hd1; injection hd1 with e; exact e.symm
            have ejj : j' = j := Decidable.byContradiction fun hh => hne j' (by omega) hh (by rw [hd', ed])
            subst ejj
            have h3 := hp.done j' hj'
            unfold sv at h3
            unfold dstOf at hdj
            rw [hdj] at h3
            exact h3
      have hSl : l'.length = N - (k + 1) := by omega
      have hok2 : ∀ j o, k + 1 ≤ j → j < N → ops[j]? = some o → okAt ops N gen o j (planAt plan j) := fun j o' h1 h2 ho' => by
        have := hok j o' (by omega) h2 ho'
        unfold planAt at *
        rwa [List.find?_cons_of_neg (by simp; omega)] at this
      have hl2 : ∀ j, j < l'.length → l'[j]? = ops[k + 1 + j]? := fun j hj => by have := hld (j + 1) (by omega); simpa [Nat.add_assoc, Nat.add_comm 1 j] using this
      have fin : ∀ (φ : Pred) (pre2 : List (Tmp × Pred)) (a2 : Act), (∀ v w w', R w w' → φ v w → φ v w') → (∀ x : Beh R w0, withGens ds (fun A w => tOp P ops R o A w φ) pre a' x.w) →
          LJ ops a0 N gen (k + 1) (ps ++ t ++ [φ]) pre2 a2 → Late P ops R w0 Fin plan (k + 1) l' pre2 a2 →
          ∃ t pre' a', t.length = l.length ∧ LJ ops a0 N gen N (ps ++ t) pre' a' ∧ Fin pre' a' ∧ ∀ k, i ≤ k → k < N → LStep P ops R w0 a0 N (ps ++ t) k := fun φ pre2 a2 hm htri hJ2 hL => by
        obtain ⟨t2, pre', a3, ht2, hJ3, hF, hall3⟩ := late_steps hr htr plan (k + 1) l' _ pre2 a2 (by omega) hS' hl2 hok2 hJ2 hL
        have e : ps ++ t ++ [φ] ++ t2 = ps ++ (t ++ φ :: t2) := by simp
        have hlt : (ps ++ t).length = k := hJ'.len
        rw [e] at hJ3 hall3
        refine ⟨t ++ φ :: t2, pre', a3, by simp [ht, ht2, hlen]; omega, hJ3, hF, fun q h1 h2 => ?_⟩
        rcases Nat.lt_trichotomy q k with hq | hq | hq
        · have := (hall q h1 hq).grow (t := φ :: t2) (by rw [hlt]; exact hq)
          rwa [List.append_assoc] at this
        · subst hq
          have hpi : phi (ps ++ (t ++ φ :: t2)) q = φ := by
            rw [← List.append_assoc]
            unfold phi
            rw [List.getD_eq_getElem?_getD, List.getElem?_append_right (by rw [hlt]; exact Nat.le_refl _), hlt]
            simp
          have htk : (ps ++ (t ++ φ :: t2)).take q = ps ++ t := by rw [← List.append_assoc]; exact List.take_left' hlt
          refine ⟨by rw [hpi]; exact hm, fun o' ho' a1 w1 hp => ?_⟩
          obtain rfl : o = o' := Option.some.inj (ho.symm.trans ho')
          rw [hpi]
          rw [htk] at hp
          exact carry φ htri a1 w1 hp
        · exact hall3 q (by omega) h2
      cases s with
      | none =>
        obtain ⟨c, htri, hL⟩ := hQ
        exact fin _ _ _ (det_mono c) htri (hJ'.snoc_det hkN hgk ho c hdst) hL
      | some φ =>
        obtain ⟨hm, htri, hL⟩ := hQ
        exact fin _ _ _ hm htri (hJ'.snoc_gen hkN hgk ho φ undef hdst) hL

omit hsel hlook in
theorem tEnd_intro {Φ : Nat → Pred} {K : Act → World → Prop} {w : World} (H : ∀ F : Act, F.tmps.size = a0.tmps.size → F.defers = a0.defers → (∀ s, (∀ j, j < N → dstOf ops j ≠ some s) → F.tmps.getD s undef = a0.tmps.getD s undef) →
      (∀ j d, j < N → dstOf ops j = some d → Φ j (F.tmps.getD d undef) w) → K F w) :
    ∀ (l : List Oper) (k : Nat) (b : Act), (∀ j, j < l.length → l[j]? = ops[k + j]?) → k + l.length = N → b.tmps.size = a0.tmps.size → b.defers = a0.defers → (∀ s, (∀ j, j < N → dstOf ops j ≠ some s) → b.tmps.getD s undef = a0.tmps.getD s undef) →
      (∀ j d, j < k → dstOf ops j = some d → Φ j (b.tmps.getD d undef) w) → TEnd Φ K w l k b
  | [], k, b, _, hk, h1, h2, h3, h4 => H b h1 h2 h3 fun j d hj => h4 j d (by simp only [List.length_nil] at hk; omega)
  | o :: l, k, b, hl, hk, h1, h2, h3, h4 => fun v hv => by
    simp only [List.length_cons] at hl hk
    have ho : ops[k]? = some o := by simpa using (hl 0 (by omega)).symm
    obtain ⟨d, hd, hlt, hne⟩ := hdst k (by omega)
    have hod : o.dst = some d := by unfold dstOf at hd; rw [ho] at hd; exact hd
    have hput : ∀ s, (b.put o.dst v).tmps.getD s undef = if d = s then v else b.tmps.getD s undef := fun s => by
      rw [hod, put_getD]
      by_cases e : d = s
      · subst e; rw [if_pos ⟨rfl, by rw [h1]; exact hlt⟩, if_pos rfl]
      · rw [if_neg (fun hh => e hh.1), if_neg e]
    refine tEnd_intro H l (k + 1) _ (fun j hj => by have := hl (j + 1) (by omega); simpa [Nat.add_assoc, Nat.add_comm 1 j] using this) (by omega) (by rw [put_size, h1]) (by rw [put_defers, h2]) (fun s hs => ?_) (fun j d' hj hd' => ?_)
    · rw [hput, if_neg (fun e => hs k (by omega) (by rw [hd, e])), h3 s hs]
    · rw [hput]
      by_cases hjk : j = k
      · subst hjk
        rw [hd] at hd'; injection hd' with e
        rw [if_pos e]; exact hv
      · rw [if_neg (fun e => hne j (by omega) hjk (by rw [hd', e]))]
        exact h4 j d' (by omega) hd'
end

def planB (plan : List (Nat × List Tmp × Option Pred)) : List (Nat × List Tmp × Bool) := plan.map fun p => (p.1, p.2.1, p.2.2.isSome)

theorem planAt_of_B (plan : List (Nat × List Tmp × Option Pred)) (i : Nat) : ((planB plan).find? fun p => decide (p.1 = i)).map (fun p => (p.2.1, p.2.2)) = planAt plan i := by
  unfold planAt planB
  rw [List.find?_map, Option.map_map]
  rfl

theorem sorted_of_B : ∀ (plan : List (Nat × List Tmp × Option Pred)) (i : Nat), Late.sortedB N i (planB plan) = true → Sorted N i plan
  | [], _, _ => trivial
  | (k, ds, s) :: l, i, h => by
    simp only [planB, List.map_cons, Late.sortedB, Bool.and_eq_true, decide_eq_true_eq] at h
    exact ⟨h.1.1, h.1.2, sorted_of_B l (k + 1) h.2⟩

theorem okAt_of_B {plan : List (Nat × List Tmp × Option Pred)} (h : Late.okB ops N (planB plan) = true) (j : Nat) (o : Oper) (hj : j < N) (ho : ops[j]? = some o) :
    okAt ops N (Late.genB (planB plan)) o j (planAt plan j) ∧ ∀ s ∈ o.looksAt ops, outB ops N s = true ∨ ∃ k ∈ depsOf N o, dstOf ops k = some s := by
  simp only [Late.okB, Bool.and_eq_true] at h
  obtain ⟨⟨_, hso⟩, hall⟩ := h
  have h1 := List.all_eq_true.1 hall j (List.mem_range.2 hj)
  simp only [ho, Bool.and_eq_true] at h1
  obtain ⟨h1, h2⟩ := h1
  refine ⟨?_, fun s hs => ?_⟩
  · rw [← planAt_of_B]
    have hgen : ∀ q : Option (List Tmp × Bool), planAt plan j = q → Late.genB (planB plan) j = (q.map (·.2)).getD false := by
      intro q hq
      have hS := sorted_of_B plan 0 hso
      unfold Late.genB
      clear h1 h2 hall hso
      suffices H : ∀ (plan : List (Nat × List Tmp × Option Pred)) (i : Nat), Sorted N i plan → ((planB plan).any fun p => decide (p.1 = j) && p.2.2) = ((planAt plan j).map (·.2)).getD false by
        rw [H plan 0 hS, hq]
      intro plan
      induction plan with
      | nil => intro i _; rfl
      | cons p l ih =>
        intro i hS
        obtain ⟨k, ds, s⟩ := p
        obtain ⟨_, _, hS'⟩ := hS
        have := ih (k + 1) hS'
        by_cases hk : k = j
        · subst hk
          have hn := hS'.least k (by omega)
          rw [hn] at this
          simp only [planB, List.map_cons, List.any_cons] at this ⊢
          rw [this]
          unfold planAt
          rw [List.find?_cons_of_pos (by simp)]
          simp
        · simp only [planB, List.map_cons, List.any_cons] at this ⊢
          rw [this]
          unfold planAt
          rw [List.find?_cons_of_neg (by simpa using hk)]
          simp [hk]
    have hno : ∀ s : Tmp, ((List.range N).all fun j => !Late.genB (planB plan) j || decide (dstOf ops j ≠ some s)) = true → ∀ k, k < N → Late.genB (planB plan) k = true → dstOf ops k ≠ some s := fun s hs k hk hg => by
      have h3 := List.all_eq_true.1 hs k (List.mem_range.2 hk)
      rw [hg] at h3
      simpa using h3
    cases hf : (planB plan).find? (fun p => decide (p.1 = j)) with
    | none =>
      rw [hf] at h2
      simp only [Bool.and_eq_true] at h2
      have hq := planAt_of_B plan j
      rw [hf] at hq
      refine ⟨by rw [hgen _ hq.symm]; rfl, h2.1, fun s hs => hno s (List.all_eq_true.1 h2.2 s hs)⟩
    | some p =>
      rw [hf] at h2
      simp only [Bool.and_eq_true] at h2
      have hq := planAt_of_B plan j
      rw [hf] at hq
      refine ⟨by rw [hgen _ hq.symm]; rfl, fun s hs => by simpa using List.all_eq_true.1 h2.1 s hs, fun s hs => ?_⟩
      have h3 := List.all_eq_true.1 h2.2 s hs
      rw [Bool.or_eq_true] at h3
      exact h3.imp id (hno s)
  · have h3 := List.all_eq_true.1 h1 s hs
    simp only [Bool.or_eq_true, List.any_eq_true, decide_eq_true_eq] at h3
    exact h3

theorem outB_spec {s : Tmp} (h : outB ops N s = true) : ∀ j, j < N → dstOf ops j ≠ some s := fun j hj => of_decide_eq_true (List.all_eq_true.1 h j (List.mem_range.2 hj))

/-- As wp_region_late, where extracts (Lo) may come up beside the tail. -/
theorem wp_region_loose {id : Nat} {Q : Exit → Act → World → Prop} {w : World} {l : List Oper} (N m : Nat) (Lo : List Nat) (plan : List (Nat × List Tmp × Option Pred)) (hm : P.follows .mixedOrders = true) (hB : Region.typB l.toArray N m Lo = true)
    (hB2 : Late.okB l.toArray N (planB plan) = true) (hLB : (looseB l.toArray N Lo && Lo.all fun i => !Late.genB (planB plan) i) = true) (hQ : Lo ≠ [] → ∀ c (a : Act) (d : Tmp) v w, Q (.panic c) (a.put (some d) v) w → Q (.panic c) a w) (hsize : a0.tmps.size = m) (hr : ∀ w, R w w) (htr : ∀ a b c, R a b → R b c → R a c)
    (h : Late P l.toArray R w.drew (fun pre a => ∀ x : Beh R w.drew, allGens (fun A w' => wpList P l.toArray Q (l.drop N) A w') pre a x.w) plan 0 (l.take N) [] a0) : (Code.region id l.toArray true).wp P Q a0 w := by
  have hB0 := hB
  simp only [Region.typB, Bool.and_eq_true, Bool.or_eq_true, decide_eq_true_eq] at hB
  obtain ⟨⟨⟨⟨_, hN⟩, hback⟩, hdst0⟩, _⟩ := hB
  have hN' : N ≤ l.length := by simpa using hN
  have hdst : ∀ i, i < N → ∃ d, dstOf l.toArray i = some d ∧ d < a0.tmps.size ∧ ∀ j, j < N → j ≠ i → dstOf l.toArray j ≠ some d := fun i hi => by
    have h1 := List.all_eq_true.1 hdst0 i (List.mem_range.2 hi)
    unfold dstOf
    cases hd : (l.toArray[i]?).bind (·.dst) with
    | none => simp only [hd] at h1; cases h1
    | some d =>
      simp only [hd, Bool.and_eq_true, decide_eq_true_eq] at h1
      refine ⟨d, rfl, by rw [hsize]; exact h1.1, fun j hj hji => ?_⟩
      have h2 := List.all_eq_true.1 h1.2 j (List.mem_range.2 hj)
      simp only [Bool.or_eq_true, decide_eq_true_eq] at h2
      exact h2.resolve_left hji
  have hB2' := hB2
  simp only [Late.okB, Bool.and_eq_true] at hB2'
  have hsel := Region.noSelect_spec hB2'.1.1
  have hlook : ∀ i o, i < N → l.toArray[i]? = some o → ∀ s ∈ o.looksAt l.toArray, (∀ j, j < N → dstOf l.toArray j ≠ some s) ∨ ∃ j ∈ depsOf N o, j < i ∧ dstOf l.toArray j = some s := fun i o hi ho s hs => by
    rcases (okAt_of_B hB2 i o hi ho).2 s hs with h1 | ⟨k, hk, hd⟩
    · exact .inl (outB_spec h1)
    · refine .inr ⟨k, hk, ?_, hd⟩
      simp only [depsOf, List.mem_map, List.mem_filter] at hk
      obtain ⟨e, ⟨he, hb⟩, rfl⟩ := hk
      have h1 := List.all_eq_true.1 hback i (List.mem_range.2 (by simp; omega))
      simp only [ho] at h1
      have h2 := Array.all_eq_true_iff_forall_mem.1 h1 e (by simpa using he)
      simp only [Bool.and_eq_true] at hb
      rw [hb.1] at h2
      simpa using h2
  have hl0 : ∀ j, j < (l.take N).length → (l.take N)[j]? = l.toArray[0 + j]? := fun j hj => by rw [List.length_take] at hj; rw [List.getElem?_take, if_pos (by omega)]; simp
  have hlen : (l.take N).length = N := by rw [List.length_take]; omega
  obtain ⟨ps, pre', a', hps, hJ, hF, hall⟩ := late_steps (gen := Late.genB (planB plan)) hsel hdst hlook hr htr plan 0 (l.take N) [] [] a0 (by omega) (sorted_of_B plan 0 hB2'.1.2) hl0 (fun j o _ hj ho => (okAt_of_B hB2 j o hj ho).1)
    ⟨rfl, rfl, rfl, fun _ _ => rfl, fun j hj => by omega, fun j _ hj => by omega, fun p hp => by simp at hp⟩ h
  simp only [List.nil_append] at hJ hall
  rw [Bool.and_eq_true] at hLB
  have hdetL : ∀ i, Lo.contains i = true → ∃ c, phi ps i = det c := fun i hi => by
    have hi' : i ∈ Lo := by simpa using hi
    have h1 := List.all_eq_true.1 hLB.2 i hi'
    have h2 : i < N := by
      have h3 := hLB.1
      simp only [looseB, Bool.and_eq_true, List.all_eq_true, decide_eq_true_eq] at h3
      exact (h3.2 i hi').1
    obtain ⟨c, hc, _⟩ := hJ.det i h2 (by simpa using h1)
    exact ⟨c, hc⟩
  refine wp_region_typed N m Lo ps hm hB0 hLB.1 hQ hdetL hsize hr htr (fun i v w w' hi hR hp => (hall i (by omega) hi).1 v w w' hR hp) (fun i o hi ho a w' hp => ?_) (fun w' hw' => ?_)
  · refine (hall i (by omega) hi).2 o (by simpa using ho) a w' ⟨hp.world, hp.size, hp.outside, fun j hj => ?_⟩
    have hlt : j < i := by
      simp only [depsOf, List.mem_map, List.mem_filter] at hj
      obtain ⟨e, ⟨he, hb⟩, rfl⟩ := hj
      have h1 := List.all_eq_true.1 hback i (List.mem_range.2 (by simp; omega))
      simp only [List.getElem?_toArray, ho] at h1
      have h2 := Array.all_eq_true_iff_forall_mem.1 h1 e (by simpa using he)
      simp only [Bool.and_eq_true] at hb
      rw [hb.1] at h2
      simpa using h2
    have h1 := hp.done j hj
    have e : phi ps j = phi (ps.take i) j := by
      have := phi_append (ps.take i) (ps.drop i) j (by rw [List.length_take, hJ.len]; omega)
      rwa [List.take_append_drop] at this
    rwa [e] at h1
  · refine tEnd_intro hdst (fun F hF1 hF2 hF3 hF4 => ?_) (l.take N) 0 a0 hl0 (by omega) rfl rfl (fun _ _ => rfl) (fun j _ hj => by omega)
    have h1 := allGens_apply F w' pre' a' (fun p hp => by
      obtain ⟨j, hj, _, hd, e⟩ := hJ.pre p hp
      rw [e]; exact hF4 j _ hj hd) (hF ⟨w', hw'⟩)
    have ea : putG F pre' a' = F := by
      have h2 := putG_keep F pre' a'
      have h3 : (putG F pre' a').tmps = F.tmps := by
        apply Array.ext (by rw [h2.1, hJ.size, hF1])
        intro s h4 h5
        have h6 : (putG F pre' a').tmps.getD s undef = F.tmps.getD s undef := by
          by_cases hnot : (∃ p ∈ pre', p.1 = s) ∧ s < a'.tmps.size
          · rw [putG_at, if_pos hnot]
          · rw [putG_at, if_neg hnot]
            by_cases hh : ∃ j, j < N ∧ dstOf l.toArray j = some s
            · obtain ⟨j, hj, hd⟩ := hh
              cases hg : Late.genB (planB plan) j with
              | true => exact absurd ⟨⟨_, hJ.gens j s hj hg hd, rfl⟩, by rw [← h2.1]; exact h4⟩ hnot
              | false =>
                obtain ⟨c, h7, h8⟩ := hJ.det j hj hg
                have h9 := hF4 j s hj hd
                rw [h7] at h9
                rw [h8 s hd]
                exact h9.symm
            · have hout : ∀ j, j < N → dstOf l.toArray j ≠ some s := fun j hj hd => hh ⟨j, hj, hd⟩
              rw [hJ.out s hout, hF3 s hout]
        simpa [Array.getD, h4, h5] using h6
      have h4 := h2.2.trans (hJ.defers.trans hF2.symm)
      cases hx : putG F pre' a'
      cases F
      rw [hx] at h3 h4
      simp only at h3 h4
      rw [h3, h4]
    rw [ea] at h1
    exact h1

theorem wp_region_late {id : Nat} {Q : Exit → Act → World → Prop} {w : World} {l : List Oper} (N m : Nat) (plan : List (Nat × List Tmp × Option Pred)) (hm : P.follows .mixedOrders = true) (hB : Region.typB l.toArray N m = true)
    (hB2 : Late.okB l.toArray N (planB plan) = true) (hsize : a0.tmps.size = m) (hr : ∀ w, R w w) (htr : ∀ a b c, R a b → R b c → R a c)
    (h : Late P l.toArray R w.drew (fun pre a => ∀ x : Beh R w.drew, allGens (fun A w' => wpList P l.toArray Q (l.drop N) A w') pre a x.w) plan 0 (l.take N) [] a0) : (Code.region id l.toArray true).wp P Q a0 w :=
  wp_region_loose N m [] plan hm hB hB2 (by
    have h1 := hB2
    simp only [Late.okB, Bool.and_eq_true] at h1
    simp [looseB, h1.1.1]) (fun h => absurd rfl h) hsize hr htr h

theorem withGens_none {G : Act → World → Prop} {w : World} : ∀ {pre : List (Tmp × Pred)} {a : Act}, G a w → withGens [] G pre a w
  | [], _, h => h
  | (d, φ) :: pre, a, h => by simp only [withGens, List.contains_nil, Bool.false_eq_true, if_false]; exact withGens_none h

theorem run_call_fn {f : FuncId} {fn : Func} (hf : P.funcs[f]? = some fn) (hname : (fn.name == "runtime.NumGoroutine") = false) (hb : fn.body.isNone = false) (a : Act) (dst : Option Tmp) (args : Array Operand) (ats : Array TypeId) (type : TypeId) (pos : String) (after : Array Edge) (guard : Option (Nat × Bool)) (w : World) :
    (execOp a.eval ⟨dst, .call ⟨.value (.func f), args, ats⟩, type, pos, after, guard⟩).run P w = .ok (.enter f (args.map a.eval)) w := by
  have h1 : (callFunc f (args.map a.eval)).run P w = .ok (.enter f (args.map a.eval)) w := by
    unfold callFunc
    simp only [program, bind, Sem.bind, Sem.run, hf, hname, hb, Bool.false_eq_true, if_false]
    rfl
  simp [execOp, resolve, Act.eval, Deferred.ofValue, invoke, h1]

/-- A call in the midst of a region: its value is known. -/
theorem late_call {f : FuncId} {fn : Func} {dst : Option Tmp} {args : Array Operand} {ats : Array TypeId} {type : TypeId} {pos : String} {after : Array Edge} {pre : List (Tmp × Pred)} {a a' : Act} {next : List (Tmp × Pred) → Act → Prop} {vals : Array Value} {c : Value}
    (hf : P.funcs[f]? = some fn) (hname : (fn.name == "runtime.NumGoroutine") = false) (hb : fn.body.isNone = false) (hc : ∀ x : Beh R w0, Calls P f vals x.w fun e w' => e = .returned c ∧ R x.w w')
    (hv : args.toList.map a.eval = vals.toList) (hp : a.put dst c = a') (hn : next pre a') : LateAt P ops R w0 ⟨dst, .call ⟨.value (.func f), args, ats⟩, type, pos, after, none⟩ [] none pre a next := by
  refine ⟨c, fun x => withGens_none ?_, by rw [hp]; exact hn⟩
  unfold tOp
  rw [if_pos (show Region.wanted _ _ = true from rfl), run_call_fn hf hname hb, show args.map a.eval = vals from Array.toList_inj.1 (by rw [Array.toList_map]; exact hv)]
  exact (hc x).mono fun e w' ⟨he, h⟩ => ⟨c, he, h, rfl⟩

/-- A new block in the midst of a region. -/
theorem late_alloc {T : TypeId} {cs : Array Value} {dst : Option Tmp} {type : TypeId} {pos : String} {after : Array Edge} {pre : List (Tmp × Pred)} {a a' : Act} {next : List (Tmp × Pred) → Act → Prop} {B : Nat}
    (hrun : ∀ (ρ : Operand → Value) (w : World), (execOp ρ ⟨dst, .alloc T, type, pos, after, none⟩).run P w = .ok (.value (.pointer (some ⟨w.heap.size, 0, none⟩))) (w.alloc (.cells cs T)))
    (hB : ∀ x : Beh LeW w0, B ≤ x.w.heap.size) (hp : a.put dst undef = a') (hn : next (pre ++ [(dst.getD 0, fresh B cs T)]) a') : LateAt P ops LeW w0 ⟨dst, .alloc T, type, pos, after, none⟩ [] (some (fresh B cs T)) pre a next := by
  refine ⟨fresh_mono _ _ _, fun x => withGens_none ?_, by rw [hp]; exact hn⟩
  unfold tOp
  rw [if_pos (show Region.wanted _ _ = true from rfl), hrun]
  exact ⟨(Below.refl _ _).alloc (Nat.le_refl _) _, _, rfl, hB x, heap_alloc_new x.w _⟩
end
end Go.Proofs.Ytgonighpjpfmnaa
