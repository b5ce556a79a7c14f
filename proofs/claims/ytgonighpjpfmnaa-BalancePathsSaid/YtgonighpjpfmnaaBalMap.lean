/- The counts of balance.Path in memory: a map of slices. No statement is proved here. -/
import Derived.Test.YtgonighpjpfmnaaBalPath0
import Derived.Test.YtgonighpjpfmnaaSeq1
namespace Go.Proofs.Ytgonighpjpfmnaa
open Go.RowKit Go.Maps

/-- A value reads as itself. -/
def vElem : Value → Option (DataW Value × List MemPlace) := fun v => some (.held v, [])
theorem vElem_inv {v : Value} {d : DataW Value} {ps : List MemPlace} (h : vElem v = some (d, ps)) : d = .held v := by
  simp only [vElem, Option.some.injEq, Prod.mk.injEq] at h
  exact h.1.symm

/-- A slice of two numbers of the call's own. -/
def Two (w : World) (B : Nat) (u : Value) (p : Int × Int) : Prop := Own intC 3 1 w B u [p.1, p.2]

theorem Two.block {w : World} {B : Nat} {u : Value} {p : Int × Int} (h : Two w B u p) : ∃ g, u.ownBlock = some g ∧ B ≤ g ∧ g < w.heap.size := by
  rcases h.2 with ⟨_, h0⟩ | ⟨g, cap, cur, hv, hb, hg, _⟩
  · cases h0
  · subst hv
    exact ⟨g, rfl, hb, (Array.getElem?_eq_some_iff.1 hg).1⟩
theorem Two.rows {w : World} {B : Nat} {u : Value} {p : Int × Int} (h : Two w B u p) : ∃ A cp, u = .slice A 2 cp ∧ RowsAt w w.heap.size 1 A 2 (fun i => [.int .i64 (cf p.1 p.2 i)]) := by
  obtain ⟨A, cp, rfl, hcp⟩ := Own.shape h
  refine ⟨A, cp, rfl, fun hn => ?_⟩
  obtain ⟨b, off, hA, hb, hc⟩ := Own.rows (c := intC) intC_len 0 h hn
  refine ⟨b, off, hA, hb, fun i hi j x hx => hc i hi j x ?_⟩
  rcases (show i = 0 ∨ i = 1 by omega) with rfl | rfl <;> exact hx
theorem Two.kept {w w' : World} {B : Nat} {u : Value} {p : Int × Int} {row : Option Nat} (h : Two w B u p) (hg : w.grownBy w' row) (hne : u.ownBlock ≠ row) : Two w' B u p := World.ownsRow.kept h hg (.inr hne)
theorem Two.below {w w' : World} {B : Nat} {u : Value} {p : Int × Int} (h : Two w B u p) (hb : Below w.heap.size w w') : Two w' B u p := Own.below h hb

/-- What the map D holds: the counts c. -/
def CntD (w : World) (B b : Nat) (vo : Value) (D : DataW Value) (c : Int → Int × Int) : Prop :=
  (∀ v : Int, Maps.has D (.int .i64 v) = false → c v = (0, 0)) ∧
  ∀ v : Int, Maps.has D (.int .i64 v) = true → ∃ u, (∀ z, D.atKey (.int .i64 v) z = .held u) ∧ Two w B u (c v) ∧ u.ownBlock ≠ some b ∧ u.ownBlock ≠ vo.ownBlock
def CntOk (w : World) (B b n : Nat) (vo : Value) (c : Int → Int × Int) : Prop := ∃ D : DataW Value, w.ownsMap Try.prog 3 vElem b n D ∧ CntD w B b vo D c

theorem CntOk.made (w : World) (B : Nat) (vo : Value) : CntOk (w.alloc (.map #[] 0)) B w.heap.size 0 vo (fun _ => (0, 0)) :=
  ⟨.map [], World.ownsMap_made _ _ _ _, fun _ _ => rfl, fun v h => by simp [Maps.has] at h⟩
theorem CntOk.lt {w : World} {B b n : Nat} {vo : Value} {c : Int → Int × Int} (h : CntOk w B b n vo c) : b < w.heap.size := by
  obtain ⟨D, h1, _⟩ := h
  exact h1.lt
theorem CntOk.mono {w : World} {B b n n' : Nat} {vo : Value} {c : Int → Int × Int} (h : CntOk w B b n vo c) (hn : n ≤ n') : CntOk w B b n' vo c := by
  obtain ⟨D, h1, h2⟩ := h
  exact ⟨D, h1.mono hn, h2⟩

theorem CntD.below {w w' : World} {B b : Nat} {vo : Value} {D : DataW Value} {c : Int → Int × Int} (h : CntD w B b vo D c) (hb : Below w.heap.size w w') : CntD w' B b vo D c :=
  ⟨h.1, fun v hv => by
    obtain ⟨u, h1, h2, h3, h4⟩ := h.2 v hv
    exact ⟨u, h1, h2.below hb, h3, h4⟩⟩
theorem CntOk.below {w w' : World} {B b n : Nat} {vo : Value} {c : Int → Int × Int} (h : CntOk w B b n vo c) (hb : Below w.heap.size w w') : CntOk w' B b n vo c := by
  obtain ⟨D, h1, h2⟩ := h
  exact ⟨D, h1.kept (row := none) (grown_of_below hb) (by simp), h2.below hb⟩

/-- Behind an append to the list of wealths. -/
theorem CntOk.app {w w' : World} {B b n : Nat} {vo vo' : Value} {c : Int → Int × Int} (h : CntOk w B b n vo c) (hg : w.grownBy w' vo.ownBlock) (hbv : vo.ownBlock ≠ some b) (hvo : vo'.ownBlock = vo.ownBlock ∨ ∃ g, vo'.ownBlock = some g ∧ w.heap.size ≤ g) : CntOk w' B b n vo' c := by
  obtain ⟨D, h1, h2, h3⟩ := h
  refine ⟨D, h1.kept hg (fun e => hbv e.symm), h2, fun v hv => ?_⟩
  obtain ⟨u, k1, k2, k3, k4⟩ := h3 v hv
  refine ⟨u, k1, k2.kept hg k4, k3, ?_⟩
  rcases hvo with e | ⟨g, e, hge⟩
  · rw [e]; exact k4
  · obtain ⟨g', e', _, hlt⟩ := k2.block
    rw [e, e']
    intro he
    injection he with he
    omega

theorem CntD.put {w w' : World} {B b : Nat} {vo u : Value} {D : DataW Value} {c : Int → Int × Int} {v : Int} {p : Int × Int} (hM : Maps.IsMap D) (h : CntD w B b vo D c) (hu : Two w B u p) (hne : u.ownBlock ≠ some b) (hne2 : u.ownBlock ≠ vo.ownBlock) (hg : w.grownBy w' (some b)) :
    CntD w' B b vo (D.put (.int .i64 v) (.held u)) (setC c v p) := by
  refine ⟨fun x hx => ?_, fun x hx => ?_⟩
  · by_cases hxv : x = v
    · subst hxv
      rw [has_put_same (k := Lit.int .i64 x) hM trivial] at hx
      cases hx
    · have hn : (Lit.int .i64 x) ≠ (Lit.int .i64 v) := fun e => hxv (by injection e)
      rw [has_put_other hn] at hx
      unfold setC
      rw [if_neg hxv]
      exact h.1 x hx
  · by_cases hxv : x = v
    · subst hxv
      refine ⟨u, fun z => atKey_put_same (k := Lit.int .i64 x) hM trivial _ _, ?_, hne, hne2⟩
      unfold setC
      rw [if_pos rfl]
      exact hu.kept hg hne
    · have hn : (Lit.int .i64 x) ≠ (Lit.int .i64 v) := fun e => hxv (by injection e)
      rw [has_put_other hn] at hx
      obtain ⟨u', k1, k2, k3, k4⟩ := h.2 x hx
      refine ⟨u', fun z => by rw [atKey_put_other hn]; exact k1 z, ?_, k3, k4⟩
      unfold setC
      rw [if_neg hxv]
      exact k2.kept hg k3

/-- The counts in a row of slices, as the reference keeps them. -/
def CntR (w : World) (B b m T : Nat) (vo : Value) (c : Nat → Int × Int) : Prop :=
  ∃ cs : Array Value, w.heap[b]? = some (.cells cs T (0, 0)) ∧ cs.size = m ∧ ∀ k, k < m → ∃ u, cs[k]? = some u ∧ Two w B u (c k) ∧ u.ownBlock ≠ some b ∧ u.ownBlock ≠ vo.ownBlock

theorem CntR.below {w w' : World} {B b m T : Nat} {vo : Value} {c : Nat → Int × Int} (h : CntR w B b m T vo c) (hb : Below w.heap.size w w') : CntR w' B b m T vo c := by
  obtain ⟨cs, h1, h2, h3⟩ := h
  refine ⟨cs, (hb.block _ (lt_of_blk h1)).trans h1, h2, fun k hk => ?_⟩
  obtain ⟨u, k1, k2, k3, k4⟩ := h3 k hk
  exact ⟨u, k1, k2.below hb, k3, k4⟩
theorem CntR.app {w w' : World} {B b m T : Nat} {vo vo' : Value} {c : Nat → Int × Int} (h : CntR w B b m T vo c) (hg : w.grownBy w' vo.ownBlock) (hbv : vo.ownBlock ≠ some b) (hvo : vo'.ownBlock = vo.ownBlock ∨ ∃ g, vo'.ownBlock = some g ∧ w.heap.size ≤ g) : CntR w' B b m T vo' c := by
  obtain ⟨cs, h1, h2, h3⟩ := h
  refine ⟨cs, (hg.block _ (lt_of_blk h1) (fun e => hbv e.symm)).trans h1, h2, fun k hk => ?_⟩
  obtain ⟨u, k1, k2, k3, k4⟩ := h3 k hk
  refine ⟨u, k1, k2.kept hg k4, k3, ?_⟩
  rcases hvo with e | ⟨g, e, hge⟩
  · rw [e]; exact k4
  · obtain ⟨g', e', _, hlt⟩ := k2.block
    rw [e, e']
    intro he
    injection he with he
    omega
theorem CntR.set {w : World} {B b m T : Nat} {vo u : Value} {c : Nat → Int × Int} {i : Nat} {p : Int × Int} (h : CntR w B b m T vo c) (hi : i < m) (hu : Two w B u p) (hne : u.ownBlock ≠ some b) (hne2 : u.ownBlock ≠ vo.ownBlock) :
    CntR (w.setCell ⟨b, i, none⟩ u) B b m T vo (fun k => if k = i then p else c k) := by
  obtain ⟨cs, h1, h2, h3⟩ := h
  have hg : w.grownBy (w.setCell ⟨b, i, none⟩ u) (some b) := only_setCell (only_refl _ _) (.inl rfl) u
  refine ⟨cs.setIfInBounds i u, block_set h1 i u, by simp [h2], fun k hk => ?_⟩
  by_cases hki : k = i
  · subst hki
    refine ⟨u, by rw [Array.getElem?_setIfInBounds_self_of_lt (by omega)], ?_, hne, hne2⟩
    dsimp only
    rw [if_pos rfl]
    exact hu.kept hg hne
  · obtain ⟨u', k1, k2, k3, k4⟩ := h3 k hk
    refine ⟨u', by rw [Array.getElem?_setIfInBounds_ne (by omega)]; exact k1, ?_, k3, k4⟩
    dsimp only
    rw [if_neg hki]
    exact k2.kept hg k3
theorem CntR.congr {w : World} {B b m T : Nat} {vo : Value} {c c' : Nat → Int × Int} (h : CntR w B b m T vo c) (hc : ∀ k, k < m → c k = c' k) : CntR w B b m T vo c' := by
  obtain ⟨cs, h1, h2, h3⟩ := h
  refine ⟨cs, h1, h2, fun k hk => ?_⟩
  obtain ⟨u, k1, k2, k3⟩ := h3 k hk
  exact ⟨u, k1, by rw [← hc k hk]; exact k2, k3⟩
end Go.Proofs.Ytgonighpjpfmnaa
