/- A region that draws its order, in which an append may write in place. No statement is proved here. -/
import Derived.Test.YtgonighpjpfmnaaApp
import Derived.Test.YtgonighpjpfmnaaLoose2
import Derived.Test.YtgonighpjpfmnaaLate3
namespace Go.Proofs.Ytgonighpjpfmnaa
open Go.RowKit

def setL (cur : Array Value) : Nat → List Value → Array Value
  | _, [] => cur
  | o, v :: r => setL (cur.setIfInBounds o v) (o + 1) r

theorem setCells_self {g : Nat} {t : TypeId} : ∀ (vs : List Value) (o : Nat) (w : World) (cur : Array Value), w.heap[g]? = some (.cells cur t (0, 0)) → (w.setCells g o vs).heap[g]? = some (.cells (setL cur o vs) t (0, 0))
  | [], _, _, _, h => h
  | v :: r, o, _, _, h => setCells_self r (o + 1) _ _ (block_set h o v)

theorem setCells_below {S g : Nat} (hg : S ≤ g) : ∀ (vs : List Value) (o : Nat) (w0 w : World), Below S w0 w → Below S w0 (w.setCells g o vs)
  | [], _, _, _, h => h
  | v :: r, o, w0, _, h => setCells_below hg r (o + 1) w0 _ (h.setCell hg v)

theorem setCells_other {g k : Nat} (hk : k ≠ g) : ∀ (vs : List Value) (o : Nat) (w : World), (w.setCells g o vs).heap[k]? = w.heap[k]?
  | [], _, _ => rfl
  | v :: r, o, w => by
    show ((w.setCell ⟨g, o, none⟩ v).setCells g (o + 1) r).heap[k]? = _
    rw [setCells_other hk r (o + 1), Below.heap_setCell _ _ _ _ hk]

theorem setL_size : ∀ (vs : List Value) (o : Nat) (cur : Array Value), (setL cur o vs).size = cur.size
  | [], _, _ => rfl
  | v :: r, o, cur => by rw [setL, setL_size r]; simp

theorem setL_take {m : Nat} : ∀ (vs : List Value) (o : Nat) (cur : Array Value), m ≤ o → (setL cur o vs).toList.take m = cur.toList.take m
  | [], _, _, _ => rfl
  | v :: r, o, cur, h => by
    rw [setL, setL_take r (o + 1) _ (by omega), Array.toList_setIfInBounds, List.take_set_of_le h]

theorem setL_same : ∀ (vs : List Value) (o : Nat) (cur : Array Value), (∀ i, i < vs.length → cur[o + i]? = vs[i]?) → setL cur o vs = cur
  | [], _, _, _ => rfl
  | v :: r, o, cur, h => by
    have h0 := h 0 (by simp)
    simp only [Nat.add_zero, List.getElem?_cons_zero] at h0
    have e : cur.setIfInBounds o v = cur := by
      obtain ⟨hlt, hv⟩ := Array.getElem?_eq_some_iff.1 h0
      apply Array.ext (by simp)
      intro i h1 h2
      rw [Array.getElem_setIfInBounds]
      split
      · rename_i he; subst he; exact hv.symm
      · rfl
    rw [setL, e]
    exact setL_same r (o + 1) cur fun i hi => by
      have := h (i + 1) (by simp; omega)
      rw [show o + 1 + i = o + (i + 1) by omega, this]
      rfl

section
variable (S : Nat) (l : List Smp) (x : Smp)

def P59 : Pred := freshS S #[] 34 0
def P61 : Pred := fun v w => OwnSmp w S v l ∧ ∃ g cap, v = .slice (some ⟨g, 0, none⟩) l.length cap ∧ (l.length = 0 → cap = 0)
def P63 : Pred := freshS S x.cells.toArray 34 1
def P64 : Pred := fun v w => OwnSmp w S v (l ++ [x]) ∧ ∃ g cap, v = .slice (some ⟨g, 0, none⟩) (l.length + 1) cap
def P13 : Pred := fresh S #[.int .i64 0, .int .i64 0, .int .i64 0] 37

def RK (w w' : World) : Prop := Below S w w' ∧ (∀ v, P59 S v w → P59 S v w') ∧ (∀ v, P61 S l v w → P61 S l v w') ∧ (∀ v, P63 S x v w → P63 S x v w') ∧ (∀ v, P64 S l x v w → P64 S l x v w') ∧ (∀ v, P13 S v w → P13 S v w')

theorem RK.refl (w : World) : RK S l x w w := ⟨Below.refl _ _, fun _ h => h, fun _ h => h, fun _ h => h, fun _ h => h, fun _ h => h⟩
theorem RK.trans {a b c : World} (h : RK S l x a b) (k : RK S l x b c) : RK S l x a c :=
  ⟨h.1.trans k.1, fun v p => k.2.1 v (h.2.1 v p), fun v p => k.2.2.1 v (h.2.2.1 v p), fun v p => k.2.2.2.1 v (h.2.2.2.1 v p), fun v p => k.2.2.2.2.1 v (h.2.2.2.2.1 v p), fun v p => k.2.2.2.2.2 v (h.2.2.2.2.2 v p)⟩

theorem RK.of_le {w w' : World} (hS : S ≤ w.heap.size) (h : LeW w w') : RK S l x w w' :=
  ⟨h.mono hS, fun v p => freshS_mono _ _ _ _ v _ _ h p, fun _ p => ⟨Own.below p.1 h, p.2⟩, fun v p => freshS_mono _ _ _ _ v _ _ h p, fun _ p => ⟨Own.below p.1 h, p.2⟩, fun v p => fresh_mono _ _ _ v _ _ h p⟩

theorem own_of_cells {w : World} {g : Nat} {n cap : Nat} {L : List Smp} {cur : Array Value} (h : OwnSmp w S (.slice (some ⟨g, 0, none⟩) n cap) L) (hg : w.heap[g]? = some (.cells cur 34 (0, 0))) : S ≤ g ∧ n = L.length ∧ n ≤ cap ∧ cap ≤ maxLen ∧ cur.size = cap * 10 ∧ cur.toList.take (n * 10) = L.flatMap Smp.cells := by
  rcases h.2 with ⟨hv, _⟩ | ⟨g', cap', cur', hv, hB, hg', h1, h2, h3, h4⟩
  · cases hv
  · injection hv with e1 e2 e3
    injection e1 with e1
    injection e1 with e1
    subst e1
    subst e3
    rw [hg] at hg'
    injection hg' with hg'
    injection hg' with hg'
    subst hg'
    subst e2
    exact ⟨hB, rfl, h1, h2, h3, h4⟩

theorem own_move {w w' : World} {k n cap : Nat} {L : List Smp} (h : OwnSmp w S (.slice (some ⟨k, 0, none⟩) n cap) L) (he : w'.heap[k]? = w.heap[k]?) : OwnSmp w' S (.slice (some ⟨k, 0, none⟩) n cap) L := by
  rcases h.2 with ⟨hv, _⟩ | ⟨k', c', cu, hv, r1, r2, r3⟩
  · have hb := congrArg Value.ownBlock hv
    simp [Value.ownBlock] at hb
  · have hb := congrArg Value.ownBlock hv
    simp only [Value.ownBlock, Option.some.injEq] at hb
    exact ⟨h.1, .inr ⟨k', c', cu, hv, r1, by rw [← hb, he, hb]; exact r2, r3⟩⟩

set_option maxHeartbeats 600000 in
/-- The append of one sample, in place or not. -/
theorem append_keeps {w : World} (hS : S ≤ w.heap.size) (hl : l.length ≤ 100000) {v61 v63 : Value} (h61 : P61 S l v61 w) (h63 : P63 S x v63 w) :
    ∃ v w', (Builtin.append_ #[25, 25] 25 #[v61, v63]).run Try.prog w = .ok v w' ∧ RK S l x w w' ∧ P64 S l x v w' := by
  obtain ⟨i0, hi, hz0, hz1, hz2⟩ := info_parts info34
  obtain ⟨hown, g, cap, rfl, hcap0⟩ := h61
  obtain ⟨g2, rfl, hg2, hb2⟩ := h63
  have hnews : ∀ j u, x.cells[j]? = some u → w.cell? ((⟨g2, 0, none⟩ : Addr).add j) = some u := fun j u hu => by
    rw [Go.WideShapes.add_plain, Nat.zero_add, cell_of_block hb2, List.getElem?_toArray]
    exact hu
  have hx10 : x.cells.length = 1 * 10 := rfl
  obtain ⟨v', w', hr, h2, h3, h4, h5⟩ := run_append_own_at (P := Try.prog) w S 25 25 34 i0 _ 10 96 Try.underlying25 hi hz0 hz1 hz2 rfl (by omega) (.slice (some ⟨g, 0, none⟩) l.length cap) l.length (l.flatMap Smp.cells) hown ⟨g2, 0, none⟩ 1 1 x.cells hx10 hnews (fun u hu => smp_one x u hu) (by unfold maxLen; omega) (by omega) hS
  have h64 : P64 S l x v' w' := by
    refine ⟨?_, ?_⟩
    · unfold OwnSmp Own
      rw [List.flatMap_append, List.length_append, List.length_singleton, List.flatMap_singleton]
      exact h2
    · rcases h2.2 with ⟨hn0, _⟩ | ⟨g', cap', cur, hv', _⟩
      · have := (h4.1 hn0).1
        cases this
      · exact ⟨g', cap', hv'⟩
  refine ⟨v', w', hr, ?_, h64⟩
  rcases hown.2 with ⟨hv, _⟩ | ⟨gg, capg, cur, hvg, hBg, hcur, hn1, hn2, hsz, htk⟩
  · cases hv
  · injection hvg with e1 e2 e3
    injection e1 with e1
    injection e1 with e1
    subst e1
    subst e3
    by_cases hroom : l.length + 1 ≤ cap
    · have hsrc := Src.ofSlice (P := Try.prog) w (size := i0.size) Try.underlying25 ⟨g2, 0, none⟩ 1 1 x.cells (by rw [hz1]; rfl) hnews (fun u hu => smp_one x u hu)
      have hin : ∀ j, j < x.cells.length → l.length * 10 + j < cur.size := fun j hj => by
        rw [hsz]
        have hj10 : j < 10 := hj
        have : (l.length + 1) * 10 ≤ cap * 10 := Nat.mul_le_mul_right _ hroom
        omega
      have hrm := run_append_room_src (P := Try.prog) w 25 25 25 34 i0 Try.underlying25 hi g 0 l.length cap (.slice (some ⟨g2, 0, none⟩) 1 1) 1 x.cells hsrc hroom (fun j hj => by
          rw [hz1, Nat.zero_add, cell_of_block hcur, Array.getElem?_eq_getElem (hin j hj)]; rfl) (fun j _ => free_of_block hcur _)
      rw [hz1, Nat.zero_add] at hrm
      rw [hr] at hrm
      injection hrm with hv hw
      subst hw
      have hself := setCells_self x.cells (l.length * 10) w cur hcur
      have hl1 : 1 ≤ l.length := by
        refine Decidable.byContradiction fun h => ?_
        have h0 : l.length = 0 := by omega
        have := hcap0 h0
        omega
      have hsize : 20 ≤ cur.size := by rw [hsz]; omega
      have other : ∀ {k : Nat} {cs : Array Value} {t : TypeId}, w.heap[k]? = some (.cells cs t (0, 0)) → (cs.size < 20 ∨ t ≠ 34) → (w.setCells g (l.length * 10) x.cells).heap[k]? = some (.cells cs t (0, 0)) := fun {k cs t} hk hd => by
        have hne : k ≠ g := fun h => by
          subst h
          rw [hcur] at hk
          injection hk with hk
          injection hk with hk1 hk2
          subst hk1
          rcases hd with hd | hd
          · omega
          · exact hd hk2.symm
        rw [setCells_other hne]; exact hk
      refine ⟨setCells_below hBg _ _ _ _ (Below.refl _ _), fun v p => ?_, fun v p => ?_, fun v p => ?_, fun v p => ?_, fun v p => ?_⟩
      · obtain ⟨k, a, b, c⟩ := p
        exact ⟨k, a, b, other c (.inl (by simp))⟩
      · refine ⟨?_, p.2⟩
        obtain ⟨ho, k, c, rfl, _⟩ := p
        by_cases hk : k = g
        · subst hk
          obtain ⟨q1, q2, q3, q4, q5, q6⟩ := own_of_cells S ho hcur
          exact ⟨ho.1, .inr ⟨k, c, _, rfl, q1, hself, q3, q4, by rw [setL_size]; exact q5, by rw [setL_take _ _ _ (Nat.le_refl _)]; exact q6⟩⟩
        · exact own_move S ho (setCells_other hk _ _ _)
      · obtain ⟨k, a, b, c⟩ := p
        exact ⟨k, a, b, other c (.inl (by simp [Smp.cells]))⟩
      · refine ⟨?_, p.2⟩
        obtain ⟨ho, k, c, rfl⟩ := p
        by_cases hk : k = g
        · subst hk
          have hnl : (l ++ [x]).length = l.length + 1 := by simp
          obtain ⟨q1, q2, q3, q4, q5, q6⟩ := own_of_cells S ho hcur
          have hsame : setL cur (l.length * 10) x.cells = cur := setL_same _ _ _ fun i hi => by
            have hi10 : i < 10 := hi
            have h7 : (cur.toList.take ((l.length + 1) * 10))[l.length * 10 + i]? = x.cells[i]? := by
              rw [q6, List.flatMap_append, List.getElem?_append_right (by rw [flat_len Smp.cells 10 Smp.len]; omega), flat_len Smp.cells 10 Smp.len, List.flatMap_singleton, Nat.add_sub_cancel_left]
            rw [List.getElem?_take, if_pos (by omega)] at h7
            rw [← h7, Array.getElem?_toList]
          rw [hsame] at hself
          exact ⟨ho.1, .inr ⟨k, c, cur, by rw [hnl], q1, hself, by rw [hnl]; exact q3, q4, q5, by rw [hnl]; exact q6⟩⟩
        · exact own_move S ho (setCells_other hk _ _ _)
      · obtain ⟨k, a, b, c⟩ := p
        exact ⟨k, a, b, other c (.inr (by decide))⟩
    · obtain ⟨v'', w'', hr2, _, hg3⟩ := run_append_arg_grows (P := Try.prog) w 25 25 34 i0 _ 10 96 Try.underlying25 hi hz0 hz1 hz2 rfl (by omega) ⟨g, 0, none⟩ l.length cap (l.flatMap Smp.cells) (by rw [flat_len Smp.cells 10 Smp.len]) (fun j u hu => by
          rw [Go.WideShapes.add_plain, Nat.zero_add, cell_of_block hcur]
          rw [← htk, List.getElem?_take] at hu
          split at hu
          · simpa using hu
          · cases hu) ⟨g2, 0, none⟩ 1 1 x.cells hx10 hnews (by omega) (by unfold maxLen; omega) (by omega)
      rw [hr] at hr2
      injection hr2 with _ hw
      subst hw
      exact RK.of_le S l x hS (below_of_grownBy hg3)
end
end Go.Proofs.Ytgonighpjpfmnaa
