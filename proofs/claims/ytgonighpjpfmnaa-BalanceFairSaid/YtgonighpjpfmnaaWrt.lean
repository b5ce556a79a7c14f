/- Worlds that differ by new blocks and by a few writes of known cells, whoever comes first: appends that may write in place. No statement is proved here. -/
import Derived.Test.YtgonighpjpfmnaaPair
namespace Go.Proofs.Ytgonighpjpfmnaa
open Go.RowKit

theorem setL_get : ∀ (vs : List Value) (o : Nat) (cur : Array Value), o + vs.length ≤ cur.size → ∀ i, i < vs.length → (setL cur o vs)[o + i]? = vs[i]?
  | [], _, _, _, i, hi => by simp at hi
  | v :: r, o, cur, h, i, hi => by
    simp only [List.length_cons] at h hi
    cases i with
    | zero =>
      have h1 := setL_take (m := o + 1) r (o + 1) (cur.setIfInBounds o v) (Nat.le_refl _)
      have h2 : ((setL (cur.setIfInBounds o v) (o + 1) r).toList.take (o + 1))[o]? = some v := by
        rw [h1, List.getElem?_take, if_pos (by omega), Array.getElem?_toList, Array.getElem?_setIfInBounds]
        simp; omega
      rw [List.getElem?_take, if_pos (by omega), Array.getElem?_toList] at h2
      simp only [setL, Nat.add_zero, h2, List.getElem?_cons_zero]
    | succ i =>
      rw [setL, show o + (i + 1) = o + 1 + i by omega, setL_get r (o + 1) _ (by simp; omega) i (by omega)]
      rfl
theorem setL_idem (vs : List Value) (o : Nat) (cur : Array Value) (h : o + vs.length ≤ cur.size) : setL (setL cur o vs) o vs = setL cur o vs :=
  setL_same _ _ _ fun i hi => setL_get vs o cur h i hi

/-- New blocks, and of each write (block, first cell, cells) nothing or all. -/
structure RW (Ws : List (Nat × Nat × List Value)) (w w' : World) : Prop where
  os : w'.os = w.os
  tape : w'.tape = w.tape
  output : w'.output = w.output
  size : w.heap.size ≤ w'.heap.size
  block : ∀ k, k < w.heap.size → w'.heap[k]? = w.heap[k]? ∨ ∃ o cs cur t, (k, o, cs) ∈ Ws ∧ w.heap[k]? = some (.cells cur t (0, 0)) ∧ o + cs.length ≤ cur.size ∧ w'.heap[k]? = some (.cells (setL cur o cs) t (0, 0))

theorem RW.refl (Ws : List (Nat × Nat × List Value)) (w : World) : RW Ws w w := ⟨rfl, rfl, rfl, Nat.le_refl _, fun _ _ => .inl rfl⟩
theorem RW.of_le {Ws : List (Nat × Nat × List Value)} {w w' : World} (h : LeW w w') : RW Ws w w' := ⟨h.os, h.tape, h.output, h.size, fun k hk => .inl (h.block k hk)⟩
theorem RW.trans {Ws : List (Nat × Nat × List Value)} (hW : ∀ k o cs o' cs', (k, o, cs) ∈ Ws → (k, o', cs') ∈ Ws → o = o' ∧ cs = cs') {a b c : World} (h : RW Ws a b) (k : RW Ws b c) : RW Ws a c := by
  refine ⟨k.os.trans h.os, k.tape.trans h.tape, k.output.trans h.output, Nat.le_trans h.size k.size, fun i hi => ?_⟩
  rcases h.block i hi with h1 | ⟨o, cs, cur, t, hm, h1, h2, h3⟩
  · rcases k.block i (Nat.lt_of_lt_of_le hi h.size) with h4 | ⟨o, cs, cur, t, hm, h4, h5, h6⟩
    · exact .inl (h4.trans h1)
    · exact .inr ⟨o, cs, cur, t, hm, h1.symm.trans h4, h5, h6⟩
  · rcases k.block i (Nat.lt_of_lt_of_le hi h.size) with h4 | ⟨o', cs', cur', t', hm', h4, h5, h6⟩
    · exact .inr ⟨o, cs, cur, t, hm, h1, h2, h4.trans h3⟩
    · obtain ⟨rfl, rfl⟩ := hW _ _ _ _ _ hm hm'
      rw [h3] at h4
      injection h4 with h4
      injection h4 with h4 h7
      subst h4 h7
      rw [setL_idem _ _ _ h2] at h6
      exact .inr ⟨o, cs, cur, t, hm, h1, h2, h6⟩
theorem RW.below {Ws : List (Nat × Nat × List Value)} {w w' : World} {B : Nat} (h : RW Ws w w') (hB : B ≤ w.heap.size) (hW : ∀ k o cs, (k, o, cs) ∈ Ws → B ≤ k) : Below B w w' :=
  ⟨h.os, h.tape, h.output, h.size, fun k hk => (h.block k (by omega)).resolve_right fun ⟨_, _, _, _, hm, _⟩ => by have := hW _ _ _ hm; omega⟩
theorem RW.same {Ws : List (Nat × Nat × List Value)} {w w' : World} {k : Nat} (h : RW Ws w w') (hk : k < w.heap.size) (hW : ∀ o cs, (k, o, cs) ∉ Ws) : w'.heap[k]? = w.heap[k]? :=
  (h.block k hk).resolve_right fun ⟨_, _, _, _, hm, _⟩ => hW _ _ hm

theorem freshS_rw {Ws : List (Nat × Nat × List Value)} {S : Nat} {cs : Array Value} {e n : Nat} (hW : ∀ k o cs, (k, o, cs) ∈ Ws → k < S) : ∀ v w w', RW Ws w w' → freshS S cs e n v w → freshS S cs e n v w' := fun v w w' hR ⟨g, h1, h2, h3⟩ =>
  ⟨g, h1, h2, by rw [hR.same (Array.getElem?_eq_some_iff.1 h3).1 (fun o cs hm => by have := hW _ _ _ hm; omega)]; exact h3⟩
theorem fresh_rw {Ws : List (Nat × Nat × List Value)} {S : Nat} {cs : Array Value} {T : TypeId} (hW : ∀ k o cs, (k, o, cs) ∈ Ws → k < S) : ∀ v w w', RW Ws w w' → fresh S cs T v w → fresh S cs T v w' := fun v w w' hR ⟨g, h1, h2, h3⟩ =>
  ⟨g, h1, h2, by rw [hR.same (Array.getElem?_eq_some_iff.1 h3).1 (fun o cs hm => by have := hW _ _ _ hm; omega)]; exact h3⟩

/-- A list that the writes leave: they lie behind it, or are its own cells. -/
def Fits {α : Type} (c : α → List Value) (size : Nat) (Ws : List (Nat × Nat × List Value)) (v : Value) (L : List α) : Prop :=
  ∀ k o cs, (k, o, cs) ∈ Ws → v.ownBlock = some k → L.length * size ≤ o ∨ o + cs.length ≤ L.length * size ∧ ∀ i, i < cs.length → (L.flatMap c)[o + i]? = cs[i]?

theorem own_rw {α : Type} {c : α → List Value} {e size : Nat} {Ws : List (Nat × Nat × List Value)} {w w' : World} {B : Nat} {v : Value} {L : List α} (h : Own c e size w B v L) (hR : RW Ws w w') (hF : Fits c size Ws v L) : Own c e size w' B v L := by
  refine ⟨h.1, ?_⟩
  rcases h.2 with ⟨hv, h0⟩ | ⟨g, cap, cur, rfl, hB, hg, h1, h2, h3, h4⟩
  · exact .inl ⟨hv, h0⟩
  · rcases hR.block g (Array.getElem?_eq_some_iff.1 hg).1 with h5 | ⟨o, cs, cur', t, hm, h5, h6, h7⟩
    · exact .inr ⟨g, cap, cur, rfl, hB, h5.trans hg, h1, h2, h3, h4⟩
    · rw [hg] at h5
      injection h5 with h5
      injection h5 with h5 h8
      subst h5 h8
      refine .inr ⟨g, cap, _, rfl, hB, h7, h1, h2, by rw [setL_size]; exact h3, ?_⟩
      rcases hF g o cs hm rfl with h9 | ⟨h9, h10⟩
      · rw [setL_take _ _ _ h9]; exact h4
      · have e1 : setL cur o cs = cur := setL_same _ _ _ fun i hi => by
          rw [← h10 i hi, ← h4, List.getElem?_take, if_pos (by omega), Array.getElem?_toList]
        rw [e1]; exact h4

theorem Own.lt {α : Type} {c : α → List Value} {e size : Nat} {w : World} {B : Nat} {v : Value} {L : List α} (h : Own c e size w B v L) {g : Nat} (hg : v.ownBlock = some g) : g < w.heap.size ∧ B ≤ g :=
  (World.ownsRow.lt h g hg).symm

/-- What an append of one element writes, if it writes in place. -/
def wrOf {α : Type} (c : α → List Value) (size : Nat) (v : Value) (L : List α) (x : α) : List (Nat × Nat × List Value) := match v.ownBlock with
  | some g => [(g, L.length * size, c x)]
  | none => []

theorem mem_wrOf {α : Type} {c : α → List Value} {size : Nat} {v : Value} {L : List α} {x : α} {k o : Nat} {cs : List Value} (h : (k, o, cs) ∈ wrOf c size v L x) : v.ownBlock = some k ∧ o = L.length * size ∧ cs = c x := by
  unfold wrOf at h
  split at h
  · rename_i g hg
    rw [List.mem_singleton] at h
    injection h with h1 h2
    injection h2 with h2 h3
    exact ⟨by rw [h1]; exact hg, h2, h3⟩
  · cases h
theorem fits_own {α : Type} {c : α → List Value} {size : Nat} {v : Value} {L : List α} {x : α} {u : Value} : Fits c size (wrOf c size v L x) u L := fun k o cs hm _ => .inl (by rw [(mem_wrOf hm).2.1]; exact Nat.le_refl _)
theorem fits_snoc {α : Type} {c : α → List Value} {size : Nat} (hc : ∀ a, (c a).length = size) {v : Value} {L : List α} {x : α} {u : Value} : Fits c size (wrOf c size v L x) u (L ++ [x]) := fun k o cs hm _ => by
  obtain ⟨_, rfl, rfl⟩ := mem_wrOf hm
  refine .inr ⟨by rw [hc]; simp [Nat.add_mul], fun i hi => ?_⟩
  rw [List.flatMap_append, List.getElem?_append_right (by rw [flat_len c size hc]; omega), flat_len c size hc, List.flatMap_singleton, Nat.add_sub_cancel_left]
theorem fits_other {α β : Type} {c : α → List Value} {c' : β → List Value} {size size' : Nat} {v u : Value} {L : List α} {x : α} {M : List β} (h : ∀ g, v.ownBlock = some g → u.ownBlock ≠ some g) : Fits c' size' (wrOf c size v L x) u M := fun k _ _ hm hu => absurd hu (h k (mem_wrOf hm).1)
theorem fits_append {α : Type} {c : α → List Value} {size : Nat} {Ws Ws' : List (Nat × Nat × List Value)} {v : Value} {L : List α} (h : Fits c size Ws v L) (h' : Fits c size Ws' v L) : Fits c size (Ws ++ Ws') v L := fun k o cs hm hv => by
  rcases List.mem_append.1 hm with hm | hm
  · exact h k o cs hm hv
  · exact h' k o cs hm hv

set_option maxHeartbeats 600000 in
/-- An append of one element, in place or not. -/
theorem append_rw {α : Type} (c : α → List Value) (size bytes e t : Nat) (z : Value) (i0 : TypeInfo) (hc : ∀ a, (c a).length = size) (h1c : ∀ a, ∀ u ∈ c a, u.oneCell' = true) (ht : Try.prog.underlying t = some (.slice e)) (hi : Try.prog.info? e = some i0) (hz0 : i0.zero = some z) (hz1 : i0.size = size) (hz2 : i0.bytes = bytes) (hzs : z.cells.size = size) (hsz : 0 < size)
    {Ws : List (Nat × Nat × List Value)} {w : World} {B : Nat} {v : Value} {L : List α} {x : α} {g2 : Nat} (hown : Own c e size w B v L) (hW : ∀ p ∈ wrOf c size v L x, p ∈ Ws) (h2 : w.heap[g2]? = some (.cells (c x).toArray e (0, 0))) (hL : L.length ≤ 1048576) (hb : bytes ≤ 1000) (hB : B ≤ w.heap.size) :
    ∃ v' w', (Builtin.append_ #[t, t] t #[v, .slice (some ⟨g2, 0, none⟩) 1 1]).run Try.prog w = .ok v' w' ∧ RW Ws w w' ∧ Own c e size w' B v' (L ++ [x]) ∧ (v'.ownBlock = v.ownBlock ∨ v'.ownBlock = some w.heap.size) ∧ v'.ownBlock ≠ none := by
  have hnews : ∀ j u, (c x)[j]? = some u → w.cell? ((⟨g2, 0, none⟩ : Addr).add j) = some u := fun j u hu => by
    rw [Go.WideShapes.add_plain, Nat.zero_add, cell_of_block h2, List.getElem?_toArray]
    exact hu
  have hx : (c x).length = 1 * size := by rw [hc]; omega
  have hbig : (L.length + 1) * bytes ≤ 140737488355328 := by
    have h1 : (L.length + 1) * bytes ≤ 1048577 * 1000 := Nat.mul_le_mul (by omega) hb
    omega
  obtain ⟨v', w', hr, h3, h4, h5, h6⟩ := run_append_own_at (P := Try.prog) w B t t e i0 z size bytes ht hi hz0 hz1 hz2 hzs hsz v L.length (L.flatMap c) hown ⟨g2, 0, none⟩ 1 1 (c x) hx hnews (h1c x) (by unfold maxLen; omega) hbig hB
  have hsn : Own c e size w' B v' (L ++ [x]) := Own.snoc h3
  have hnn : v'.ownBlock ≠ none := fun hn => by
    rcases h3.2 with ⟨_, h0⟩ | ⟨g', cap', cur, hv', _⟩
    · omega
    · rw [hv'] at hn; cases hn
  refine ⟨v', w', hr, ?_, hsn, h6, hnn⟩
  rcases hown.2 with ⟨hv, h0⟩ | ⟨g, cap, cur, rfl, hBg, hcur, hn1, hn2, hszc, htk⟩
  · subst hv
    exact RW.of_le ⟨h4.os, h4.tape, h4.output, h4.size, fun k hk => h4.block k hk (by simp [Value.ownBlock])⟩
  · by_cases hroom : L.length + 1 ≤ cap
    · have hsrc := Src.ofSlice (P := Try.prog) w (size := i0.size) ht ⟨g2, 0, none⟩ 1 1 (c x) (by rw [hz1]; exact hx) hnews (h1c x)
      have hle : L.length * size + (c x).length ≤ cur.size := by
        rw [hszc, hc]
        have : (L.length + 1) * size ≤ cap * size := Nat.mul_le_mul_right _ hroom
        rw [Nat.add_mul] at this
        omega
      have hrm := run_append_room_src (P := Try.prog) w t t t e i0 ht hi g 0 L.length cap (.slice (some ⟨g2, 0, none⟩) 1 1) 1 (c x) hsrc hroom (fun j hj => by
          rw [hz1, Nat.zero_add, cell_of_block hcur, Array.getElem?_eq_getElem (by omega)]; rfl) (fun j _ => free_of_block hcur _)
      rw [hz1, Nat.zero_add, hr] at hrm
      injection hrm with hv hw
      subst hw
      have hself := setCells_self (c x) (L.length * size) w cur hcur
      have hbel := setCells_below (S := 0) (Nat.zero_le g) (c x) (L.length * size) w w (Below.refl _ _)
      refine ⟨hbel.os, hbel.tape, hbel.output, hbel.size, fun k hk => ?_⟩
      by_cases hkg : k = g
      · subst hkg
        exact .inr ⟨L.length * size, c x, cur, e, hW _ (by simp [wrOf, Value.ownBlock]), hcur, hle, hself⟩
      · exact .inl (setCells_other hkg _ _ _)
    · obtain ⟨v'', w'', hr2, _, hg3⟩ := run_append_arg_grows (P := Try.prog) w t t e i0 z size bytes ht hi hz0 hz1 hz2 hzs hsz ⟨g, 0, none⟩ L.length cap (L.flatMap c) (by rw [flat_len c size hc]) (fun j u hu => by
          rw [Go.WideShapes.add_plain, Nat.zero_add, cell_of_block hcur]
          rw [← htk, List.getElem?_take] at hu
          split at hu
          · simpa using hu
          · cases hu) ⟨g2, 0, none⟩ 1 1 (c x) hx hnews (by omega) (by unfold maxLen; omega) hbig
      rw [hr] at hr2
      injection hr2 with _ hw
      subst hw
      exact RW.of_le (below_of_grownBy hg3)
end Go.Proofs.Ytgonighpjpfmnaa
