/- append of a list in memory onto a list of the call's own. No statement is proved here. -/
import Derived.Test.YtgonighpjpfmnaaBal3
import Derived.Test.YtgonighpjpfmnaaSamples
namespace Go.Proofs.Ytgonighpjpfmnaa
open Go.RowKit

theorem rows_flat {α : Type} {c : α → List Value} {size : Nat} (hc : ∀ a, (c a).length = size) {w : World} {B n b off : Nat} {f : Nat → α} (hsz : 0 < size) (h : RowsAt w B size (some ⟨b, off, none⟩) n (fun i => c (f i))) (j : Nat) (u : Value) (hu : (((List.range n).map f).flatMap c)[j]? = some u) : w.cell? ⟨b, off + j, none⟩ = some u := by
  have hjl : j < n * size := by
    have := (List.getElem?_eq_some_iff.1 hu).1
    rw [flat_len c size hc] at this
    simpa using this
  have hi : j / size < n := (Nat.div_lt_iff_lt_mul hsz).2 hjl
  have hr : j % size < size := Nat.mod_lt _ hsz
  have hj : j / size * size + j % size = j := Nat.div_add_mod' j size
  have hg : ((List.range n).map f)[j / size]? = some (f (j / size)) := by rw [List.getElem?_map, List.getElem?_range hi]; rfl
  have hx := flat_get c size hc _ _ (j % size) _ hg hr
  rw [hj, hu] at hx
  obtain ⟨b', off', hA, _, hcell⟩ := h (Nat.lt_of_le_of_lt (Nat.zero_le _) hi)
  cases hA
  have := hcell (j / size) hi (j % size) u hx.symm
  rw [Nat.add_assoc, hj] at this
  exact this

theorem append_run {α : Type} (c : α → List Value) (size bytes e t : Nat) (z : Value) (i0 : TypeInfo) (hc : ∀ a, (c a).length = size) (h1c : ∀ a, ∀ u ∈ c a, u.oneCell' = true) (ht : Try.prog.underlying t = some (.slice e)) (hi : Try.prog.info? e = some i0) (hz0 : i0.zero = some z) (hz1 : i0.size = size) (hz2 : i0.bytes = bytes) (hzs : z.cells.size = size) (hsz : 0 < size)
    (w : World) (B : Nat) (v : Value) (L : List α) (hown : Own c e size w B v L) (hv : ∃ g cap, v = .slice (some ⟨g, 0, none⟩) L.length cap) (A : Option Addr) (n cp : Nat) (f : Nat → α) (hn : n ≤ 1048576) (hL : L.length ≤ 1048576) (hb : bytes ≤ 1000) (hB : B ≤ w.heap.size) (h : RowsAt w w.heap.size size A n fun i => c (f i)) :
    ∃ v' w', (Builtin.append_ #[t, t] t #[v, .slice A n cp]).run Try.prog w = .ok v' w' ∧ Own c e size w' B v' (L ++ (List.range n).map f) ∧ w.grownBy w' v.ownBlock ∧ ∃ g cap, v' = .slice (some ⟨g, 0, none⟩) (L.length + n) cap := by
  obtain ⟨g, cap, rfl⟩ := hv
  have hbig : (L.length + n) * bytes ≤ 140737488355328 := by
    have h1 : (L.length + n) * bytes ≤ 2097152 * 1000 := Nat.mul_le_mul (by omega) hb
    omega
  cases A with
  | none =>
    have h0 : n = 0 := by
      refine Decidable.byContradiction fun h0 => ?_
      obtain ⟨b, off, hA, _⟩ := h (by omega)
      cases hA
    subst h0
    have hroom : L.length ≤ cap := by obtain ⟨_, _, hs, hc⟩ := Own.shape hown; injection hs with _ _ hs; omega
    have hs := run_append_room_src (P := Try.prog) w t t t e i0 ht hi g 0 L.length cap (.slice none 0 cp) 0 [] (Src.ofNil w ht cp) (by omega) (by simp) (by simp)
    refine ⟨_, _, hs, by rw [List.range_zero, List.map_nil, List.append_nil]; exact hown, only_refl _ _, g, cap, rfl⟩
  | some ad =>
    have hnews : ∀ j u, (((List.range n).map f).flatMap c)[j]? = some u → w.cell? (ad.add j) = some u := fun j u hu => by
      have hpos : 0 < n := by
        refine Decidable.byContradiction fun h0 => ?_
        have : n = 0 := by omega
        subst this
        simp at hu
      obtain ⟨b, off, hA, _, _⟩ := h hpos
      cases hA
      rw [Go.WideShapes.add_plain]
      exact rows_flat hc hsz h j u hu
    obtain ⟨v', w', hr, h2, h3, h4, _⟩ := run_append_own_at (P := Try.prog) w B t t e i0 z size bytes ht hi hz0 hz1 hz2 hzs hsz (.slice (some ⟨g, 0, none⟩) L.length cap) L.length (L.flatMap c) hown ad n cp (((List.range n).map f).flatMap c) (by rw [flat_len c size hc]; simp) hnews (fun u hu => by
      obtain ⟨a, _, ha⟩ := List.mem_flatMap.1 hu
      exact h1c a u ha) (by unfold maxLen; omega) hbig hB
    refine ⟨v', w', hr, ?_, h3, ?_⟩
    · unfold Own
      rw [List.flatMap_append, List.length_append, List.length_map, List.length_range]
      exact h2
    · rcases h2.2 with ⟨hn0, _⟩ | ⟨g', cap', cur, hv', _⟩
      · have := (h4.1 hn0).1
        cases this
      · exact ⟨g', cap', hv'⟩

/-- An empty literal. -/
theorem own_empty {α : Type} {c : α → List Value} {e size : Nat} {w : World} {g B : Nat} (hg : w.heap[g]? = some (.cells #[] e (0, 0))) (hB : B ≤ g) : Own c e size w B (.slice (some ⟨g, 0, none⟩) 0 0) ([] : List α) :=
  ⟨by simp, .inr ⟨g, 0, #[], rfl, hB, hg, Nat.le_refl _, Nat.zero_le _, by simp, by simp⟩⟩

theorem smp_one : ∀ (s : Smp) (u : Value), u ∈ s.cells → u.oneCell' = true := fun s u hu => by
  simp only [Smp.cells, List.mem_cons, List.not_mem_nil, or_false] at hu
  rcases hu with rfl | rfl | rfl | rfl | rfl | rfl | rfl | rfl | rfl | rfl <;> rfl
end Go.Proofs.Ytgonighpjpfmnaa
