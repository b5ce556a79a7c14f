/- Digits in memory: slices of u32 that read as numbers; slices of the call's own. No statement is proved here. -/
import Derived.Test.YtpligjkbnlfhgaaGreatDoorBase
import Derived.Test.YtpligjkbnlfhgaaGreatDoorPl
import Derived.Deep.AppendLies
import Derived.Laws.MakeOwn
import Derived.Laws.OwnMore
namespace Go.Proofs.YtpligjkbnlfhgaaGreatDoor
open Go.RowKit

abbrev u32V (x : Nat) : Value := .int .u32 (x : Int)

theorem cell_of_block {w : World} {g : Nat} {cs : Array Value} {t : TypeId} (h : w.heap[g]? = some (.cells cs t (0, 0))) (i : Nat) : w.cell? ⟨g, i, none⟩ = cs[i]? := cell_of_row w g i cs t (0, 0) h
theorem free_of_block {w : World} {g : Nat} {cs : Array Value} {t : TypeId} (h : w.heap[g]? = some (.cells cs t (0, 0))) (i : Nat) : w.frozen? ⟨g, i, none⟩ = false := by simp [World.frozen?, h]
theorem block_set {w : World} {g : Nat} {cs : Array Value} {t : TypeId} (h : w.heap[g]? = some (.cells cs t (0, 0))) (i : Nat) (u : Value) : (w.setCell ⟨g, i, none⟩ u).heap[g]? = some (.cells (cs.setIfInBounds i u) t (0, 0)) := by
  simp [World.setCell, Array.getElem?_modify, h]
theorem lt_of_blk {w : World} {g : Nat} {o : Obj} (h : w.heap[g]? = some o) : g < w.heap.size := (Array.getElem?_eq_some_iff.1 h).1
theorem only_drewN {a w : World} {row : Option Nat} (h : a.grownBy w row) (n : Nat) : a.grownBy (w.drewN n) row := ⟨h.os, h.tape, h.output, h.size, h.block⟩
theorem only_refl (w : World) (row : Option Nat) : w.grownBy w row := ⟨rfl, rfl, rfl, Nat.le_refl _, fun _ _ _ => rfl⟩
theorem only_setCell {a w : World} {g : Nat} (h : a.grownBy w (some g)) {p : Addr} (hp : p.block = g ∨ a.heap.size ≤ p.block) (u : Value) : a.grownBy (w.setCell p u) (some g) :=
  ⟨h.os, h.tape, h.output, by simpa [World.setCell] using h.size, fun i hi hne => (Below.heap_setCell w p u i (by
    rintro rfl
    rcases hp with hp | hp
    · exact hne (by rw [hp])
    · omega)).trans (h.block i hi hne)⟩
theorem below_drewN {B : Nat} {a b : World} (h : Below B a b) (n : Nat) : Below B a (b.drewN n) := ⟨h.os, h.tape, h.output, h.size, h.block⟩

/-- Digits behind a slice's address. -/
def RdD (w : World) (A : Option Addr) (n : Nat) (f : Nat → Nat) : Prop :=
  0 < n → ∃ b off, A = some ⟨b, off, none⟩ ∧ b < w.heap.size ∧ ∀ i, i < n → w.cell? ⟨b, off + i, none⟩ = some (u32V (f i))
theorem RdD.kept {w w' : World} {A : Option Addr} {n : Nat} {f : Nat → Nat} (h : RdD w A n f) (hs : w.heap.size ≤ w'.heap.size) (hk : ∀ k, k < w.heap.size → w'.heap[k]? = w.heap[k]?) : RdD w' A n f := fun hn => by
  obtain ⟨b, off, hA, hb, hc⟩ := h hn
  refine ⟨b, off, hA, by omega, fun i hi => ?_⟩
  rw [← hc i hi]
  simp only [World.cell?, hk b hb]
theorem RdD.below {w w' : World} {A : Option Addr} {n : Nat} {f : Nat → Nat} (h : RdD w A n f) (hb : Below w.heap.size w w') : RdD w' A n f := h.kept hb.size fun k hk => hb.block k hk
theorem RdD.le {w : World} {A : Option Addr} {n m : Nat} {f : Nat → Nat} (h : RdD w A n f) (hm : m ≤ n) : RdD w A m f := fun h0 => by
  obtain ⟨b, off, hA, hb, hc⟩ := h (by omega)
  exact ⟨b, off, hA, hb, fun i hi => hc i (by omega)⟩
theorem RdD.zero {w : World} {A : Option Addr} {f : Nat → Nat} : RdD w A 0 f := fun h => absurd h (by omega)

/-- A value that reads as a number. -/
def NatV (B : Nat) (w : World) (v : Value) (x : Nat) : Prop := ∃ A n c f, v = .slice A n c ∧ n ≤ c ∧ c ≤ maxLen ∧ RdD w A n f ∧ Dig B f n ∧ nv B f n = x
theorem NatV.below {B : Nat} {w w' : World} {v : Value} {x : Nat} (h : NatV B w v x) (hb : Below w.heap.size w w') : NatV B w' v x := by
  obtain ⟨A, n, c, f, hv, hc, hm, hr, hd, hx⟩ := h
  exact ⟨A, n, c, f, hv, hc, hm, hr.below hb, hd, hx⟩
theorem NatV.nil {B : Nat} {w : World} : NatV B w (.slice none 0 0) 0 := ⟨none, 0, 0, fun _ => 0, rfl, Nat.le_refl _, by unfold maxLen; omega, RdD.zero, ⟨fun _ h => by omega, fun h => absurd rfl h⟩, rfl⟩

/-- Small enough: fewer than 2^k. -/
def Sm (k x : Nat) : Prop := x < 2 ^ k
theorem Sm.mono {k m x : Nat} (h : Sm k x) (hk : k ≤ m) : Sm m x := Nat.lt_of_lt_of_le h (Nat.pow_le_pow_right (by omega) hk)
theorem Sm.le {k x y : Nat} (h : Sm k x) (hy : y ≤ x) : Sm k y := Nat.lt_of_le_of_lt hy h
theorem Sm.mul {k m x y : Nat} (h : Sm k x) (g : Sm m y) : Sm (k + m) (x * y) := by
  unfold Sm at *
  rw [Nat.pow_add]
  exact Nat.mul_lt_mul_of_lt_of_le h (Nat.le_of_lt g) (Nat.pow_pos (by omega))
theorem Sm.add {k m x y : Nat} (h : Sm k x) (g : Sm m y) : Sm (max k m + 1) (x + y) := by
  have h1 := h.mono (Nat.le_max_left k m)
  have h2 := g.mono (Nat.le_max_right k m)
  unfold Sm at *
  rw [Nat.pow_succ]; omega
/-- So many digits at most. -/
theorem Sm.len {B k n : Nat} {f : Nat → Nat} (hB : 1 < B) (hd : Dig B f n) (h : Sm k (nv B f n)) : n ≤ k := by
  refine len_le hB hd (Nat.lt_of_lt_of_le h ?_)
  exact Nat.pow_le_pow_left (by omega) k

/-- A slice of the call's own: the digits L. -/
def OwnD (E : TypeId) (w : World) (B : Nat) (v : Value) (L : List Nat) : Prop := w.ownsRow B E 1 v L.length (L.map u32V)
section
variable {E : TypeId} {w w' : World} {B : Nat} {v : Value} {L : List Nat}
theorem OwnD.shape (h : OwnD E w B v L) : ∃ A cap, v = .slice A L.length cap ∧ L.length ≤ cap ∧ cap ≤ maxLen := by
  rcases h.2 with ⟨rfl, h0⟩ | ⟨g, cap, cur, rfl, _, _, hn, hm, _⟩
  · exact ⟨none, 0, by rw [h0], by omega, by unfold maxLen; omega⟩
  · exact ⟨_, cap, rfl, hn, hm⟩
theorem OwnD.blk (h : OwnD E w B v L) (hl : 0 < L.length) : ∃ g cap cur, v = .slice (some ⟨g, 0, none⟩) L.length cap ∧ B ≤ g ∧ w.heap[g]? = some (.cells cur E (0, 0)) ∧ L.length ≤ cap ∧ cap ≤ maxLen ∧ ∀ i, i < L.length → cur[i]? = some (u32V (dl L i)) := by
  rcases h.2 with ⟨_, h0⟩ | ⟨g, cap, cur, hv, hB, hg, hn, hm, hs, ht⟩
  · omega
  · refine ⟨g, cap, cur, hv, hB, hg, hn, hm, fun i hi => ?_⟩
    have e : (L.map u32V)[i]? = some (u32V L[i]) := by rw [List.getElem?_map, List.getElem?_eq_getElem hi]; rfl
    rw [← ht, List.getElem?_take_of_lt (by omega), Array.getElem?_toList] at e
    rw [e]
    simp [dl, hi]
theorem OwnD.rd {A : Option Addr} {n c : Nat} (h : OwnD E w B (.slice A n c) L) : n = L.length ∧ RdD w A L.length (dl L) := by
  have hn : n = L.length := by
    obtain ⟨_, _, he, _⟩ := h.shape
    injection he
  refine ⟨hn, fun h0 => ?_⟩
  obtain ⟨g, cap, cur, hv, _, hg, _, _, hc⟩ := h.blk h0
  injection hv with hA
  refine ⟨g, 0, hA, lt_of_blk hg, fun i hi => ?_⟩
  rw [cell_of_block hg, Nat.zero_add]
  exact hc i hi
theorem OwnD.nil : OwnD E w B (.slice none 0 0) [] := World.ownsRow_nil w B E 1
theorem OwnD.below (h : OwnD E w B v L) (hb : Below w.heap.size w w') : OwnD E w' B v L :=
  World.ownsRow.kept (row := none) h ⟨hb.os, hb.tape, hb.output, hb.size, fun k hk _ => hb.block k hk⟩ (by cases v.ownBlock <;> simp)
theorem OwnD.only {g : Nat} (h : OwnD E w B v L) (hb : w.grownBy w' (some g)) (hg : g < B) : OwnD E w' B v L :=
  World.ownsRow.kept h hb (by
    cases hv : v.ownBlock with
    | none => exact .inl rfl
    | some k => exact .inr (fun he => by injection he with he; have := World.ownsRow.lt h k hv; omega))
theorem OwnD.mono {B' : Nat} (h : OwnD E w B v L) (hB : B' ≤ B) : OwnD E w B' v L := by
  refine ⟨h.1, ?_⟩
  rcases h.2 with hn | ⟨g, cap, cur, hv, hb, r⟩
  · exact .inl hn
  · exact .inr ⟨g, cap, cur, hv, Nat.le_trans hB hb, r⟩
theorem OwnD.snoc {x : Nat} (h : w.ownsRow B E 1 v (L.length + 1) (L.map u32V ++ [u32V x])) : OwnD E w B v (L ++ [x]) := by
  unfold OwnD
  rw [List.length_append, List.length_singleton, List.map_append, List.map_singleton]
  exact h
/-- A slice that was made: so many zeros. -/
theorem OwnD.made {n : Nat} (h : w.ownsRow B E 1 v n (madeCells #[.int .u32 0] (n * 1)).toList) : OwnD E w B v (List.replicate n 0) := by
  unfold OwnD
  rw [List.length_replicate, List.map_replicate]
  have e : (madeCells #[.int .u32 0] (n * 1)).toList = List.replicate n (u32V 0) := by
    apply List.ext_getElem
    · simp [madeCells]
    · intro i h1 h2
      simp only [madeCells, u32V, List.getElem_replicate, Array.getElem_toList, Array.getElem_map, List.size_toArray, List.length_singleton, Nat.mod_one]
      rfl
  rwa [e] at h
theorem dl_replicate {n : Nat} : ∀ j, j < n → dl (List.replicate n 0) j = 0 := fun j hj => by
  simp [dl, hj]
theorem dl_set {k x : Nat} (hk : k < L.length) : dl (L.set k x) = updN (dl L) k x := by
  funext j
  unfold dl
  by_cases h : j = k
  · subst h
    rw [updN_same, List.getD_eq_getElem?_getD, List.getElem?_set_self hk]; rfl
  · rw [updN_other _ h, List.getD_eq_getElem?_getD, List.getElem?_set_ne (Ne.symm h), ← List.getD_eq_getElem?_getD]
/-- A digit is stored. -/
theorem OwnD.set {g n cap : Nat} (h : OwnD E w B (.slice (some ⟨g, 0, none⟩) n cap) L) (k x : Nat) :
    OwnD E (w.setCell ⟨g, k, none⟩ (u32V x)) B (.slice (some ⟨g, 0, none⟩) n cap) (L.set k x) ∧ w.grownBy (w.setCell ⟨g, k, none⟩ (u32V x)) (some g) := by
  have hn := h.rd.1
  subst hn
  obtain ⟨h1, h2⟩ := World.ownsRow.stored h k (u32V x)
  refine ⟨?_, h2⟩
  unfold OwnD
  rw [List.length_set, List.map_set]
  exact h1
/-- The cell, and that it may be written. -/
theorem OwnD.cell {g n cap : Nat} (h : OwnD E w B (.slice (some ⟨g, 0, none⟩) n cap) L) (k : Nat) (hk : k < L.length) : w.cell? ⟨g, k, none⟩ = some (u32V (dl L k)) ∧ w.frozen? ⟨g, k, none⟩ = false ∧ B ≤ g ∧ g < w.heap.size := by
  obtain ⟨g', cap', cur, hv, hB, hg, _, _, hc⟩ := h.blk (by omega)
  injection hv with hA _ _
  injection hA with hA
  injection hA with hA
  subst hA
  exact ⟨by rw [cell_of_block hg]; exact hc k hk, free_of_block hg k, hB, lt_of_blk hg⟩
end
end Go.Proofs.YtpligjkbnlfhgaaGreatDoor
