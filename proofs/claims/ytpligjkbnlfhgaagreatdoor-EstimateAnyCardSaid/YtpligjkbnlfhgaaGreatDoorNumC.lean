/- Lists of numbers in blocks of their own. No statement is proved here. -/
import Derived.Test.YtpligjkbnlfhgaaGreatDoorNumB
namespace Go.Proofs.YtpligjkbnlfhgaaGreatDoor
open Go.RowKit

/-- A list of numbers whose block is known. -/
structure BlkF (w : World) (g k c : Nat) (f : Nat → Int) : Prop where
  blk : ∃ cur : Array Value, w.heap[g]? = some (.cells cur 3 (0, 0)) ∧ cur.size = c ∧ ∀ i, i < k → cur[i]? = some (.int .i64 (f i))
  le : k ≤ c
  max : c ≤ maxLen
section
variable {w w' : World} {g h k c : Nat} {f : Nat → Int}
theorem BlkF.lt (b : BlkF w g k c f) : g < w.heap.size := by obtain ⟨cur, h1, -⟩ := b.blk; exact lt_of_blk h1
theorem BlkF.cell (b : BlkF w g k c f) {i : Nat} (hi : i < k) : w.cell? ⟨g, i, none⟩ = some (.int .i64 (f i)) := by
  obtain ⟨cur, h1, h2, h3⟩ := b.blk
  rw [cell_of_block h1 i]; exact h3 i hi
theorem BlkF.free (b : BlkF w g k c f) (i : Nat) : w.frozen? ⟨g, i, none⟩ = false := by
  obtain ⟨cur, h1, h2, h3⟩ := b.blk
  exact free_of_block h1 i
theorem BlkF.ints (b : BlkF w g k c f) : IntsV w (some ⟨g, 0, none⟩) k c f := ⟨fun _ => ⟨g, 0, rfl, b.lt, fun i hi => by rw [Nat.zero_add]; exact b.cell hi⟩, b.le, b.max⟩
theorem BlkF.below (b : BlkF w g k c f) (hb : Below w.heap.size w w') : BlkF w' g k c f := by
  obtain ⟨cur, h1, h2, h3⟩ := b.blk
  exact ⟨⟨cur, blk_below hb h1, h2, h3⟩, b.le, b.max⟩
theorem BlkF.congr {f' : Nat → Int} (b : BlkF w g k c f) (h : ∀ i, i < k → f i = f' i) : BlkF w g k c f' := by
  obtain ⟨cur, h1, h2, h3⟩ := b.blk
  exact ⟨⟨cur, h1, h2, fun i hi => by rw [← h i hi]; exact h3 i hi⟩, b.le, b.max⟩
theorem BlkF.other (b : BlkF w g k c f) (hne : h ≠ g) (i : Nat) (v : Value) : BlkF (w.setCell ⟨h, i, none⟩ v) g k c f := by
  obtain ⟨cur, h1, h2, h3⟩ := b.blk
  exact ⟨⟨cur, (other_blk' hne).trans h1, h2, h3⟩, b.le, b.max⟩
theorem BlkF.set (b : BlkF w g k c f) (j : Nat) (x : Int) : BlkF (w.setCell ⟨g, j, none⟩ (.int .i64 x)) g k c (fun i => if i = j then x else f i) := by
  obtain ⟨cur, h1, h2, h3⟩ := b.blk
  refine ⟨⟨_, block_set h1 j _, by simp [h2], fun i hi => ?_⟩, b.le, b.max⟩
  rw [Array.getElem?_setIfInBounds]
  by_cases e : j = i
  · subst e
    have hlt : j < cur.size := by have := b.le; omega
    simp [hlt]
  · rw [if_neg e, if_neg (fun h => e h.symm)]; exact h3 i hi
theorem BlkF.drew (b : BlkF w g k c f) : BlkF w.drew g k c f := b.below ((Below.refl _ _).drew)
end
theorem OwnF.blk {w : World} {B k c : Nat} {A : Option Addr} {f : Nat → Int} (h : OwnF w B (.slice A k c) k f) (hk : 0 < k) : ∃ g, A = some ⟨g, 0, none⟩ ∧ B ≤ g ∧ BlkF w g k c f := by
  obtain ⟨l, hl, hF, ho⟩ := h
  rcases ho.2 with ⟨hv, h0⟩ | ⟨g, cap, cur, hv, hB, hg, hle, hcm, hsz, htk⟩
  · omega
  · injection hv with h1 h2 h3
    subst h1 h3
    refine ⟨g, rfl, hB, ⟨cur, hg, by omega, fun i hi => ?_⟩, by omega, hcm⟩
    have hx := flat_get intC 1 intC_len l i 0 (l.getD i 0) (by rw [List.getElem?_eq_getElem (by omega), List.getD_eq_getElem?_getD, List.getElem?_eq_getElem (by omega)]; rfl) (by decide)
    rw [← htk, List.getElem?_take] at hx
    rw [hF i hi] at hx
    split at hx
    · simpa [intC] using hx
    · cases hx
theorem OwnF.intsV {w : World} {B n c : Nat} {A : Option Addr} {f : Nat → Int} (h : OwnF w B (.slice A n c) n f) : IntsV w A n c f := h.ints.2
/-- The first j numbers halved. -/
def hvF (F : Nat → Int) (j i : Nat) : Int := if i < j then (F i).tdiv 2 else F i
theorem hvF_succ (F : Nat → Int) (j i : Nat) : (if i = j then (F j).tdiv 2 else hvF F j i) = hvF F (j + 1) i := by
  unfold hvF
  by_cases h : i = j
  · subst h; rw [if_pos rfl, if_pos (by omega)]
  · rw [if_neg h]
    by_cases h2 : i < j
    · rw [if_pos h2, if_pos (by omega)]
    · rw [if_neg h2, if_neg (by omega)]
theorem half_bd {x : Int} (h : -1048576 ≤ x ∧ x ≤ 1048576) : -524288 ≤ x.tdiv 2 ∧ x.tdiv 2 ≤ 524288 := by
  rcases Int.le_total 0 x with h0 | h0
  · rw [Int.tdiv_eq_ediv_of_nonneg h0]; omega
  · have e : x.tdiv 2 = -((-x).tdiv 2) := by rw [Int.neg_tdiv, Int.neg_neg]
    rw [e, Int.tdiv_eq_ediv_of_nonneg (by omega)]; omega
/-- Numerators. -/
theorem num_pos {A B : ByteArray} {x : Rat} (h : Tx A B x) (hx : 0 ≤ x) : 0 < A.size ∧ ∀ (hp : 0 < A.size), ¬ ((A[0].toNat : Int) = 45) := by
  refine ⟨h.size.2.2, fun hp he => ?_⟩
  have hn : negL A.data.toList = true := by rw [neg_head hp, he]; rfl
  by_cases h0 : x = 0
  · subst h0
    have := num_zero h
    rw [ByteArray.toList_eq] at this
    rw [this] at hn
    exact absurd hn (by decide)
  · have h1 := (num_head h h0).2
    rw [ByteArray.toList_eq, hn] at h1
    have := Rat.num_nonneg.2 hx
    simp at h1
    omega
end Go.Proofs.YtpligjkbnlfhgaaGreatDoor
