/- What a law is told of a slice of integers. No statement is proved here. -/
import Derived.Test.YtpligjkbnlfhgaaGreatDoorArgs2
namespace Go.Proofs.YtpligjkbnlfhgaaGreatDoor
open Go.RowKit

/-- A slice of integers that came in (the words of the shell that the kit's program writes). -/
def IsRow (k : IntKind) (w : World) (a : Option Addr) (len cap : Nat) (zs : List Int) : Prop :=
  (a = none ∧ len = 0 ∧ cap = 0 ∧ zs = []) ∨
  ∃ x, a = some x ∧ len ≤ cap ∧ cap ≤ maxLen ∧ zs.length = cap ∧ (∀ i, i < zs.length → w.cell? (x.add i) = some (.int k (zs.getD i 0))) ∧ ∀ n ∈ zs, (Lit.int k n).wf = true

theorem lt_of_cell {w : World} {b off : Nat} {v : Value} (h : w.cell? ⟨b, off, none⟩ = some v) : b < w.heap.size := by
  refine Decidable.byContradiction fun hb => ?_
  have : w.heap[b]? = none := Array.getElem?_eq_none (by omega)
  simp [World.cell?, this] at h

/-- Integers behind a slice's address. -/
def RdK (k : IntKind) (w : World) (A : Option Addr) (n : Nat) (f : Nat → Int) : Prop := 0 < n → ∃ b off, A = some ⟨b, off, none⟩ ∧ b < w.heap.size ∧ ∀ i, i < n → w.cell? ⟨b, off + i, none⟩ = some (.int k (f i))
theorem RdK.below {k : IntKind} {w w' : World} {A : Option Addr} {n : Nat} {f : Nat → Int} (h : RdK k w A n f) (hb : Below w.heap.size w w') : RdK k w' A n f := fun hn => by
  obtain ⟨b, off, hA, hbl, hc⟩ := h hn
  refine ⟨b, off, hA, Nat.lt_of_lt_of_le hbl hb.size, fun i hi => ?_⟩
  rw [← hc i hi]
  simp only [World.cell?, hb.block b hbl]
theorem IsRow.rd {k : IntKind} {w : World} {a : Option Addr} {len cap : Nat} {zs : List Int} (h : IsRow k w a len cap zs) : RdK k w a len (fun i => zs.getD i 0) ∧ (∀ i, i < len → (Lit.int k (zs.getD i 0)).wf = true) ∧ len ≤ cap ∧ cap ≤ maxLen := by
  rcases h with ⟨rfl, rfl, rfl, rfl⟩ | ⟨x, rfl, h1, h2, h3, h4, h5⟩
  · exact ⟨fun h => by omega, fun i h => by omega, Nat.le_refl _, by unfold maxLen; omega⟩
  · refine ⟨fun hn => ?_, fun i hi => h5 _ ?_, h1, h2⟩
    · obtain ⟨b, off, rfl, hc⟩ := ints_at h4 (by omega)
      exact ⟨b, off, rfl, lt_of_cell (hc 0 (by omega)), fun i hi => hc i (by omega)⟩
    · rw [List.getD_eq_getElem?_getD, List.getElem?_eq_getElem (by omega)]
      simp
end Go.Proofs.YtpligjkbnlfhgaaGreatDoor
