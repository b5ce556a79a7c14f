/- What a law is told of a slice of integers. -/
import Derived.Test.YtgonighpjpfmnaaAwake39
import Derived.OpenShut
namespace Go.Proofs.Ytgonighpjpfmnaa
open Go.RowKit

/-- A slice of integers that came in (the words of the shell that the kit's program writes). -/
def IsRow (k : IntKind) (w : World) (a : Option Addr) (len cap : Nat) (zs : List Int) : Prop :=
  (a = none ∧ len = 0 ∧ cap = 0 ∧ zs = []) ∨
  ∃ x, a = some x ∧ len ≤ cap ∧ cap ≤ maxLen ∧ zs.length = cap ∧ (∀ i, i < zs.length → w.cell? (x.add i) = some (.int k (zs.getD i 0))) ∧ ∀ n ∈ zs, (Lit.int k n).wf = true

theorem lt_of_cell {w : World} {b off : Nat} {v : Value} (h : w.cell? ⟨b, off, none⟩ = some v) : b < w.heap.size := by
  refine Decidable.byContradiction fun hb => ?_
  have : w.heap[b]? = none := Array.getElem?_eq_none (by omega)
  simp [World.cell?, this] at h

theorem IsRow.rows {k : IntKind} {w : World} {a : Option Addr} {len cap : Nat} {zs : List Int} (h : IsRow k w a len cap zs) : RowsAt w w.heap.size 1 a len (fun i => [.int k (zs.getD i 0)]) ∧ (∀ i, i < len → (Lit.int k (zs.getD i 0)).wf = true) ∧ len ≤ cap ∧ cap ≤ maxLen := by
  rcases h with ⟨rfl, rfl, rfl, rfl⟩ | ⟨x, rfl, h1, h2, h3, h4, h5⟩
  · exact ⟨fun h => by omega, fun i h => by omega, Nat.le_refl _, by unfold maxLen; omega⟩
  · refine ⟨fun hn => ?_, fun i hi => h5 _ ?_, h1, h2⟩
    · obtain ⟨b, off, rfl, hc⟩ := ints_at h4 (by omega)
      refine ⟨b, off, rfl, lt_of_cell (hc 0 (by omega)), fun i hi j u hu => ?_⟩
      have hj : j = 0 := by have := (List.getElem?_eq_some_iff.1 hu).1; simp at this; omega
      subst hj
      simp only [List.getElem?_cons_zero, Option.some.injEq] at hu
      rw [← hu, ← hc i (by omega)]
      simp [Nat.mul_one]
    · rw [List.getD_eq_getElem?_getD, List.getElem?_eq_getElem (by omega)]
      simp
theorem IsRow.bytes {w : World} {a : Option Addr} {len cap : Nat} {zs : List Int} (h : IsRow .u8 w a len cap zs) : BytesAt w w.heap.size a len := by
  obtain ⟨h1, h2, _⟩ := h.rows
  exact ⟨_, fun i hi => bounds_u8 (h2 i hi), h1⟩
end Go.Proofs.Ytgonighpjpfmnaa
