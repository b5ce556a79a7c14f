/- A slice literal in the midst of a region that draws its order. -/
import Derived.Test.YtgonighpjpfmnaaLate2
namespace Go.Proofs.Ytgonighpjpfmnaa
open Go.RowKit

def freshS (B : Nat) (cs : Array Value) (e n : Nat) : Pred := fun v w => ∃ g, v = .slice (some ⟨g, 0, none⟩) n n ∧ B ≤ g ∧ w.heap[g]? = some (.cells cs e (0, 0))
theorem freshS_mono (B : Nat) (cs : Array Value) (e n : Nat) : ∀ v w w', LeW w w' → freshS B cs e n v w → freshS B cs e n v w' := fun v w w' hR ⟨g, h1, h2, h3⟩ =>
  ⟨g, h1, h2, by rw [hR.block g (Array.getElem?_eq_some_iff.1 h3).1]; exact h3⟩

section
variable {P : Program} {ops : Array Oper} {w0 : World}
theorem late_build {T : TypeId} {n : Nat} {parts : Array (Nat × Operand)} {cs : Array Value} {e : TypeId} {dst : Option Tmp} {type : TypeId} {pos : String} {after : Array Edge} {pre : List (Tmp × Pred)} {a a' : Act} {next : List (Tmp × Pred) → Act → Prop} {B : Nat}
    (hrun : ∀ w : World, (execOp a.eval ⟨dst, .buildSlice T n parts, type, pos, after, none⟩).run P w = .ok (.value (.slice (some ⟨w.heap.size, 0, none⟩) n n)) (w.alloc (.cells cs e)))
    (hB : ∀ x : Beh LeW w0, B ≤ x.w.heap.size) (hp : a.put dst undef = a') (hn : next (pre ++ [(dst.getD 0, freshS B cs e n)]) a') : LateAt P ops LeW w0 ⟨dst, .buildSlice T n parts, type, pos, after, none⟩ [] (some (freshS B cs e n)) pre a next := by
  refine ⟨freshS_mono _ _ _ _, fun x => withGens_none ?_, by rw [hp]; exact hn⟩
  unfold tOp
  rw [if_pos (show Region.wanted _ _ = true from rfl), hrun]
  exact ⟨(Below.refl _ _).alloc (Nat.le_refl _) _, _, rfl, hB x, heap_alloc_new x.w _⟩

/-- Scores of small numbers, in blocks from B on. -/
def scoresP (B : Nat) : Pred := fun v w => ∃ l : List Scr, l.length ≤ 30 ∧ (∀ s ∈ l, Scr.small s) ∧ OwnScr w B v l
theorem scoresP_mono (B : Nat) : ∀ v w w', LeW w w' → scoresP B v w → scoresP B v w' := fun _ _ _ hR ⟨l, h1, h2, h3⟩ => ⟨l, h1, h2, Own.below h3 hR⟩
end
end Go.Proofs.Ytgonighpjpfmnaa
