/- Slice literals, an index into them and a load, in a drawn region. No statement is proved here. -/
import Derived.Test.YtpligjkbnlfhgaaLate
import Derived.Test.YtpligjkbnlfhgaaCrnB
namespace Go.Proofs.Ytpligjkbnlfhgaa
open Go.RowKit

def freshS (B : Nat) (cs : Array Value) (e n : Nat) : Pred := fun v w => ∃ g, v = .slice (some ⟨g, 0, none⟩) n n ∧ B ≤ g ∧ w.heap[g]? = some (.cells cs e (0, 0))
theorem freshS_mono (B : Nat) (cs : Array Value) (e n : Nat) : ∀ v w w', LeW w w' → freshS B cs e n v w → freshS B cs e n v w' := fun v w w' hR ⟨g, h1, h2, h3⟩ =>
  ⟨g, h1, h2, by rw [hR.block g (Array.getElem?_eq_some_iff.1 h3).1]; exact h3⟩
def ptrS (cs : Array Value) (e i : Nat) : Pred := fun v w => ∃ g, v = .pointer (some ⟨g, i, none⟩) ∧ w.heap[g]? = some (.cells cs e (0, 0))
theorem ptrS_mono (cs : Array Value) (e i : Nat) : ∀ v w w', LeW w w' → ptrS cs e i v w → ptrS cs e i v w' := fun v w w' hR ⟨g, h1, h3⟩ =>
  ⟨g, h1, by rw [hR.block g (Array.getElem?_eq_some_iff.1 h3).1]; exact h3⟩
section
variable {P : Program} {ops : Array Oper} {R : World → World → Prop} {w0 : World}
theorem withGens_one {d : Tmp} {ψ : Pred} {G : Act → World → Prop} {w : World} : ∀ {pre0 : List (Tmp × Pred)} {a : Act}, (∀ p ∈ pre0, p.1 ≠ d) → (∀ v, ψ v w → G (a.put (some d) v) w) → withGens [d] G (pre0 ++ [(d, ψ)]) a w
  | [], a, _, h => by
    rw [List.nil_append, withGens, if_pos (by simp)]
    exact h
  | (e, χ) :: pre0, a, hp, h => by
    rw [List.cons_append, withGens, if_neg (by have := hp (e, χ) (by simp); simpa using this)]
    exact withGens_one (fun p hm => hp p (by simp [hm])) h
theorem late_buildR {T : TypeId} {n : Nat} {parts : Array (Nat × Operand)} {cs : Array Value} {e : TypeId} {dst : Option Tmp} {type : TypeId} {pos : String} {after : Array Edge} {pre : List (Tmp × Pred)} {a a' : Act} {next : List (Tmp × Pred) → Act → Prop} {B : Nat}
    (hrun : ∀ w : World, (execOp a.eval ⟨dst, .buildSlice T n parts, type, pos, after, none⟩).run P w = .ok (.value (.slice (some ⟨w.heap.size, 0, none⟩) n n)) (w.alloc (.cells cs e)))
    (hR : ∀ x : Beh R w0, R x.w (x.w.alloc (.cells cs e))) (hm : ∀ v w w', R w w' → freshS B cs e n v w → freshS B cs e n v w')
    (hB : ∀ x : Beh R w0, B ≤ x.w.heap.size) (hp : a.put dst undef = a') (hn : next (pre ++ [(dst.getD 0, freshS B cs e n)]) a') : LateAt P ops R w0 ⟨dst, .buildSlice T n parts, type, pos, after, none⟩ [] (some (freshS B cs e n)) pre a next := by
  refine ⟨hm, fun x => withGens_none ?_, by rw [hp]; exact hn⟩
  unfold tOp
  rw [if_pos (show Region.wanted _ _ = true from rfl), hrun]
  exact ⟨hR x, _, rfl, hB x, heap_alloc_new x.w _⟩
/-- An index into what came up last. -/
theorem late_index {T : TypeId} {d : Tmp} {o2 : Operand} {cs : Array Value} {e n i B : Nat} {dst : Option Tmp} {type : TypeId} {pos : String} {after : Array Edge} {a a' : Act} {next : List (Tmp × Pred) → Act → Prop} (pre0 : List (Tmp × Pred))
    (hpre : ∀ p ∈ pre0, p.1 ≠ d) (hR : ∀ w, R w w) (hm : ∀ v w w', R w w' → ptrS cs e i v w → ptrS cs e i v w')
    (hrun : ∀ v g w, v = .slice (some ⟨g, 0, none⟩) n n → (execOp (a.put (some d) v).eval ⟨dst, .indexAddr T (.tmp d) o2, type, pos, after, none⟩).run P w = .ok (.value (.pointer (some ⟨g, i, none⟩))) w)
    (hp : a.put dst undef = a') (hn : next (pre0 ++ [(d, freshS B cs e n)] ++ [(dst.getD 0, ptrS cs e i)]) a') : LateAt P ops R w0 ⟨dst, .indexAddr T (.tmp d) o2, type, pos, after, none⟩ [d] (some (ptrS cs e i)) (pre0 ++ [(d, freshS B cs e n)]) a next := by
  refine ⟨hm, fun x => withGens_one hpre fun v hv => ?_, by rw [hp]; exact hn⟩
  obtain ⟨g, rfl, _, hg⟩ := hv
  unfold tOp
  rw [if_pos (show Region.wanted _ _ = true from rfl), hrun _ g x.w rfl]
  exact ⟨hR _, g, rfl, hg⟩
/-- A load by it. -/
theorem late_load {T : TypeId} {d : Tmp} {cs : Array Value} {e i : Nat} {c : Value} {dst : Option Tmp} {type : TypeId} {pos : String} {after : Array Edge} {a a' : Act} {next : List (Tmp × Pred) → Act → Prop} (pre0 : List (Tmp × Pred))
    (hpre : ∀ p ∈ pre0, p.1 ≠ d) (hR : ∀ w, R w w) (hc : cs[i]? = some c)
    (hrun : ∀ v g w, v = .pointer (some ⟨g, i, none⟩) → w.cell? ⟨g, i, none⟩ = some c → (execOp (a.put (some d) v).eval ⟨dst, .load T (.tmp d), type, pos, after, none⟩).run P w = .ok (.value c) w)
    (hp : a.put dst c = a') (hn : next (pre0 ++ [(d, ptrS cs e i)]) a') : LateAt P ops R w0 ⟨dst, .load T (.tmp d), type, pos, after, none⟩ [d] none (pre0 ++ [(d, ptrS cs e i)]) a next := by
  refine ⟨c, fun x => withGens_one hpre fun v hv => ?_, by rw [hp]; exact hn⟩
  obtain ⟨g, rfl, hg⟩ := hv
  unfold tOp
  rw [if_pos (show Region.wanted _ _ = true from rfl), hrun _ g x.w rfl (by rw [cell_of_block hg i]; exact hc)]
  exact ⟨hR _, rfl⟩
end
end Go.Proofs.Ytpligjkbnlfhgaa
