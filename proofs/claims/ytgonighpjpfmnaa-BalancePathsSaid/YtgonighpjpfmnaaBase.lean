/- Lemmas on worlds and lists that the walks of this seat use; no statement is proved here. -/
import Derived.Test.YtgonighpjpfmnaaRows
import Derived.Test.YtgonighpjpfmnaaShelf
import Derived.WalkKit
import Derived.WalkSpells
import Derived.WalkLawsBesides
import Derived.Deep.QuietTactic
import Derived.BigQuiet
import Derived.Deep.DeepMust
import Derived.Lib.Hide
import Derived.Deep.LoopGhost
namespace Go.Proofs.Ytgonighpjpfmnaa
open Go.RowKit

theorem ret_int {k : IntKind} {a b : Int} (h : a = b) : Ending.returned (.int k a) = .returned (.int k b) := by rw [h]
theorem ret_bool {a b : Bool} (h : a = b) : Ending.returned (.bool a) = .returned (.bool b) := by rw [h]

/-- Old cells and marks behind a callee that only makes memory. -/
theorem bcell {W w1 : World} (hb : Below W.heap.size W w1) : (∀ b o, b < W.heap.size → w1.cell? ⟨b, o, none⟩ = W.cell? ⟨b, o, none⟩) ∧ (∀ b o, b < W.heap.size → w1.frozen? ⟨b, o, none⟩ = W.frozen? ⟨b, o, none⟩) :=
  ⟨fun b o h => hb.cell (p := ⟨b, o, none⟩) h, fun b o h => hb.frozen (p := ⟨b, o, none⟩) h⟩

/-- Two steps that only make memory. -/
theorem below_trans {a b c : World} (h : Below a.heap.size a b) (k : Below b.heap.size b c) : Below a.heap.size a c := h.trans (k.mono h.size)
theorem below_trans' {B : Nat} {a b c : World} (h : Below B a b) (hB : B ≤ b.heap.size) (k : Below b.heap.size b c) : Below B a c := h.trans (k.mono hB)
theorem below_drew' {B : Nat} {a b : World} (h : Below B a b) : Below B a b.drew := h.drew

/-- Rows of cells behind a slice's address, in blocks below B: row i (of size cells) holds f i. -/
def RowsAt (w : World) (B size : Nat) (A : Option Addr) (n : Nat) (f : Nat → List Value) : Prop :=
  0 < n → ∃ b off, A = some ⟨b, off, none⟩ ∧ b < B ∧ ∀ i, i < n → ∀ j u, (f i)[j]? = some u → w.cell? ⟨b, off + i * size + j, none⟩ = some u
theorem RowsAt.kept {w w' : World} {B size : Nat} {A : Option Addr} {n : Nat} {f : Nat → List Value} (h : RowsAt w B size A n f) (hk : ∀ k, k < B → w'.heap[k]? = w.heap[k]?) : RowsAt w' B size A n f := fun hn => by
  obtain ⟨b, off, hA, hb, hc⟩ := h hn
  refine ⟨b, off, hA, hb, fun i hi j u hu => ?_⟩
  rw [← hc i hi j u hu]
  simp only [World.cell?, hk b hb]
theorem RowsAt.below {w w' : World} {B B' size : Nat} {A : Option Addr} {n : Nat} {f : Nat → List Value} (h : RowsAt w B size A n f) (hb : Below B' w w') (hB : B ≤ B') : RowsAt w' B size A n f :=
  h.kept fun k hk => hb.block k (by omega)
theorem RowsAt.more {w : World} {B B' size : Nat} {A : Option Addr} {n : Nat} {f : Nat → List Value} (h : RowsAt w B size A n f) (hB : B ≤ B') : RowsAt w B' size A n f := fun hn => by
  obtain ⟨b, off, hA, hb, hc⟩ := h hn
  exact ⟨b, off, hA, by omega, hc⟩

/-- A callee that leaves the world, met in a quiet walk. -/
theorem quiet_left {P : Program} {f : FuncId} {args : Array Value} {w : World} {n : Nat} {v : Value} (h : Calls P f args (w.drewN n) fun e w' => e = .returned v ∧ w.drewN n = w') : Calls P f args (w.drewN n) fun e w'' => e = .returned v ∧ ∃ m, w'' = w.drewN m :=
  h.mono fun _ _ ⟨he, hm⟩ => ⟨he, n, hm.symm⟩

end Go.Proofs.Ytgonighpjpfmnaa
