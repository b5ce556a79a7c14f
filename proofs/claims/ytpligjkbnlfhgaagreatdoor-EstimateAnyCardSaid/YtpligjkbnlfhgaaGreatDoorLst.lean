/- Lists in rows of memory, turned from another seat. No statement is proved here. -/
import Derived.Test.YtpligjkbnlfhgaaGreatDoorDigM
import Derived.Deep.AppendLies
import Derived.Deep.RegionHeld3
namespace Go.Proofs.YtpligjkbnlfhgaaGreatDoor
open Go.RowKit

theorem flat_len {α : Type} (c : α → List Value) (size : Nat) (hc : ∀ a, (c a).length = size) : ∀ l : List α, (l.flatMap c).length = l.length * size
  | [] => by simp
  | a :: l => by rw [List.flatMap_cons, List.length_append, hc, flat_len c size hc l, List.length_cons, Nat.succ_mul]; omega

theorem flat_get {α : Type} (c : α → List Value) (size : Nat) (hc : ∀ a, (c a).length = size) : ∀ (l : List α) (i j : Nat) (a : α), l[i]? = some a → j < size → (l.flatMap c)[i * size + j]? = (c a)[j]?
  | [], i, j, a, h, _ => by simp at h
  | b :: l, 0, j, a, h, hj => by
    simp only [List.getElem?_cons_zero, Option.some.injEq] at h
    subst h
    rw [List.flatMap_cons, Nat.zero_mul, Nat.zero_add, List.getElem?_append_left (by rw [hc]; exact hj)]
  | b :: l, i + 1, j, a, h, hj => by
    rw [List.getElem?_cons_succ] at h
    rw [List.flatMap_cons, Nat.succ_mul, List.getElem?_append_right (by rw [hc]; omega), hc]
    rw [show i * size + size + j - size = i * size + j from by omega]
    exact flat_get c size hc l i j a h hj

/-- The value v is a slice of the call's own (block numbers from B on): the elements l. -/
def Own {α : Type} (c : α → List Value) (e size : Nat) (w : World) (B : Nat) (v : Value) (l : List α) : Prop := w.ownsRow B e size v l.length (l.flatMap c)

theorem Own.shape {α : Type} {c : α → List Value} {e size : Nat} {w : World} {B : Nat} {v : Value} {l : List α} (h : Own c e size w B v l) : ∃ A cap, v = .slice A l.length cap ∧ l.length ≤ cap := by
  rcases h.2 with ⟨rfl, h0⟩ | ⟨g, cap, cur, rfl, _, _, hn, _⟩
  · exact ⟨none, 0, by rw [h0], by omega⟩
  · exact ⟨_, cap, rfl, hn⟩

theorem Own.rows {α : Type} {c : α → List Value} {e size : Nat} {w : World} {B n cap : Nat} {A : Option Addr} {l : List α} (hc : ∀ a, (c a).length = size) (d : α) (h : Own c e size w B (.slice A n cap) l) : RowsAt w w.heap.size size A l.length (fun i => c (l.getD i d)) := fun hn => by
  rcases h.2 with ⟨hv, h0⟩ | ⟨g, cap', cur, hv, _, hg, hle, _, hsz, htk⟩
  · omega
  · injection hv with hA
    refine ⟨g, 0, hA, (Array.getElem?_eq_some_iff.1 hg).1, fun i hi j u hu => ?_⟩
    have hj : j < size := by have := (List.getElem?_eq_some_iff.1 hu).1; rw [hc] at this; exact this
    have hx := flat_get c size hc l i j (l.getD i d) (by rw [List.getElem?_eq_getElem hi, List.getD_eq_getElem?_getD, List.getElem?_eq_getElem hi]; rfl) hj
    rw [cell_of_row w g _ cur e (0, 0) hg, Nat.zero_add]
    rw [hu, ← htk, List.getElem?_take] at hx
    split at hx
    · simpa using hx
    · cases hx

theorem Own.nil {α : Type} (c : α → List Value) (e size : Nat) (w : World) (B : Nat) : Own c e size w B (.slice none 0 0) [] := World.ownsRow_nil w B e size

theorem Own.below {α : Type} {c : α → List Value} {e size : Nat} {w w' : World} {B : Nat} {v : Value} {l : List α} (h : Own c e size w B v l) (hb : Below w.heap.size w w') : Own c e size w' B v l :=
  World.ownsRow.kept (row := none) h ⟨hb.os, hb.tape, hb.output, hb.size, fun k hk _ => hb.block k hk⟩ (by cases v.ownBlock <;> simp)

theorem Own.only {α : Type} {c : α → List Value} {e size : Nat} {w w' : World} {B g : Nat} {v : Value} {l : List α} (h : Own c e size w B v l) (hb : w.grownBy w' (some g)) (hg : g < B) : Own c e size w' B v l :=
  World.ownsRow.kept h hb (by
    cases hv : v.ownBlock with
    | none => exact .inl rfl
    | some k => exact .inr (fun he => by injection he with he; have := World.ownsRow.lt h k hv; omega))

theorem Own.mono {α : Type} {c : α → List Value} {e size : Nat} {w : World} {B B' : Nat} {v : Value} {l : List α} (h : Own c e size w B v l) (hB : B' ≤ B) : Own c e size w B' v l := by
  refine ⟨h.1, ?_⟩
  rcases h.2 with hn | ⟨g, cap, cur, hv, hb, r⟩
  · exact .inl hn
  · exact .inr ⟨g, cap, cur, hv, Nat.le_trans hB hb, r⟩

theorem Own.snoc {α : Type} {c : α → List Value} {e size : Nat} {w : World} {B : Nat} {v : Value} {l : List α} {s : α} (h : w.ownsRow B e size v (l.length + 1) (l.flatMap c ++ c s)) : Own c e size w B v (l ++ [s]) := by
  unfold Own
  rw [List.length_append, List.length_singleton, List.flatMap_append, List.flatMap_singleton]
  exact h

def intC (x : Int) : List Value := [.int .i64 x]
theorem intC_len (a : Int) : (intC a).length = 1 := rfl
end Go.Proofs.YtpligjkbnlfhgaaGreatDoor
