/- Contracts of the functions of flagstonedata that make data from a list of numbers. -/
import Derived.Test.YtgonighpjpfmnaaBase
namespace Go.Proofs.Ytgonighpjpfmnaa
open Go.RowKit

/-- Bytes behind a slice's address. -/
def BytesAt (w : World) (B : Nat) (A : Option Addr) (n : Nat) : Prop := ∃ z : Nat → Int, (∀ i, i < n → 0 ≤ z i ∧ z i ≤ 255) ∧ RowsAt w B 1 A n (fun i => [.int .u8 (z i)])

/-- Block g is a Source: the slice and the place. -/
def SrcAt (w : World) (g : Nat) (A : Option Addr) (n c : Nat) : Prop := ∃ k : Nat, k ≤ n ∧ w.heap[g]? = some (.cells #[.slice A n c, .int .i64 k] 110 (0, 0))

theorem cell_of_block {w : World} {g : Nat} {cs : Array Value} {t : TypeId} (h : w.heap[g]? = some (.cells cs t (0, 0))) (i : Nat) : w.cell? ⟨g, i, none⟩ = cs[i]? := cell_of_row w g i cs t (0, 0) h
theorem free_of_block {w : World} {g : Nat} {cs : Array Value} {t : TypeId} (h : w.heap[g]? = some (.cells cs t (0, 0))) (i : Nat) : w.frozen? ⟨g, i, none⟩ = false := by simp [World.frozen?, h]

theorem block_set {w : World} {g : Nat} {cs : Array Value} {t : TypeId} (h : w.heap[g]? = some (.cells cs t (0, 0))) (i : Nat) (u : Value) : (w.setCell ⟨g, i, none⟩ u).heap[g]? = some (.cells (cs.setIfInBounds i u) t (0, 0)) := by
  simp [World.setCell, Array.getElem?_modify, h]
theorem only_drewN {a w : World} {row : Option Nat} (h : a.grownBy w row) (n : Nat) : a.grownBy (w.drewN n) row := ⟨h.os, h.tape, h.output, h.size, h.block⟩
theorem only_drew {a w : World} {row : Option Nat} (h : a.grownBy w row) : a.grownBy w.drew row := ⟨h.os, h.tape, h.output, h.size, h.block⟩
theorem only_refl (w : World) (row : Option Nat) : w.grownBy w row := ⟨rfl, rfl, rfl, Nat.le_refl _, fun _ _ _ => rfl⟩
theorem only_setCell {a w : World} {g : Nat} (h : a.grownBy w (some g)) {p : Addr} (hp : p.block = g ∨ a.heap.size ≤ p.block) (u : Value) : a.grownBy (w.setCell p u) (some g) :=
  ⟨h.os, h.tape, h.output, by simpa [World.setCell] using h.size, fun i hi hne => (Below.heap_setCell w p u i (by
    rintro rfl
    rcases hp with hp | hp
    · exact hne (by rw [hp])
    · omega)).trans (h.block i hi hne)⟩

theorem more77 (g : Nat) (A : Option Addr) (n c : Nat) (w : World) (_hn : n ≤ 4611686018427387904) (hg : SrcAt w g A n c) :
    Calls Try.prog 77 #[.pointer (some ⟨g, 0, none⟩)] w fun e w' => (∃ b, e = .returned (.bool b)) ∧ ∃ m, w' = w.drewN m := by
  obtain ⟨k, hk, hg⟩ := hg
  have c0 := cell_of_block hg 0
  have c1 := cell_of_block hg 1
  simp only [List.getElem?_toArray, List.getElem?_cons_zero, List.getElem?_cons_succ] at c0 c1
  clear hg
  go_enter Try.func77, Try.ntmps77
  go_wp2_with fail
  go_quiet (fail)
  go_wp2_with fail
  go_ret
  exact ⟨⟨_, rfl⟩, ⟨_, rfl⟩⟩

def NextPost (w : World) (g : Nat) (A : Option Addr) (n c : Nat) (m : Int) (e : Ending) (w' : World) : Prop := (∃ v, e = .returned (.int .i64 v) ∧ 0 ≤ v ∧ v < m) ∧ SrcAt w' g A n c ∧ w.grownBy w' (some g)

theorem next79 (g : Nat) (A : Option Addr) (n c : Nat) (m : Int) (w : World) (hm : 1 ≤ m) (hm2 : m ≤ 256) (hn : n ≤ 4611686018427387904) (hg : SrcAt w g A n c) (hL : BytesAt w g A n) :
    Calls Try.prog 79 #[.pointer (some ⟨g, 0, none⟩), .int .i64 m] w (NextPost w g A n c m) := by
  obtain ⟨k, hk, hg⟩ := hg
  have c0 := cell_of_block hg 0
  have c1 := cell_of_block hg 1
  simp only [List.getElem?_toArray, List.getElem?_cons_zero, List.getElem?_cons_succ] at c0 c1
  have f1 := free_of_block hg 1
  have Hg := Lib.hid hg
  clear hg
  by_cases hkn : k < n
  · obtain ⟨z, hz, hR⟩ := hL
    obtain ⟨b, off, rfl, hb, hc⟩ := hR (by omega)
    have hzk := hz k hkn
    have hck := hc k hkn 0 _ rfl
    simp only [Nat.mul_one, Nat.add_zero] at hck
    clear hz hc hR
    go_enter Try.func79, Try.ntmps79
    go_wp2_with fail
    go_quiet (fail)
    go_wp2_with fail
    go_quiet (fail)
    go_wp2_with fail
    go_ret
    refine ⟨⟨z k % m, rfl, Int.emod_nonneg _ (by omega), Int.emod_lt_of_pos _ (by omega)⟩, ⟨k + 1, by omega, ?_⟩, only_drewN (only_setCell (only_drewN (only_refl _ _) _) (.inl rfl) _) _⟩
    exact block_set Hg.out 1 _
  · go_enter Try.func79, Try.ntmps79
    go_wp2_with fail
    go_quiet (fail)
    go_wp2_with fail
    go_ret
    exact ⟨⟨0, rfl, by omega, by omega⟩, ⟨k, hk, Hg.out⟩, only_drewN (only_refl _ _) _⟩

theorem ids97 (w : World) : Calls Try.prog 97 #[] w fun e w' => (∃ a, e = .returned a) ∧ Below w.heap.size w w' := by
  go_enter Try.func97, Try.ntmps97
  go_wp2
  go_ret
  exact ⟨⟨_, rfl⟩, (Below.refl _ _).alloc (Nat.le_refl _) _⟩

set_option maxHeartbeats 1000000 in
theorem id78 (n : Nat) (w : World) (hn : n ≤ 1000) : Calls Try.prog 78 #[.int .i64 n] w fun e w' => (∃ s, e = .returned (.string s)) ∧ Below w.heap.size w w' := by
  have h6 : (n : Int) % 6 = 0 ∨ (n : Int) % 6 = 1 ∨ (n : Int) % 6 = 2 ∨ (n : Int) % 6 = 3 ∨ (n : Int) % 6 = 4 ∨ (n : Int) % 6 = 5 := by omega
  rcases h6 with h | h | h | h | h | h
  all_goals
    go_enter Try.func78, Try.ntmps78
    go_wp2
    go_ret
    exact ⟨⟨_, rfl⟩, ((Below.refl _ _).alloc (Nat.le_refl _) _).alloc (by simp) _⟩
end Go.Proofs.Ytgonighpjpfmnaa
