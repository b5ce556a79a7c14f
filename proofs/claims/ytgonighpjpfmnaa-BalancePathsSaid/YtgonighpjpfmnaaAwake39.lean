/- The sanity check of flagstonelaw39 returns true. -/
import Derived.Test.YtgonighpjpfmnaaScoreOf4
namespace Go.Proofs.Ytgonighpjpfmnaa
open Go.RowKit

def smpA (arm : Int) : Smp := ⟨⟨#[]⟩, ⟨#[]⟩, 0, 0, arm, 0, 4, 0, 0, false⟩

theorem rows_of_block {w : World} {g e size : Nat} {cs : Array Value} {n : Nat} {f : Nat → List Value} (hg : w.heap[g]? = some (.cells cs e (0, 0))) (h : ∀ i, i < n → ∀ j u, (f i)[j]? = some u → cs[i * size + j]? = some u) : RowsAt w w.heap.size size (some ⟨g, 0, none⟩) n f := fun _ =>
  ⟨g, 0, rfl, lt_of_blk hg, fun i hi j u hu => by rw [cell_of_block hg, Nat.zero_add]; exact h i hi j u hu⟩

theorem smpA_rows (w : World) (g : Nat) (arm : Int) (hg : w.heap[g]? = some (.cells (smpA arm).cells.toArray 34 (0, 0))) : RowsAt w w.heap.size 10 (some ⟨g, 0, none⟩) 1 (fun i => ((fun _ => smpA arm) i : Smp).cells) :=
  rows_of_block hg fun i hi j u hu => by
    obtain rfl : i = 0 := by omega
    rw [Nat.zero_mul, Nat.zero_add]; simpa using hu

theorem smpA_in (arm : Int) : InSmp (fun _ => smpA arm) 1 := fun _ _ => by simp [smpA]

theorem OfPost.some {r : Option (Int × Int × Int)} {w w' : World} {e : Ending} {x y z : Int} (h : OfPost r w e w') (hr : r = some (x, y, z)) : e = .returned (.tuple #[.agg #[.int .i64 x, .int .i64 y, .int .i64 z], .bool true]) ∧ Below w.heap.size w w' := by
  subst hr; exact h
theorem OfPost.none {r : Option (Int × Int × Int)} {w w' : World} {e : Ending} (h : OfPost r w e w') (hr : r = none) : e = .returned (.tuple #[.agg #[.int .i64 0, .int .i64 0, .int .i64 0], .bool false]) ∧ Below w.heap.size w w' := by
  subst hr; exact h

set_option maxHeartbeats 1000000 in
theorem awake30 (w : World) : Calls Try.prog 30 #[] w fun e w' => e = .returned (.bool true) ∧ Below w.heap.size w w' := by
  go_enter Try.func30, Try.ntmps30
  go_wp2_with fail
  have hb0 : Below w.heap.size w (w.alloc (.cells (smpA 2).cells.toArray 34)) := (Below.refl _ _).alloc (Nat.le_refl _) _
  have hg := heap_alloc_new w (.cells (smpA 2).cells.toArray 34)
  refine (of38 _ 1 1 (fun _ => smpA 2) 0 0 1 1 10 false _ (by omega) (by omega) (smpA_rows _ _ 2 hg) (smpA_in 2)).mono fun e w1 h => ?_
  obtain ⟨rfl, hb1⟩ := h.some (x := 8) (y := 10) (z := 40) (by decide)
  rw [← hb1.block _ (lt_of_blk hg)] at hg
  have hb2 := below_trans hb0 hb1
  clear hb0 hb1 h
  have hz := lt_of_blk hg
  have z4 := cell_of_block hg 4
  have z3 := free_of_block hg 4
  simp [smpA, Smp.cells] at z4
  have hg2 := block_set hg 4 (.int .i64 1)
  have hg2' : ((w1.setCell ⟨w.heap.size, 4, none⟩ (.int .i64 1)).alloc (.cells #[.int .i64 8, .int .i64 10, .int .i64 40] 37)).heap[w.heap.size]? = some (.cells (smpA 1).cells.toArray 34 (0, 0)) := by
    rw [Below.heap_alloc _ _ _ (by simpa using hz)]; exact hg2
  have hg3 : ((w1.setCell ⟨w.heap.size, 4, none⟩ (.int .i64 1)).alloc (.cells #[.int .i64 8, .int .i64 10, .int .i64 40] 37)).heap[w1.heap.size]? = some (.cells #[.int .i64 8, .int .i64 10, .int .i64 40] 37 (0, 0)) := by
    have := heap_alloc_new (w1.setCell ⟨w.heap.size, 4, none⟩ (.int .i64 1)) (.cells #[.int .i64 8, .int .i64 10, .int .i64 40] 37); simpa using this
  have hA := (hb2.setCell (p := ⟨w.heap.size, 4, none⟩) (Nat.le_refl _) (.int .i64 1)).alloc (by simp; omega) (.cells #[.int .i64 8, .int .i64 10, .int .i64 40] 37)
  clear hg hg2
  go_wp2_with fail
  generalize ((w1.setCell ⟨w.heap.size, 4, none⟩ (.int .i64 1)).alloc (.cells #[.int .i64 8, .int .i64 10, .int .i64 40] 37)) = w2 at *
  refine (of38 _ 1 1 (fun _ => smpA 1) 0 0 1 1 10 false _ (by omega) (by omega) (smpA_rows _ _ 1 hg2') (smpA_in 1)).mono fun e w3 h => ?_
  obtain ⟨rfl, hb3⟩ := h.some (x := -8) (y := 10) (z := 40) (by decide)
  have hB := hA.trans (hb3.mono (Nat.le_of_lt (Nat.lt_trans hz (lt_of_blk hg3))))
  rw [← hb3.block _ (lt_of_blk hg3)] at hg3
  have hz3 := lt_of_blk hg3
  have y0 := cell_of_block hg3 0
  have y1 := cell_of_block hg3 1
  have y2 := cell_of_block hg3 2
  simp only [List.getElem?_toArray, List.getElem?_cons_zero, List.getElem?_cons_succ] at y0 y1 y2
  clear hA hb3 h hg2' hg3 hb2
  go_wp2_with fail
  go_ret
  exact ⟨rfl, by repeat (first | exact hB | refine Below.alloc ?_ (by omega) _)⟩
end Go.Proofs.Ytgonighpjpfmnaa
