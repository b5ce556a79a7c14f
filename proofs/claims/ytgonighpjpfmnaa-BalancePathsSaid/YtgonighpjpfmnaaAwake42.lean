/- The sanity check of flagstonelaw42 returns true. -/
import Derived.Test.YtgonighpjpfmnaaBal3
namespace Go.Proofs.Ytgonighpjpfmnaa
open Go.RowKit

theorem rows_of_ints {w : World} {g : Nat} {cs : Array Value} {fr : Nat × Nat} {n : Nat} {f : Nat → Int} (hg : w.heap[g]? = some (.cells cs 3 fr)) (h : ∀ i, i < n → cs[i]? = some (.int .i64 (f i))) : RowsAt w w.heap.size 1 (some ⟨g, 0, none⟩) n (fun i => [.int .i64 (f i)]) := fun _ =>
  ⟨g, 0, rfl, (Array.getElem?_eq_some_iff.1 hg).1, fun i hi j u hu => by
    have hj : j = 0 := by have := (List.getElem?_eq_some_iff.1 hu).1; simp at this; omega
    subst hj
    simp only [List.getElem?_cons_zero, Option.some.injEq] at hu
    subst hu
    rw [cell_of_row w g _ cs 3 fr hg, Nat.zero_add, Nat.mul_one, Nat.add_zero]
    exact h i hi⟩

theorem pair_at (a b : Int) : ∀ i, i < 2 → (#[.int .i64 a, .int .i64 b] : Array Value)[i]? = some (.int .i64 (([a, b] : List Int).getD i 0))
  | 0, _ => rfl
  | 1, _ => rfl
  | i + 2, h => absurd h (by omega)

set_option maxRecDepth 100000 in
theorem awake51 (w : World) : Calls Try.prog 51 #[] w fun e w' => e = .returned (.bool true) ∧ Below w.heap.size w w' := by
  have e1 : balW 4294967296 2 2 (fun i => ([0, 0] : List Int).getD i 0) (fun i => ([1, 1] : List Int).getD i 0) 1 = 4294967296 := by decide
  have e2 : balC 4294967296 2 2 (fun i => ([0, 0] : List Int).getD i 0) (fun i => ([1, 1] : List Int).getD i 0) 1 = [1, 0] := by decide
  have e3 : balW 4294967296 2 2 (fun i => ([1, 0] : List Int).getD i 0) (fun i => ([1, 1] : List Int).getD i 0) 1 = 5726623061 := by decide
  have e4 : balC 4294967296 2 2 (fun i => ([1, 0] : List Int).getD i 0) (fun i => ([1, 1] : List Int).getD i 0) 1 = [2, 0] := by decide
  have hb0 : Below w.heap.size w ((w.alloc (.cells #[.int .i64 0, .int .i64 0] 3)).alloc (.cells #[.int .i64 1, .int .i64 1] 3)) := ((Below.refl _ _).alloc (Nat.le_refl _) _).alloc (by simp) _
  have g0 : ((w.alloc (.cells #[.int .i64 0, .int .i64 0] 3)).alloc (.cells #[.int .i64 1, .int .i64 1] 3)).heap[w.heap.size]? = some (.cells #[.int .i64 0, .int .i64 0] 3 (0, 0)) := by
    rw [Below.heap_alloc _ _ _ (by simp)]; exact heap_alloc_new w _
  have g1 : ((w.alloc (.cells #[.int .i64 0, .int .i64 0] 3)).alloc (.cells #[.int .i64 1, .int .i64 1] 3)).heap[w.heap.size + 1]? = some (.cells #[.int .i64 1, .int .i64 1] 3 (0, 0)) := by
    have := heap_alloc_new (w.alloc (.cells #[.int .i64 0, .int .i64 0] 3)) (.cells #[.int .i64 1, .int .i64 1] 3)
    simpa using this
  go_enter Try.func51, Try.ntmps51
  go_wp2_with fail
  refine (step52 4294967296 _ _ 2 2 2 2 (fun i => ([0, 0] : List Int).getD i 0) (fun i => ([1, 1] : List Int).getD i 0) 1 _ (by omega) (by omega) (rows_of_ints g0 (pair_at 0 0)) (rows_of_ints g1 (pair_at 1 1))).mono ?_
  rintro e w1 ⟨o, rfl, hown, hb1⟩
  rw [e1, e2] at *
  obtain ⟨A, cp, rfl, hcp⟩ := Own.shape hown
  have hr := Own.rows (c := intC) intC_len 0 hown
  replace hb1 := hb0.trans (hb1.mono hb0.size)
  simp only [List.length_cons, List.length_nil, Nat.zero_add, Nat.reduceAdd] at hr
  clear hown hb0 g0 g1
  go_wp2_with fail
  have hb2 := hb1.alloc hb1.size (.cells #[.int .i64 1, .int .i64 1] 3)
  have g1 := heap_alloc_new w1 (.cells #[.int .i64 1, .int .i64 1] 3)
  have hq : Below w1.heap.size w1 (w1.alloc (.cells #[.int .i64 1, .int .i64 1] 3)) := (Below.refl _ _).alloc (Nat.le_refl _) _
  have hr2 := (hr.below hq (Nat.le_refl _)).more hq.size
  refine (step52 4294967296 A _ 2 2 cp 2 (fun i => ([1, 0] : List Int).getD i 0) (fun i => ([1, 1] : List Int).getD i 0) 1 _ (by omega) (by omega) hr2 (rows_of_ints g1 (pair_at 1 1))).mono ?_
  rintro e w2 ⟨o, rfl, hown, hb3⟩
  rw [e3, e4] at *
  obtain ⟨A2, cp2, rfl, hcp2⟩ := Own.shape hown
  have hr3 := Own.rows (c := intC) intC_len 0 hown
  simp only [List.length_cons, List.length_nil, Nat.zero_add, Nat.reduceAdd] at hr3
  replace hb3 := below_trans' hb2 hb2.size hb3
  obtain ⟨b, off, rfl, _, hc⟩ := hr3 (by omega)
  have v0 := hc 0 (by omega) 0 _ rfl
  simp only [Nat.add_zero, Nat.zero_mul] at v0
  have v0 : w2.cell? ⟨b, off, none⟩ = some (.int .i64 2) := v0
  clear hc hown hr hr2 g1 hq
  go_wp2_with fail
  go_ret
  exact ⟨rfl, hb3⟩
end Go.Proofs.Ytgonighpjpfmnaa
