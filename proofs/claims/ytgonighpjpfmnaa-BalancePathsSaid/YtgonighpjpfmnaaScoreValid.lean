/- The walk of flagstonelaw39.ScoreValid. -/
import Derived.Test.YtgonighpjpfmnaaLaw39a
import Derived.Test.YtgonighpjpfmnaaArgs
import Derived.Test.YtgonighpjpfmnaaLate
namespace Go.Proofs.Ytgonighpjpfmnaa
open Go.RowKit

def kScore : List CK := [.int .i64, .int .i64, .int .i64]
theorem kScore_of {cs : List Value} (h : CellsOk kScore cs) : ∃ s : Scr, cs = s.cells ∧ (-9223372036854775808 ≤ s.num ∧ s.num ≤ 9223372036854775807) ∧ (-9223372036854775808 ≤ s.unit ∧ s.unit ≤ 9223372036854775807) ∧ (-9223372036854775808 ≤ s.rng ∧ s.rng ≤ 9223372036854775807) := by
  unfold kScore at h
  rcases cs with _ | ⟨a, _ | ⟨b, _ | ⟨c, _ | ⟨d, l⟩⟩⟩⟩ <;> simp only [CellsOk, and_false] at h
  obtain ⟨⟨x, rfl, hx⟩, ⟨y, rfl, hy⟩, ⟨z, rfl, hz⟩, _⟩ := h
  exact ⟨⟨x, y, z⟩, rfl, bounds_i64 hx, bounds_i64 hy, bounds_i64 hz⟩

instance : Inhabited Scr := ⟨⟨0, 0, 0⟩⟩

set_option maxHeartbeats 1000000 in
theorem scoreValid5 (c0 : List Value) (a1 a2 a3 : Int) (w : World) (w0 : CellsOk kScore c0) (w1 : (Lit.int .u8 a1).wf = true) (w2 : (Lit.int .u8 a2).wf = true) (w3 : (Lit.int .u8 a3).wf = true) :
    Calls Try.prog 5 #[.agg c0.toArray, .int .u8 a1, .int .u8 a2, .int .u8 a3] w fun e w' => e = .returned (.bool true) ∧ Below w.heap.size w w' := by
  have b1 := bounds_u8 w1
  have b2 := bounds_u8 w2
  have b3 := bounds_u8 w3
  obtain ⟨s, rfl, bn, bu, br⟩ := kScore_of w0
  clear w0 w1 w2 w3
  unfold Scr.cells
  go_enter Try.func5, Try.ntmps5
  go_wp2_with fail
  refine (awake30 _).mono ?_
  rintro e w1 ⟨rfl, hb1⟩
  have hz1 : w.heap.size < w1.heap.size := by have := hb1.size; simp at this; omega
  have hb0 := ((Below.refl w.heap.size w).alloc (Nat.le_refl _) (.cells #[.int .i64 s.num, .int .i64 s.unit, .int .i64 s.rng] 37)).trans (hb1.mono (by simp))
  have q0 : w1.cell? ⟨w.heap.size, 0, none⟩ = some (.int .i64 s.num) := (hb1.cell (by simp)).trans (by simp)
  have q1 : w1.cell? ⟨w.heap.size, 1, none⟩ = some (.int .i64 s.unit) := (hb1.cell (by simp)).trans (by simp)
  have q2 : w1.cell? ⟨w.heap.size, 2, none⟩ = some (.int .i64 s.rng) := (hb1.cell (by simp)).trans (by simp)
  clear hb1
  have hz2 : w.heap.size < w1.heap.size + 1 := by omega
  have hz3 : w.heap.size < w1.heap.size + 1 + 1 := by omega
  have hz4 : w.heap.size < w1.heap.size + 1 + 1 + 1 := by omega
  have hz5 : w.heap.size < w1.heap.size + 3 := by omega
  have hz6 : w.heap.size < w1.heap.size + 2 := by omega
  go_wp2_with fail
  obtain ⟨L, hL⟩ : ∃ L : List Scr, L = [s, ⟨a1 % 12 - 6, a2 % 8 - 1, a3 % 10⟩, ⟨562949953421311 + a3 % 3 - (1 + a2 % 2) + (a1 % 3 - 1), 1 + a2 % 2, 562949953421311 + a3 % 3⟩, ⟨-(562949953421311 + a3 % 3 - (1 + a2 % 2) + (a1 % 3 - 1)), 1 + a2 % 2, 562949953421311 + a3 % 3⟩] := ⟨_, rfl⟩
  have hbd : ∀ i, i < 4 → -9223372036854775808 ≤ (L.getD i default).unit ∧ (L.getD i default).rng ≤ 9223372036854775807 := fun i hi => by
    subst hL
    have : i = 0 ∨ i = 1 ∨ i = 2 ∨ i = 3 := by omega
    rcases this with rfl | rfl | rfl | rfl <;> simp <;> omega
  have hg : ∀ W : World, (W.alloc (.cells (L.flatMap Scr.cells).toArray 37)).heap[W.heap.size]? = some (.cells (L.flatMap Scr.cells).toArray 37 (0, 0)) := fun W => heap_alloc_new W _
  have hLl : L.length = 4 := by rw [hL]; rfl
  have hW : ∀ W : World, Below w.heap.size w W → Below w.heap.size w (W.alloc (.cells (L.flatMap Scr.cells).toArray 37)) := fun W h => h.alloc h.size _
  obtain ⟨W, hWe⟩ : ∃ W : World, W = (((w1.alloc (.cells #[.int .i64 (a1 % 12 - 6), .int .i64 (a2 % 8 - 1), .int .i64 (a3 % 10)] 37)).alloc (.cells #[.int .i64 (562949953421311 + a3 % 3 - (1 + a2 % 2) + (a1 % 3 - 1)), .int .i64 (1 + a2 % 2), .int .i64 (562949953421311 + a3 % 3)] 37)).alloc (.cells #[.int .i64 (-(562949953421311 + a3 % 3 - (1 + a2 % 2) + (a1 % 3 - 1))), .int .i64 (1 + a2 % 2), .int .i64 (562949953421311 + a3 % 3)] 37)) := ⟨_, rfl⟩
  have hWs : W.heap.size = w1.heap.size + 3 := by rw [hWe]; simp
  have hWb : Below w.heap.size w W := by rw [hWe]; exact ((hb0.alloc (by omega) _).alloc (by simp; omega) _).alloc (by simp; omega) _
  have hg := hg W
  have hWb := hW W hWb
  rw [hWs] at hg
  rw [hWe, hL] at hg hWb
  change Below w.heap.size w ((((w1.alloc _).alloc _).alloc _).alloc (.cells #[.int .i64 s.num, .int .i64 s.unit, .int .i64 s.rng, .int .i64 (a1 % 12 - 6), .int .i64 (a2 % 8 - 1), .int .i64 (a3 % 10), .int .i64 (562949953421311 + a3 % 3 - (1 + a2 % 2) + (a1 % 3 - 1)), .int .i64 (1 + a2 % 2), .int .i64 (562949953421311 + a3 % 3), .int .i64 (-(562949953421311 + a3 % 3 - (1 + a2 % 2) + (a1 % 3 - 1))), .int .i64 (1 + a2 % 2), .int .i64 (562949953421311 + a3 % 3)] 37)) at hWb
  change ((((w1.alloc _).alloc _).alloc _).alloc (.cells #[.int .i64 s.num, .int .i64 s.unit, .int .i64 s.rng, .int .i64 (a1 % 12 - 6), .int .i64 (a2 % 8 - 1), .int .i64 (a3 % 10), .int .i64 (562949953421311 + a3 % 3 - (1 + a2 % 2) + (a1 % 3 - 1)), .int .i64 (1 + a2 % 2), .int .i64 (562949953421311 + a3 % 3), .int .i64 (-(562949953421311 + a3 % 3 - (1 + a2 % 2) + (a1 % 3 - 1))), .int .i64 (1 + a2 % 2), .int .i64 (562949953421311 + a3 % 3)] 37)).heap[w1.heap.size + 3]? = _ at hg
  rw [← hL] at hg
  clear hWe hWs hW q0 q1 q2 hz1 hz2 hz3 hz4 hz5 hz6
  have HL := Lib.hid hL
  clear hL
  generalize Go.World.alloc (((w1.alloc _).alloc _).alloc _) _ = w2 at hg hWb ⊢
  go_loopg [13] 4 (fun mm i wr => ∃ k : Nat, k ≤ 4 ∧ mm = 4 - k ∧ i = .int .i64 k ∧ Below w.heap.size w wr ∧ wr.heap[w1.heap.size + 3]? = some (.cells (L.flatMap Scr.cells).toArray 37 (0, 0)))
  case atStart => exact ⟨0, by omega, by omega, rfl, hWb, hg⟩
  case round =>
    clear hWb hg
    obtain ⟨k, hk, hm, rfl, hb, hg⟩ := hrel
    have HM := Lib.hid hm
    clear hm
    by_cases hk4 : k < 4
    · obtain ⟨hu, hr⟩ := hbd k hk4
      have hrow : ∀ x : World, LeW wr.drew x → ∀ j u, (L.getD k default).cells[j]? = some u → x.cell? ⟨w1.heap.size + 3, k * 3 + j, none⟩ = some u := fun x hx j u hj => by
        have h1 : x.heap[w1.heap.size + 3]? = some (.cells (L.flatMap Scr.cells).toArray 37 (0, 0)) := by rw [hx.block _ (lt_of_blk (w := wr) hg)]; exact hg
        rw [cell_of_block h1, List.getElem?_toArray]
        exact (flat_get Scr.cells 3 (fun _ => rfl) L k j _ (by rw [List.getElem?_eq_getElem (by omega), List.getD_eq_getElem?_getD, List.getElem?_eq_getElem (by omega)]; rfl) (List.getElem?_eq_some_iff.1 hj).1).trans hj
      generalize L.getD k default = q at hu hr hrow
      have q0 : ∀ x : Beh LeW wr.drew, x.w.cell? ⟨w1.heap.size + 1 + 1 + 1, k * 3, none⟩ = some (.int .i64 q.num) := fun x => hrow _ x.h 0 _ rfl
      have q1 : ∀ x : Beh LeW wr.drew, x.w.cell? ⟨w1.heap.size + 1 + 1 + 1, k * 3 + 1, none⟩ = some (.int .i64 q.unit) := fun x => hrow _ x.h 1 _ rfl
      have q2 : ∀ x : Beh LeW wr.drew, x.w.cell? ⟨w1.heap.size + 1 + 1 + 1, k * 3 + 2, none⟩ = some (.int .i64 q.rng) := fun x => hrow _ x.h 2 _ rfl
      clear hrow
      go_wp2_with fail
      refine wp_region_late (R := LeW) 11 77 [(4, [], none), (9, [], none)] (by kernel_rfl) (by kernel_rfl) (by kernel_rfl) rfl LeW.refl (fun _ _ _ => LeW.trans) ?_
      simp only [Late, List.take_succ_cons, List.drop_succ_cons, List.take_zero, List.drop_zero, Nat.reduceSub, Nat.reduceAdd, Nat.sub_zero]
      repeat (go_big_quiet_step (fail))
      refine wpQuiet_nil ?_
      refine late_call Try.func36 (by kernel_rfl) (by kernel_rfl) (fun x => valid36 q.num q.unit q.rng x.w hu hr) rfl (by simp only [Act.put, List.setIfInBounds_toArray, List.set_cons_succ, List.set_cons_zero]; rfl) ?_
      repeat (go_big_quiet_step (fail))
      refine wpQuiet_nil ?_
      refine late_call Try.func37 (by kernel_rfl) (by kernel_rfl) (fun x => valid37 q.num q.unit q.rng x.w hu hr) rfl (by simp only [Act.put, List.setIfInBounds_toArray, List.set_cons_succ, List.set_cons_zero]; rfl) ?_
      repeat (go_big_quiet_step (fail))
      refine wpQuiet_nil ?_
      intro x
      simp only [allGens]
      have hb' := below_trans' hb hb.size (Below.trans ((Below.refl _ wr).drew) x.h)
      have hg' : x.w.heap[w1.heap.size + 3]? = some (.cells (L.flatMap Scr.cells).toArray 37 (0, 0)) := by rw [x.h.block _ (lt_of_blk (w := wr) hg)]; exact hg
      generalize x.w = w3 at *
      clear q0 q1 q2 hb hg
      go_wp2_with fail
      go_roundg (4 - (k + 1))
      case measure => have := HM.out; omega
      case rel => exact ⟨k + 1, by omega, rfl, by go_num, hb', hg'⟩
    · go_wp2_with fail
      go_ret
      exact ⟨rfl, hb⟩
end Go.Proofs.Ytgonighpjpfmnaa
