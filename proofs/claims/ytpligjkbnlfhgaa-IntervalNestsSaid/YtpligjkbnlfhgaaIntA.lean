/- Valid intervals, their making, magnitudes; Add, Sub, Meet, Hull of both texts. -/
import Derived.Test.YtpligjkbnlfhgaaInt0
import Derived.Test.YtpligjkbnlfhgaaDiv
namespace Go.Proofs.Ytpligjkbnlfhgaa
open Go.RowKit

theorem cell_of_block {w : World} {g : Nat} {cs : Array Value} {t : TypeId} (h : w.heap[g]? = some (.cells cs t (0, 0))) (i : Nat) : w.cell? ⟨g, i, none⟩ = cs[i]? := cell_of_row w g i cs t (0, 0) h
theorem free_of_block {w : World} {g : Nat} {cs : Array Value} {t : TypeId} (h : w.heap[g]? = some (.cells cs t (0, 0))) (i : Nat) : w.frozen? ⟨g, i, none⟩ = false := by simp [World.frozen?, h]
theorem block_set {w : World} {g : Nat} {cs : Array Value} {t : TypeId} (h : w.heap[g]? = some (.cells cs t (0, 0))) (i : Nat) (u : Value) : (w.setCell ⟨g, i, none⟩ u).heap[g]? = some (.cells (cs.setIfInBounds i u) t (0, 0)) := by
  simp [World.setCell, Array.getElem?_modify, h]
theorem lt_of_blk {w : World} {g : Nat} {o : Obj} (h : w.heap[g]? = some o) : g < w.heap.size := (Array.getElem?_eq_some_iff.1 h).1

theorem allocs2 (w : World) (a b : Array Value) (t u : TypeId) : Below w.heap.size w ((w.alloc (.cells a t)).alloc (.cells b u)) ∧ ((w.alloc (.cells a t)).alloc (.cells b u)).heap[w.heap.size]? = some (.cells a t (0, 0)) ∧ ((w.alloc (.cells a t)).alloc (.cells b u)).heap[w.heap.size + 1]? = some (.cells b u (0, 0)) := by
  refine ⟨((Below.refl _ _).alloc (Nat.le_refl _) _).alloc (by simp) _, ?_, ?_⟩
  · rw [Below.heap_alloc _ _ _ (by simp)]; exact heap_alloc_new w _
  · have h := heap_alloc_new (w.alloc (.cells a t)) (.cells b u)
    rwa [show (w.alloc (.cells a t)).heap.size = w.heap.size + 1 by simp] at h
theorem allocs3 (w : World) (a b c : Array Value) (t u s : TypeId) : Below w.heap.size w (((w.alloc (.cells a t)).alloc (.cells b u)).alloc (.cells c s)) ∧ (((w.alloc (.cells a t)).alloc (.cells b u)).alloc (.cells c s)).heap[w.heap.size]? = some (.cells a t (0, 0)) ∧
    (((w.alloc (.cells a t)).alloc (.cells b u)).alloc (.cells c s)).heap[w.heap.size + 1]? = some (.cells b u (0, 0)) ∧ (((w.alloc (.cells a t)).alloc (.cells b u)).alloc (.cells c s)).heap[w.heap.size + 1 + 1]? = some (.cells c s (0, 0)) := by
  obtain ⟨h1, h2, h3⟩ := allocs2 w a b t u
  refine ⟨h1.alloc h1.size _, ?_, ?_, ?_⟩
  · rw [Below.heap_alloc _ _ _ (by simp; omega)]; exact h2
  · rw [Below.heap_alloc _ _ _ (by simp)]; exact h3
  · have h := heap_alloc_new ((w.alloc (.cells a t)).alloc (.cells b u)) (.cells c s)
    rwa [show ((w.alloc (.cells a t)).alloc (.cells b u)).heap.size = w.heap.size + 1 + 1 by simp] at h

abbrev ivA (lo hi : Int) : Array Value := #[.int .i64 lo, .int .i64 hi]
/-- A result: the interval and true, or the zero interval and false. -/
def resV : IR → Value
  | some (lo, hi) => .tuple #[.agg #[.int .i64 lo, .int .i64 hi], .bool true]
  | none => .tuple #[.agg #[.int .i64 0, .int .i64 0], .bool false]

theorem valid15 (lo hi : Int) (w : World) : Calls Try.prog 15 #[.agg #[.int .i64 lo, .int .i64 hi]] w fun e w' => e = .returned (.bool (inI lo hi)) ∧ Below w.heap.size w w' := by
  have hb : Below w.heap.size w (w.alloc (.cells #[.int .i64 lo, .int .i64 hi] 23)) := (Below.refl _ _).alloc (Nat.le_refl _) _
  by_cases h1 : -2305843009213693952 ≤ lo
  · by_cases h2 : lo ≤ hi
    all_goals
      go_enter Try.func15, Try.ntmps15
      go_wp2_with fail
      go_ret
      exact ⟨ret_bool (by first | (simp [inI, h1, h2]; done) | (simp [inI]; intros; omega)), hb⟩
  · go_enter Try.func15, Try.ntmps15
    go_wp2_with fail
    go_ret
    exact ⟨ret_bool (by simp [inI]; try (intros; omega)), hb⟩

theorem valid16 (lo hi : Int) (w : World) : Calls Try.prog 16 #[.agg #[.int .i64 lo, .int .i64 hi]] w fun e w' => e = .returned (.bool (inI lo hi)) ∧ Below w.heap.size w w' := by
  have hb : Below w.heap.size w (w.alloc (.cells #[.int .i64 lo, .int .i64 hi] 23)) := (Below.refl _ _).alloc (Nat.le_refl _) _
  by_cases h1 : -2305843009213693952 ≤ lo
  · by_cases h2 : lo ≤ hi
    all_goals
      go_enter Try.func16, Try.ntmps16
      go_wp2_with fail
      go_ret
      exact ⟨ret_bool (by first | (simp [inI, h1, h2]; done) | (simp [inI]; intros; omega)), hb⟩
  · go_enter Try.func16, Try.ntmps16
    go_wp2_with fail
    go_ret
    exact ⟨ret_bool (by simp [inI]; try (intros; omega)), hb⟩

theorem both20 (a b c d : Int) (w : World) : Calls Try.prog 20 #[.agg #[.int .i64 a, .int .i64 b], .agg #[.int .i64 c, .int .i64 d]] w fun e w' => e = .returned (.bool (inI a b && inI c d)) ∧ Below w.heap.size w w' := by
  obtain ⟨hb, g0, g1⟩ := allocs2 w (ivA a b) (ivA c d) 23 23
  unfold ivA at *
  cases h : inI a b
  all_goals
    go_enter Try.func20, Try.ntmps20
    go_wp2_with fail
    generalize ((w.alloc (.cells #[.int .i64 a, .int .i64 b] 23)).alloc (.cells #[.int .i64 c, .int .i64 d] 23)) = W at *
    refine (valid15 a b W).mono ?_
    rintro e w1 ⟨rfl, hb1⟩
    rw [h]
    replace g1 := (hb1.block _ (lt_of_blk g1)).trans g1
    have y0 := cell_of_block g1 0
    have y1 := cell_of_block g1 1
    simp only [List.getElem?_toArray, List.getElem?_cons_zero, List.getElem?_cons_succ] at y0 y1
    replace hb := below_trans' hb hb.size hb1
    clear hb1 g0 g1
    go_wp2_with fail
  · go_ret
    exact ⟨rfl, hb⟩
  · refine (valid15 c d w1).mono ?_
    rintro e w2 ⟨rfl, hb2⟩
    go_wp2_with fail
    go_ret
    exact ⟨ret_bool (by simp), below_trans' hb hb.size hb2⟩

theorem abs34 (x : Int) (w : World) (h : -9223372036854775808 ≤ x ∧ x ≤ 9223372036854775807) : Calls Try.prog 34 #[.int .i64 x] w fun e w' => e = .returned (.int .u64 (absI x)) ∧ w = w' := by
  by_cases h1 : x < 0
  · have e1 : IntKind.u64.wrap (-IntKind.u64.wrap x) = -x := by rw [IntKind.wrap_u64, IntKind.wrap_u64]; omega
    have E1 := Lib.hid e1
    clear e1
    go_enter Try.func34, Try.ntmps34
    go_wp2_with fail
    go_ret
    exact ⟨ret_int (by rw [absI, if_pos h1]; exact E1.out), rfl⟩
  · go_enter Try.func34, Try.ntmps34
    go_wp2_with fail
    go_ret
    exact ⟨ret_int (by unfold absI; split <;> omega), rfl⟩
theorem size41 (x : Int) (w : World) (h : -9223372036854775808 ≤ x ∧ x ≤ 9223372036854775807) : Calls Try.prog 41 #[.int .i64 x] w fun e w' => e = .returned (.tuple #[.int .u64 (absI x), .bool (decide (x < 0))]) ∧ w = w' := by
  by_cases h1 : x < 0
  · have e1 : IntKind.u64.wrap (-IntKind.u64.wrap x) = -x := by rw [IntKind.wrap_u64, IntKind.wrap_u64]; omega
    have e2 : absI x = -x := by rw [absI, if_pos h1]
    have E1 := Lib.hid e1
    have E2 := Lib.hid e2
    clear e1 e2
    go_enter Try.func41, Try.ntmps41
    go_wp2_with fail
    go_ret2
    exact ⟨by rw [E2.out, E1.out]; simp [h1], rfl⟩
  · have e2 : absI x = x := by rw [absI, if_neg h1]
    have E2 := Lib.hid e2
    clear e2
    go_enter Try.func41, Try.ntmps41
    go_wp2_with fail
    go_ret2
    exact ⟨by rw [E2.out]; simp; omega, rfl⟩

theorem made21 (lo hi : Int) (w : World) : Calls Try.prog 21 #[.int .i64 lo, .int .i64 hi] w fun e w' => e = .returned (resV (mkI lo hi)) ∧ Below w.heap.size w w' := by
  obtain ⟨hb, g0, g1⟩ := allocs2 w #[.int .i64 0, .int .i64 0] (ivA lo hi) 23 23
  unfold ivA at *
  have hw : w.heap.size ≤ w.heap.size := Nat.le_refl _
  cases h : inI lo hi
  all_goals
    have e1 : mkI lo hi = if inI lo hi = true then some (lo, hi) else none := rfl
    rw [h] at e1
    have E1 := Lib.hid e1
    clear e1
    go_enter Try.func21, Try.ntmps21
    go_wp2_with fail
    generalize ((w.alloc (.cells #[.int .i64 0, .int .i64 0] 23)).alloc (.cells #[.int .i64 lo, .int .i64 hi] 23)) = W at *
    refine (valid15 lo hi W).mono ?_
    rintro e w1 ⟨rfl, hb1⟩
    rw [h]
    replace g0 := (hb1.block _ (lt_of_blk g0)).trans g0
    replace g1 := (hb1.block _ (lt_of_blk g1)).trans g1
    have y0 := cell_of_block g1 0
    have y1 := cell_of_block g1 1
    have x0 := cell_of_block g0 0
    have x1 := cell_of_block g0 1
    have f0 := free_of_block g0 0
    have f1 := free_of_block g0 1
    simp only [List.getElem?_toArray, List.getElem?_cons_zero, List.getElem?_cons_succ] at y0 y1 x0 x1
    replace hb := below_trans' hb hb.size hb1
    clear hb1 g1
    go_wp2_with fail
  · have k := block_set (block_set g0 0 (.int .i64 0)) 1 (.int .i64 0)
    have t0 := cell_of_block k 0
    have t1 := cell_of_block k 1
    simp only [List.getElem?_toArray, List.getElem?_cons_zero, List.getElem?_cons_succ, List.setIfInBounds_toArray, List.set_cons_zero, List.set_cons_succ] at t0 t1
    exact bodyPost_ret (v := .tuple #[.agg #[.int .i64 0, .int .i64 0], .bool false]) (by simp [results, Try.results21, go_sem, t0, t1]) rfl ⟨by rw [E1.out]; rfl, (hb.setCell hw _).setCell hw _⟩
  · have k := block_set (block_set g0 0 (.int .i64 lo)) 1 (.int .i64 hi)
    have t0 := cell_of_block k 0
    have t1 := cell_of_block k 1
    simp only [List.getElem?_toArray, List.getElem?_cons_zero, List.getElem?_cons_succ, List.setIfInBounds_toArray, List.set_cons_zero, List.set_cons_succ] at t0 t1
    exact bodyPost_ret (v := .tuple #[.agg #[.int .i64 lo, .int .i64 hi], .bool true]) (by simp [results, Try.results21, go_sem, t0, t1]) rfl ⟨by rw [E1.out]; rfl, (hb.setCell hw _).setCell hw _⟩

theorem made36 (lo hi : Int) (w : World) : Calls Try.prog 36 #[.int .i64 lo, .int .i64 hi] w fun e w' => e = .returned (resV (mkI lo hi)) ∧ Below w.heap.size w w' := by
  obtain ⟨hb, g0, g1⟩ := allocs2 w #[.int .i64 0, .int .i64 0] (ivA lo hi) 23 23
  unfold ivA at *
  have hw : w.heap.size ≤ w.heap.size := Nat.le_refl _
  cases h : inI lo hi
  all_goals
    have e1 : mkI lo hi = if inI lo hi = true then some (lo, hi) else none := rfl
    rw [h] at e1
    have E1 := Lib.hid e1
    clear e1
    go_enter Try.func36, Try.ntmps36
    go_wp2_with fail
    generalize ((w.alloc (.cells #[.int .i64 0, .int .i64 0] 23)).alloc (.cells #[.int .i64 lo, .int .i64 hi] 23)) = W at *
    refine (valid16 lo hi W).mono ?_
    rintro e w1 ⟨rfl, hb1⟩
    rw [h]
    replace g0 := (hb1.block _ (lt_of_blk g0)).trans g0
    replace g1 := (hb1.block _ (lt_of_blk g1)).trans g1
    have y0 := cell_of_block g1 0
    have y1 := cell_of_block g1 1
    have x0 := cell_of_block g0 0
    have x1 := cell_of_block g0 1
    have f0 := free_of_block g0 0
    have f1 := free_of_block g0 1
    simp only [List.getElem?_toArray, List.getElem?_cons_zero, List.getElem?_cons_succ] at y0 y1 x0 x1
    replace hb := below_trans' hb hb.size hb1
    clear hb1 g1
    go_wp2_with fail
  · have k := block_set (block_set g0 0 (.int .i64 0)) 1 (.int .i64 0)
    have t0 := cell_of_block k 0
    have t1 := cell_of_block k 1
    simp only [List.getElem?_toArray, List.getElem?_cons_zero, List.getElem?_cons_succ, List.setIfInBounds_toArray, List.set_cons_zero, List.set_cons_succ] at t0 t1
    exact bodyPost_ret (v := .tuple #[.agg #[.int .i64 0, .int .i64 0], .bool false]) (by simp [results, Try.results36, go_sem, t0, t1]) rfl ⟨by rw [E1.out]; rfl, (hb.setCell hw _).setCell hw _⟩
  · have k := block_set (block_set g0 0 (.int .i64 lo)) 1 (.int .i64 hi)
    have t0 := cell_of_block k 0
    have t1 := cell_of_block k 1
    simp only [List.getElem?_toArray, List.getElem?_cons_zero, List.getElem?_cons_succ, List.setIfInBounds_toArray, List.set_cons_zero, List.set_cons_succ] at t0 t1
    exact bodyPost_ret (v := .tuple #[.agg #[.int .i64 lo, .int .i64 hi], .bool true]) (by simp [results, Try.results36, go_sem, t0, t1]) rfl ⟨by rw [E1.out]; rfl, (hb.setCell hw _).setCell hw _⟩
end Go.Proofs.Ytpligjkbnlfhgaa
