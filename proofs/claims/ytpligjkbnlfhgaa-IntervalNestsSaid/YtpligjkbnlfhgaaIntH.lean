/- Sqrt of both texts. -/
import Derived.Test.YtpligjkbnlfhgaaIntG
namespace Go.Proofs.Ytpligjkbnlfhgaa
open Go.RowKit

theorem root_le {a b : Int} (h0 : 0 ≤ a) (h : a ≤ b) (h1 : b ≤ 2305843009213693952) : rootI a ≤ rootU b := by
  obtain ⟨⟨q0, q1, q2⟩, _, _⟩ := rootI_sq h0 (by omega)
  obtain ⟨u0, u1⟩ := rootU_bd (n := b) (by omega) h1
  have h2 := (rootU_iff (n := b) (m := rootU b) (by omega) h1 u0).2 (Int.le_refl _)
  refine Int.not_lt.1 fun hc => ?_
  have := sq_mono (a := rootU b + 1) (b := rootI a) (by omega) (by omega)
  have e : (rootU b + 1) * (rootU b + 1) = rootU b * rootU b + rootU b + rootU b + 1 := by grind
  omega

set_option maxRecDepth 100000 in
set_option maxHeartbeats 2000000 in
theorem sqrt12 (a b : Int) (w : World) : Calls Try.prog 12 #[.agg #[.int .i64 a, .int .i64 b]] w fun e w' => e = .returned (resV (sqrtI a b)) ∧ Below w.heap.size w w' := by
  obtain ⟨hb, g0, g1⟩ := allocs2 w (ivA a b) #[.int .i64 0, .int .i64 0] 23 23
  unfold ivA at *
  have hw1 : w.heap.size ≤ w.heap.size + 1 := by omega
  by_cases hok : inI a b = true ∧ 0 ≤ a
  · have hi1 := inI_iff.1 hok.1
    have r1 := fun w => root22 a w hok.2 (by omega)
    have r2 := fun w => root22 b w (by omega) (by omega)
    have hle := root_le hok.2 hi1.2.1 hi1.2.2
    obtain ⟨_, lo0, lo1⟩ := rootI_sq (n := a) hok.2 (by omega)
    obtain ⟨_, hi0, hi2⟩ := rootI_sq (n := b) (by omega) (by omega)
    obtain ⟨u0, u1⟩ := rootU_bd (n := b) (by omega) (by omega)
    have e1 : sqrtI a b = mkI (rootI a) (rootU b) := by
      rw [mkI, if_pos (inI_iff.2 (by omega)), sqrtI, if_pos hok]; rfl
    have hU : rootU b = if rootI b * rootI b = b * 4294967296 then rootI b else rootI b + 1 := rfl
    have md := fun w => made21 (rootI a) (rootU b) w
    rw [← e1] at md
    have e2 : sqrtI a b = some (rootI a, rootU b) := by rw [sqrtI, if_pos hok]; rfl
    rw [e2] at md
    change ∀ w, Calls Try.prog 21 #[.int .i64 (rootI a), .int .i64 (rootU b)] w (fun e w' => e = .returned (.tuple #[.agg #[.int .i64 (rootI a), .int .i64 (rootU b)], .bool true]) ∧ Below w.heap.size w w') at md
    have E2 := Lib.hid e2
    generalize rootI a = lo at *
    generalize hX : decide (rootI b * rootI b = b * 4294967296) = X at *
    have hU2 : rootU b = if X = true then rootI b else rootI b + 1 := by rw [hU, ← hX]; simp
    generalize rootU b = U at *
    generalize rootI b = T at *
    have HV := Lib.hid hok.1
    have R1 := Lib.hid r1
    have R2 := Lib.hid r2
    have MD := Lib.hid md
    have HU2 := Lib.hid hU2
    have ha0 := hok.2
    clear hok r1 r2 md e1 e2 hU hX hU2
    cases X
    all_goals
      go_enter Try.func12, Try.ntmps12
      go_wp2_with fail
      generalize ((w.alloc (.cells #[.int .i64 a, .int .i64 b] 23)).alloc (.cells #[.int .i64 0, .int .i64 0] 23)) = W at *
      generalize w.heap.size + 1 = G1 at *
      refine (valid15 a b W).mono ?_
      rintro e w1 ⟨rfl, hb1⟩
      rw [HV.out]
      replace g0 := (hb1.block _ (lt_of_blk g0)).trans g0
      replace g1 := (hb1.block _ (lt_of_blk g1)).trans g1
      have y0 := cell_of_block g0 0
      have y1 := cell_of_block g0 1
      simp only [List.getElem?_toArray, List.getElem?_cons_zero, List.getElem?_cons_succ] at y0 y1
      replace hb := below_trans' hb hb.size hb1
      clear hb1
      go_wp2_with fail
      refine (R1.out w1).mono ?_
      rintro e _ ⟨rfl, rfl⟩
      go_wp2_with fail
      refine (R2.out w1).mono ?_
      rintro e _ ⟨rfl, rfl⟩
      have hu := HU2.out
      simp only [if_true, Bool.false_eq_true, if_false] at hu
      subst hu
      go_wp2_with fail
      refine (MD.out w1).mono ?_
      rintro e w2 ⟨rfl, hb1⟩
      replace g1 := (hb1.block _ (lt_of_blk g1)).trans g1
      have x0 := cell_of_block g1 0
      have x1 := cell_of_block g1 1
      have f0 := free_of_block g1 0
      have f1 := free_of_block g1 1
      simp only [List.getElem?_toArray, List.getElem?_cons_zero, List.getElem?_cons_succ] at x0 x1
      replace hb := below_trans' hb hb.size hb1
      clear hb1 y0 y1
      go_wp2_with fail
      first
        | (have k := block_set (block_set g1 0 (.int .i64 lo)) 1 (.int .i64 (T + 1))
           have t0 := cell_of_block k 0
           have t1 := cell_of_block k 1
           simp only [List.getElem?_toArray, List.getElem?_cons_zero, List.getElem?_cons_succ, List.setIfInBounds_toArray, List.set_cons_zero, List.set_cons_succ] at t0 t1
           exact bodyPost_ret (v := resV (some (lo, T + 1))) (by simp [results, Try.results12, go_sem, t0, t1, resV]) rfl ⟨by rw [E2.out], (hb.setCell hw1 _).setCell hw1 _⟩)
        | (have k := block_set (block_set g1 0 (.int .i64 lo)) 1 (.int .i64 U)
           have t0 := cell_of_block k 0
           have t1 := cell_of_block k 1
           simp only [List.getElem?_toArray, List.getElem?_cons_zero, List.getElem?_cons_succ, List.setIfInBounds_toArray, List.set_cons_zero, List.set_cons_succ] at t0 t1
           exact bodyPost_ret (v := resV (some (lo, U))) (by simp [results, Try.results12, go_sem, t0, t1, resV]) rfl ⟨by rw [E2.out], (hb.setCell hw1 _).setCell hw1 _⟩)
  · have e1 : sqrtI a b = none := by rw [sqrtI, if_neg hok]
    have E1 := Lib.hid e1
    clear e1
    cases hv : inI a b with
    | false =>
      go_enter Try.func12, Try.ntmps12
      go_wp2_with fail
      generalize ((w.alloc (.cells #[.int .i64 a, .int .i64 b] 23)).alloc (.cells #[.int .i64 0, .int .i64 0] 23)) = W at *
      generalize w.heap.size + 1 = G1 at *
      refine (valid15 a b W).mono ?_
      rintro e w1 ⟨rfl, hb1⟩
      rw [hv]
      replace g0 := (hb1.block _ (lt_of_blk g0)).trans g0
      replace g1 := (hb1.block _ (lt_of_blk g1)).trans g1
      have y0 := cell_of_block g0 0
      have y1 := cell_of_block g0 1
      have x0 := cell_of_block g1 0
      have x1 := cell_of_block g1 1
      have f0 := free_of_block g1 0
      have f1 := free_of_block g1 1
      simp only [List.getElem?_toArray, List.getElem?_cons_zero, List.getElem?_cons_succ] at y0 y1 x0 x1
      replace hb := below_trans' hb hb.size hb1
      clear hb1 g0
      go_wp2_with fail
      have k := block_set (block_set g1 0 (.int .i64 0)) 1 (.int .i64 0)
      have t0 := cell_of_block k 0
      have t1 := cell_of_block k 1
      simp only [List.getElem?_toArray, List.getElem?_cons_zero, List.getElem?_cons_succ, List.setIfInBounds_toArray, List.set_cons_zero, List.set_cons_succ] at t0 t1
      exact bodyPost_ret (v := .tuple #[.agg #[.int .i64 0, .int .i64 0], .bool false]) (by simp [results, Try.results12, go_sem, t0, t1]) rfl ⟨by rw [E1.out]; rfl, (hb.setCell hw1 _).setCell hw1 _⟩
    | true =>
      have ha : a < 0 := by
        refine Decidable.byContradiction fun h => hok ⟨hv, by omega⟩
      go_enter Try.func12, Try.ntmps12
      go_wp2_with fail
      generalize ((w.alloc (.cells #[.int .i64 a, .int .i64 b] 23)).alloc (.cells #[.int .i64 0, .int .i64 0] 23)) = W at *
      generalize w.heap.size + 1 = G1 at *
      refine (valid15 a b W).mono ?_
      rintro e w1 ⟨rfl, hb1⟩
      rw [hv]
      replace g0 := (hb1.block _ (lt_of_blk g0)).trans g0
      replace g1 := (hb1.block _ (lt_of_blk g1)).trans g1
      have y0 := cell_of_block g0 0
      have y1 := cell_of_block g0 1
      have x0 := cell_of_block g1 0
      have x1 := cell_of_block g1 1
      have f0 := free_of_block g1 0
      have f1 := free_of_block g1 1
      simp only [List.getElem?_toArray, List.getElem?_cons_zero, List.getElem?_cons_succ] at y0 y1 x0 x1
      replace hb := below_trans' hb hb.size hb1
      clear hb1 g0
      go_wp2_with fail
      have k := block_set (block_set g1 0 (.int .i64 0)) 1 (.int .i64 0)
      have t0 := cell_of_block k 0
      have t1 := cell_of_block k 1
      simp only [List.getElem?_toArray, List.getElem?_cons_zero, List.getElem?_cons_succ, List.setIfInBounds_toArray, List.set_cons_zero, List.set_cons_succ] at t0 t1
      exact bodyPost_ret (v := .tuple #[.agg #[.int .i64 0, .int .i64 0], .bool false]) (by simp [results, Try.results12, go_sem, t0, t1]) rfl ⟨by rw [E1.out]; rfl, (hb.setCell hw1 _).setCell hw1 _⟩
end Go.Proofs.Ytpligjkbnlfhgaa
