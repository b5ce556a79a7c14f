/- Sqrt of the reference. -/
import Derived.Test.YtpligjkbnlfhgaaIntH
namespace Go.Proofs.Ytpligjkbnlfhgaa
open Go.RowKit

theorem rootU_dec {n : Int} (h0 : 0 ≤ n) (h1 : n ≤ 2305843009213693952) : (if rootU n * rootU n = n * 4294967296 then rootU n else rootU n - 1) = rootI n := by
  obtain ⟨⟨q0, q1, q2⟩, _, _⟩ := rootI_sq h0 h1
  unfold rootU
  by_cases h : rootI n * rootI n = n * 4294967296
  · rw [if_pos h, if_pos h]
  · rw [if_neg h, if_neg (by omega)]; omega

set_option maxRecDepth 100000 in
set_option maxHeartbeats 2000000 in
theorem sqrt31 (a b : Int) (w : World) : Calls Try.prog 31 #[.agg #[.int .i64 a, .int .i64 b]] w fun e w' => e = .returned (resV (sqrtI a b)) ∧ Below w.heap.size w w' := by
  obtain ⟨hb, g0, g1⟩ := allocs2 w (ivA a b) #[.int .i64 0, .int .i64 0] 23 23
  unfold ivA at *
  have hw1 : w.heap.size ≤ w.heap.size + 1 := by omega
  by_cases hok : inI a b = true ∧ 0 ≤ a
  · have hi1 := inI_iff.1 hok.1
    have r1 := fun w => root39 a w hok.2 (by omega)
    have r2 := fun w => root39 b w (by omega) (by omega)
    obtain ⟨u0, u1⟩ := rootU_bd (n := a) (by omega) (by omega)
    obtain ⟨v0, v1⟩ := rootU_bd (n := b) (by omega) (by omega)
    have hdec := rootU_dec (n := a) hok.2 (by omega)
    have e2 : sqrtI a b = some (rootI a, rootU b) := by rw [sqrtI, if_pos hok]; rfl
    have HV := Lib.hid hok.1
    have ha0 := hok.2
    clear hok
    generalize rootI a = lo at *
    generalize rootU b = V at *
    obtain ⟨U, hU⟩ := Int.eq_ofNat_of_zero_le u0
    rw [hU] at hdec r1 u1
    obtain ⟨X, hXa⟩ := Int.eq_ofNat_of_zero_le ha0
    have mu := fun w => Try.bits_Mul64 U U (by omega) (by omega) w
    obtain ⟨ph, eph⟩ : ∃ h : Int, ((U * U / 18446744073709551616 : Nat) : Int) = h := ⟨_, rfl⟩
    obtain ⟨pl, epl⟩ : ∃ h : Int, ((U * U % 18446744073709551616 : Nat) : Int) = h := ⟨_, rfl⟩
    rw [eph, epl] at mu
    obtain ⟨h, eh⟩ : ∃ h : Int, a / 4294967296 = h := ⟨_, rfl⟩
    obtain ⟨l, el⟩ : ∃ h : Int, IntKind.u64.wrap (a * 4294967296) = h := ⟨_, rfl⟩
    have hl : l = a * 4294967296 % 18446744073709551616 := by rw [← el, IntKind.wrap_u64]
    have hcmp : (ph = h ∧ pl = l) ↔ (U : Int) * U = a * 4294967296 := by
      rw [← Int.natCast_mul, ← eph, ← epl, ← eh, hl]; omega
    have E2 := Lib.hid e2
    have R1 := Lib.hid r1
    have R2 := Lib.hid r2
    have MU := Lib.hid mu
    have HC := Lib.hid hcmp
    have HD := Lib.hid hdec
    clear r1 r2 mu hcmp hdec e2 hU hXa eph epl hl u0
    by_cases hex : (U : Int) * U = a * 4294967296
    · have hlo := HD.out
      rw [if_pos hex] at hlo
      obtain ⟨c1, c2⟩ := HC.out.2 hex
      have d1 : (ph != h) = false := by simp [c1]
      have d2 : (pl != l) = false := by simp [c2]
      have d3 : (ph == h) = true := by simp [c1]
      have d4 : (pl == l) = true := by simp [c2]
      have HLO := Lib.hid hlo
      clear hex c1 c2 hlo
      go_enter Try.func31, Try.ntmps31
      go_wp2_with fail
      generalize ((w.alloc (.cells #[.int .i64 a, .int .i64 b] 23)).alloc (.cells #[.int .i64 0, .int .i64 0] 23)) = W at *
      generalize w.heap.size + 1 = G1 at *
      refine (valid16 a b W).mono ?_
      rintro e w1 ⟨rfl, hb1⟩
      rw [HV.out]
      replace g0 := (hb1.block _ (lt_of_blk g0)).trans g0
      replace g1 := (hb1.block _ (lt_of_blk g1)).trans g1
      have y0 := cell_of_block g0 0
      have y1 := cell_of_block g0 1
      have x0 := cell_of_block g1 0
      have x1 := cell_of_block g1 1
      have f0 := free_of_block g1 0
      have f1 := free_of_block g1 1
      simp only [List.getElem?_toArray, List.getElem?_cons_zero, List.getElem?_cons_succ] at y0 y1 x0 x1
      replace hb := below_trans' hb hb.size hb1
      clear hb1
      go_wp2_with fail
      refine (R1.out w1).mono ?_
      rintro e _ ⟨rfl, rfl⟩
      go_wp2_with fail
      refine (MU.out w1).mono ?_
      rintro e w2 ⟨rfl, hw⟩
      cases hw
      go_wp2_with fail
      refine (R2.out w1).mono ?_
      rintro e _ ⟨rfl, rfl⟩
      go_wp2_with fail
      have k := block_set (block_set g1 0 (.int .i64 (U : Int))) 1 (.int .i64 V)
      have t0 := cell_of_block k 0
      have t1 := cell_of_block k 1
      simp only [List.getElem?_toArray, List.getElem?_cons_zero, List.getElem?_cons_succ, List.setIfInBounds_toArray, List.set_cons_zero, List.set_cons_succ] at t0 t1
      exact bodyPost_ret (v := resV (some ((U : Int), V))) (by simp [results, Try.results31, go_sem, t0, t1, resV]) rfl ⟨by rw [E2.out, HLO.out], (hb.setCell hw1 _).setCell hw1 _⟩
    · have hlo := HD.out
      rw [if_neg hex] at hlo
      have HLO := Lib.hid hlo
      by_cases c1 : ph = h
      · have c2 : ¬ pl = l := fun hh => hex (HC.out.1 ⟨c1, hh⟩)
        have d1 : (ph != h) = false := by simp [c1]
        have d2 : (pl != l) = true := by simp [c2]
        clear hex c1 c2 hlo
        go_enter Try.func31, Try.ntmps31
        go_wp2_with fail
        generalize ((w.alloc (.cells #[.int .i64 a, .int .i64 b] 23)).alloc (.cells #[.int .i64 0, .int .i64 0] 23)) = W at *
        generalize w.heap.size + 1 = G1 at *
        refine (valid16 a b W).mono ?_
        rintro e w1 ⟨rfl, hb1⟩
        rw [HV.out]
        replace g0 := (hb1.block _ (lt_of_blk g0)).trans g0
        replace g1 := (hb1.block _ (lt_of_blk g1)).trans g1
        have y0 := cell_of_block g0 0
        have y1 := cell_of_block g0 1
        have x0 := cell_of_block g1 0
        have x1 := cell_of_block g1 1
        have f0 := free_of_block g1 0
        have f1 := free_of_block g1 1
        simp only [List.getElem?_toArray, List.getElem?_cons_zero, List.getElem?_cons_succ] at y0 y1 x0 x1
        replace hb := below_trans' hb hb.size hb1
        clear hb1
        go_wp2_with fail
        refine (R1.out w1).mono ?_
        rintro e _ ⟨rfl, rfl⟩
        go_wp2_with fail
        refine (MU.out w1).mono ?_
        rintro e w2 ⟨rfl, hw⟩
        cases hw
        go_wp2_with fail
        refine (R2.out w1).mono ?_
        rintro e _ ⟨rfl, rfl⟩
        go_wp2_with fail
        have k := block_set (block_set g1 0 (.int .i64 ((U : Int) - 1))) 1 (.int .i64 V)
        have t0 := cell_of_block k 0
        have t1 := cell_of_block k 1
        simp only [List.getElem?_toArray, List.getElem?_cons_zero, List.getElem?_cons_succ, List.setIfInBounds_toArray, List.set_cons_zero, List.set_cons_succ] at t0 t1
        exact bodyPost_ret (v := resV (some ((U : Int) - 1, V))) (by simp [results, Try.results31, go_sem, t0, t1, resV]) rfl ⟨by rw [E2.out, HLO.out], (hb.setCell hw1 _).setCell hw1 _⟩
      · have d1 : (ph != h) = true := by simp [c1]
        clear hex c1 hlo
        go_enter Try.func31, Try.ntmps31
        go_wp2_with fail
        generalize ((w.alloc (.cells #[.int .i64 a, .int .i64 b] 23)).alloc (.cells #[.int .i64 0, .int .i64 0] 23)) = W at *
        generalize w.heap.size + 1 = G1 at *
        refine (valid16 a b W).mono ?_
        rintro e w1 ⟨rfl, hb1⟩
        rw [HV.out]
        replace g0 := (hb1.block _ (lt_of_blk g0)).trans g0
        replace g1 := (hb1.block _ (lt_of_blk g1)).trans g1
        have y0 := cell_of_block g0 0
        have y1 := cell_of_block g0 1
        have x0 := cell_of_block g1 0
        have x1 := cell_of_block g1 1
        have f0 := free_of_block g1 0
        have f1 := free_of_block g1 1
        simp only [List.getElem?_toArray, List.getElem?_cons_zero, List.getElem?_cons_succ] at y0 y1 x0 x1
        replace hb := below_trans' hb hb.size hb1
        clear hb1
        go_wp2_with fail
        refine (R1.out w1).mono ?_
        rintro e _ ⟨rfl, rfl⟩
        go_wp2_with fail
        refine (MU.out w1).mono ?_
        rintro e w2 ⟨rfl, hw⟩
        cases hw
        go_wp2_with fail
        refine (R2.out w1).mono ?_
        rintro e _ ⟨rfl, rfl⟩
        go_wp2_with fail
        have k := block_set (block_set g1 0 (.int .i64 ((U : Int) - 1))) 1 (.int .i64 V)
        have t0 := cell_of_block k 0
        have t1 := cell_of_block k 1
        simp only [List.getElem?_toArray, List.getElem?_cons_zero, List.getElem?_cons_succ, List.setIfInBounds_toArray, List.set_cons_zero, List.set_cons_succ] at t0 t1
        exact bodyPost_ret (v := resV (some ((U : Int) - 1, V))) (by simp [results, Try.results31, go_sem, t0, t1, resV]) rfl ⟨by rw [E2.out, HLO.out], (hb.setCell hw1 _).setCell hw1 _⟩
  · have e1 : sqrtI a b = none := by rw [sqrtI, if_neg hok]
    have E1 := Lib.hid e1
    clear e1
    cases hv : inI a b with
    | false =>
      go_enter Try.func31, Try.ntmps31
      go_wp2_with fail
      generalize ((w.alloc (.cells #[.int .i64 a, .int .i64 b] 23)).alloc (.cells #[.int .i64 0, .int .i64 0] 23)) = W at *
      generalize w.heap.size + 1 = G1 at *
      refine (valid16 a b W).mono ?_
      rintro e w1 ⟨rfl, hb1⟩
      rw [hv]
      replace g0 := (hb1.block _ (lt_of_blk g0)).trans g0
      replace g1 := (hb1.block _ (lt_of_blk g1)).trans g1
      have y0 := cell_of_block g0 0
      have y1 := cell_of_block g0 1
      have x0 := cell_of_block g1 0
      have x1 := cell_of_block g1 1
      have f0 := free_of_block g1 0
      have f1 := free_of_block g1 1
      simp only [List.getElem?_toArray, List.getElem?_cons_zero, List.getElem?_cons_succ] at y0 y1 x0 x1
      replace hb := below_trans' hb hb.size hb1
      clear hb1 g0
      go_wp2_with fail
      have k := block_set (block_set g1 0 (.int .i64 0)) 1 (.int .i64 0)
      have t0 := cell_of_block k 0
      have t1 := cell_of_block k 1
      simp only [List.getElem?_toArray, List.getElem?_cons_zero, List.getElem?_cons_succ, List.setIfInBounds_toArray, List.set_cons_zero, List.set_cons_succ] at t0 t1
      exact bodyPost_ret (v := .tuple #[.agg #[.int .i64 0, .int .i64 0], .bool false]) (by simp [results, Try.results31, go_sem, t0, t1]) rfl ⟨by rw [E1.out]; rfl, (hb.setCell hw1 _).setCell hw1 _⟩
    | true =>
      have ha : a < 0 := by
        refine Decidable.byContradiction fun h => hok ⟨hv, by omega⟩
      go_enter Try.func31, Try.ntmps31
      go_wp2_with fail
      generalize ((w.alloc (.cells #[.int .i64 a, .int .i64 b] 23)).alloc (.cells #[.int .i64 0, .int .i64 0] 23)) = W at *
      generalize w.heap.size + 1 = G1 at *
      refine (valid16 a b W).mono ?_
      rintro e w1 ⟨rfl, hb1⟩
      rw [hv]
      replace g0 := (hb1.block _ (lt_of_blk g0)).trans g0
      replace g1 := (hb1.block _ (lt_of_blk g1)).trans g1
      have y0 := cell_of_block g0 0
      have y1 := cell_of_block g0 1
      have x0 := cell_of_block g1 0
      have x1 := cell_of_block g1 1
      have f0 := free_of_block g1 0
      have f1 := free_of_block g1 1
      simp only [List.getElem?_toArray, List.getElem?_cons_zero, List.getElem?_cons_succ] at y0 y1 x0 x1
      replace hb := below_trans' hb hb.size hb1
      clear hb1 g0
      go_wp2_with fail
      have k := block_set (block_set g1 0 (.int .i64 0)) 1 (.int .i64 0)
      have t0 := cell_of_block k 0
      have t1 := cell_of_block k 1
      simp only [List.getElem?_toArray, List.getElem?_cons_zero, List.getElem?_cons_succ, List.setIfInBounds_toArray, List.set_cons_zero, List.set_cons_succ] at t0 t1
      exact bodyPost_ret (v := .tuple #[.agg #[.int .i64 0, .int .i64 0], .bool false]) (by simp [results, Try.results31, go_sem, t0, t1]) rfl ⟨by rw [E1.out]; rfl, (hb.setCell hw1 _).setCell hw1 _⟩
end Go.Proofs.Ytpligjkbnlfhgaa
