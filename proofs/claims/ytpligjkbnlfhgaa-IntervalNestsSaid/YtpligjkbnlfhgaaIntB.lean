/- Add, Sub, Meet, Hull of both texts. -/
import Derived.Test.YtpligjkbnlfhgaaIntA
namespace Go.Proofs.Ytpligjkbnlfhgaa
open Go.RowKit

set_option maxHeartbeats 1000000 in
theorem add17 (a b c d : Int) (w : World) : Calls Try.prog 17 #[.agg #[.int .i64 a, .int .i64 b], .agg #[.int .i64 c, .int .i64 d]] w fun e w' => e = .returned (resV (addI a b c d)) ∧ Below w.heap.size w w' := by
  obtain ⟨hb, g0, g1, g2⟩ := allocs3 w (ivA a b) (ivA c d) #[.int .i64 0, .int .i64 0] 23 23 23
  unfold ivA at *
  have hw2 : w.heap.size ≤ w.heap.size + 1 + 1 := by omega
  cases h : (inI a b && inI c d) with
  | false =>
    have e1 : addI a b c d = none := by rw [addI, if_neg (by intro hh; rw [hh.1, hh.2] at h; cases h)]
    have E1 := Lib.hid e1
    clear e1
    go_enter Try.func17, Try.ntmps17
    go_wp2_with fail
    generalize (((w.alloc (.cells #[.int .i64 a, .int .i64 b] 23)).alloc (.cells #[.int .i64 c, .int .i64 d] 23)).alloc (.cells #[.int .i64 0, .int .i64 0] 23)) = W at *
    generalize w.heap.size + 1 + 1 = G2 at *
    generalize w.heap.size + 1 = G1 at *
    refine (both20 a b c d W).mono ?_
    rintro e w1 ⟨rfl, hb1⟩
    rw [h]
    replace g0 := (hb1.block _ (lt_of_blk g0)).trans g0
    replace g1 := (hb1.block _ (lt_of_blk g1)).trans g1
    replace g2 := (hb1.block _ (lt_of_blk g2)).trans g2
    have y0 := cell_of_block g0 0
    have y1 := cell_of_block g0 1
    have z0 := cell_of_block g1 0
    have z1 := cell_of_block g1 1
    have x0 := cell_of_block g2 0
    have x1 := cell_of_block g2 1
    have f0 := free_of_block g2 0
    have f1 := free_of_block g2 1
    simp only [List.getElem?_toArray, List.getElem?_cons_zero, List.getElem?_cons_succ] at y0 y1 z0 z1 x0 x1
    replace hb := below_trans' hb hb.size hb1
    clear hb1
    go_wp2_with fail
    have k := block_set (block_set g2 0 (.int .i64 0)) 1 (.int .i64 0)
    have t0 := cell_of_block k 0
    have t1 := cell_of_block k 1
    simp only [List.getElem?_toArray, List.getElem?_cons_zero, List.getElem?_cons_succ, List.setIfInBounds_toArray, List.set_cons_zero, List.set_cons_succ] at t0 t1
    exact bodyPost_ret (v := .tuple #[.agg #[.int .i64 0, .int .i64 0], .bool false]) (by simp [results, Try.results17, go_sem, t0, t1]) rfl ⟨by rw [E1.out]; rfl, (hb.setCell hw2 _).setCell hw2 _⟩
  | true =>
    have h12 : inI a b = true ∧ inI c d = true := by simpa using h
    have hi1 := inI_iff.1 h12.1
    have hi2 := inI_iff.1 h12.2
    have e1 : addI a b c d = mkI (a + c) (b + d) := by rw [addI, if_pos h12]
    have E1 := Lib.hid e1
    clear e1
    have H12 := Lib.hid h12
    clear h12
    go_enter Try.func17, Try.ntmps17
    go_wp2_with fail
    generalize (((w.alloc (.cells #[.int .i64 a, .int .i64 b] 23)).alloc (.cells #[.int .i64 c, .int .i64 d] 23)).alloc (.cells #[.int .i64 0, .int .i64 0] 23)) = W at *
    generalize w.heap.size + 1 + 1 = G2 at *
    generalize w.heap.size + 1 = G1 at *
    refine (both20 a b c d W).mono ?_
    rintro e w1 ⟨rfl, hb1⟩
    rw [h]
    replace g0 := (hb1.block _ (lt_of_blk g0)).trans g0
    replace g1 := (hb1.block _ (lt_of_blk g1)).trans g1
    replace g2 := (hb1.block _ (lt_of_blk g2)).trans g2
    have y0 := cell_of_block g0 0
    have y1 := cell_of_block g0 1
    have z0 := cell_of_block g1 0
    have z1 := cell_of_block g1 1
    have x0 := cell_of_block g2 0
    have x1 := cell_of_block g2 1
    have f0 := free_of_block g2 0
    have f1 := free_of_block g2 1
    simp only [List.getElem?_toArray, List.getElem?_cons_zero, List.getElem?_cons_succ] at y0 y1 z0 z1 x0 x1
    replace hb := below_trans' hb hb.size hb1
    clear hb1
    go_wp2_with fail
    refine (made21 (a + c) (b + d) w1).mono ?_
    rintro e w2 ⟨rfl, hb1⟩
    rw [← E1.out]
    clear y0 y1 z0 z1 x0 x1 f0 f1
    replace g0 := (hb1.block _ (lt_of_blk g0)).trans g0
    replace g1 := (hb1.block _ (lt_of_blk g1)).trans g1
    replace g2 := (hb1.block _ (lt_of_blk g2)).trans g2
    have y0 := cell_of_block g0 0
    have y1 := cell_of_block g0 1
    have z0 := cell_of_block g1 0
    have z1 := cell_of_block g1 1
    have x0 := cell_of_block g2 0
    have x1 := cell_of_block g2 1
    have f0 := free_of_block g2 0
    have f1 := free_of_block g2 1
    simp only [List.getElem?_toArray, List.getElem?_cons_zero, List.getElem?_cons_succ] at y0 y1 z0 z1 x0 x1
    replace hb := below_trans' hb hb.size hb1
    clear hb1
    cases hr : addI a b c d with
    | none =>
      rw [show resV none = .tuple #[.agg #[.int .i64 0, .int .i64 0], .bool false] from rfl]
      go_wp2_with fail
      have k := block_set (block_set g2 0 (.int .i64 (0))) 1 (.int .i64 (0))
      have t0 := cell_of_block k 0
      have t1 := cell_of_block k 1
      simp only [List.getElem?_toArray, List.getElem?_cons_zero, List.getElem?_cons_succ, List.setIfInBounds_toArray, List.set_cons_zero, List.set_cons_succ] at t0 t1
      exact bodyPost_ret (v := resV none) (by simp [results, Try.results17, go_sem, t0, t1, resV]) rfl ⟨by rw [hr], (hb.setCell hw2 _).setCell hw2 _⟩
    | some p =>
      obtain ⟨lo, hi⟩ := p
      rw [show resV (some (lo, hi)) = .tuple #[.agg #[.int .i64 lo, .int .i64 hi], .bool true] from rfl]
      go_wp2_with fail
      have k := block_set (block_set g2 0 (.int .i64 (lo))) 1 (.int .i64 (hi))
      have t0 := cell_of_block k 0
      have t1 := cell_of_block k 1
      simp only [List.getElem?_toArray, List.getElem?_cons_zero, List.getElem?_cons_succ, List.setIfInBounds_toArray, List.set_cons_zero, List.set_cons_succ] at t0 t1
      exact bodyPost_ret (v := resV (some (lo, hi))) (by simp [results, Try.results17, go_sem, t0, t1, resV]) rfl ⟨by rw [hr], (hb.setCell hw2 _).setCell hw2 _⟩

set_option maxHeartbeats 1000000 in
theorem sub18 (a b c d : Int) (w : World) : Calls Try.prog 18 #[.agg #[.int .i64 a, .int .i64 b], .agg #[.int .i64 c, .int .i64 d]] w fun e w' => e = .returned (resV (subI a b c d)) ∧ Below w.heap.size w w' := by
  obtain ⟨hb, g0, g1, g2⟩ := allocs3 w (ivA a b) (ivA c d) #[.int .i64 0, .int .i64 0] 23 23 23
  unfold ivA at *
  have hw2 : w.heap.size ≤ w.heap.size + 1 + 1 := by omega
  cases h : (inI a b && inI c d) with
  | false =>
    have e1 : subI a b c d = none := by rw [subI, if_neg (by intro hh; rw [hh.1, hh.2] at h; cases h)]
    have E1 := Lib.hid e1
    clear e1
    go_enter Try.func18, Try.ntmps18
    go_wp2_with fail
    generalize (((w.alloc (.cells #[.int .i64 a, .int .i64 b] 23)).alloc (.cells #[.int .i64 c, .int .i64 d] 23)).alloc (.cells #[.int .i64 0, .int .i64 0] 23)) = W at *
    generalize w.heap.size + 1 + 1 = G2 at *
    generalize w.heap.size + 1 = G1 at *
    refine (both20 a b c d W).mono ?_
    rintro e w1 ⟨rfl, hb1⟩
    rw [h]
    replace g0 := (hb1.block _ (lt_of_blk g0)).trans g0
    replace g1 := (hb1.block _ (lt_of_blk g1)).trans g1
    replace g2 := (hb1.block _ (lt_of_blk g2)).trans g2
    have y0 := cell_of_block g0 0
    have y1 := cell_of_block g0 1
    have z0 := cell_of_block g1 0
    have z1 := cell_of_block g1 1
    have x0 := cell_of_block g2 0
    have x1 := cell_of_block g2 1
    have f0 := free_of_block g2 0
    have f1 := free_of_block g2 1
    simp only [List.getElem?_toArray, List.getElem?_cons_zero, List.getElem?_cons_succ] at y0 y1 z0 z1 x0 x1
    replace hb := below_trans' hb hb.size hb1
    clear hb1
    go_wp2_with fail
    have k := block_set (block_set g2 0 (.int .i64 0)) 1 (.int .i64 0)
    have t0 := cell_of_block k 0
    have t1 := cell_of_block k 1
    simp only [List.getElem?_toArray, List.getElem?_cons_zero, List.getElem?_cons_succ, List.setIfInBounds_toArray, List.set_cons_zero, List.set_cons_succ] at t0 t1
    exact bodyPost_ret (v := .tuple #[.agg #[.int .i64 0, .int .i64 0], .bool false]) (by simp [results, Try.results18, go_sem, t0, t1]) rfl ⟨by rw [E1.out]; rfl, (hb.setCell hw2 _).setCell hw2 _⟩
  | true =>
    have h12 : inI a b = true ∧ inI c d = true := by simpa using h
    have hi1 := inI_iff.1 h12.1
    have hi2 := inI_iff.1 h12.2
    have e1 : subI a b c d = mkI (a - d) (b - c) := by rw [subI, if_pos h12]
    have E1 := Lib.hid e1
    clear e1
    have H12 := Lib.hid h12
    clear h12
    go_enter Try.func18, Try.ntmps18
    go_wp2_with fail
    generalize (((w.alloc (.cells #[.int .i64 a, .int .i64 b] 23)).alloc (.cells #[.int .i64 c, .int .i64 d] 23)).alloc (.cells #[.int .i64 0, .int .i64 0] 23)) = W at *
    generalize w.heap.size + 1 + 1 = G2 at *
    generalize w.heap.size + 1 = G1 at *
    refine (both20 a b c d W).mono ?_
    rintro e w1 ⟨rfl, hb1⟩
    rw [h]
    replace g0 := (hb1.block _ (lt_of_blk g0)).trans g0
    replace g1 := (hb1.block _ (lt_of_blk g1)).trans g1
    replace g2 := (hb1.block _ (lt_of_blk g2)).trans g2
    have y0 := cell_of_block g0 0
    have y1 := cell_of_block g0 1
    have z0 := cell_of_block g1 0
    have z1 := cell_of_block g1 1
    have x0 := cell_of_block g2 0
    have x1 := cell_of_block g2 1
    have f0 := free_of_block g2 0
    have f1 := free_of_block g2 1
    simp only [List.getElem?_toArray, List.getElem?_cons_zero, List.getElem?_cons_succ] at y0 y1 z0 z1 x0 x1
    replace hb := below_trans' hb hb.size hb1
    clear hb1
    go_wp2_with fail
    refine (made21 (a - d) (b - c) w1).mono ?_
    rintro e w2 ⟨rfl, hb1⟩
    rw [← E1.out]
    clear y0 y1 z0 z1 x0 x1 f0 f1
    replace g0 := (hb1.block _ (lt_of_blk g0)).trans g0
    replace g1 := (hb1.block _ (lt_of_blk g1)).trans g1
    replace g2 := (hb1.block _ (lt_of_blk g2)).trans g2
    have y0 := cell_of_block g0 0
    have y1 := cell_of_block g0 1
    have z0 := cell_of_block g1 0
    have z1 := cell_of_block g1 1
    have x0 := cell_of_block g2 0
    have x1 := cell_of_block g2 1
    have f0 := free_of_block g2 0
    have f1 := free_of_block g2 1
    simp only [List.getElem?_toArray, List.getElem?_cons_zero, List.getElem?_cons_succ] at y0 y1 z0 z1 x0 x1
    replace hb := below_trans' hb hb.size hb1
    clear hb1
    cases hr : subI a b c d with
    | none =>
      rw [show resV none = .tuple #[.agg #[.int .i64 0, .int .i64 0], .bool false] from rfl]
      go_wp2_with fail
      have k := block_set (block_set g2 0 (.int .i64 (0))) 1 (.int .i64 (0))
      have t0 := cell_of_block k 0
      have t1 := cell_of_block k 1
      simp only [List.getElem?_toArray, List.getElem?_cons_zero, List.getElem?_cons_succ, List.setIfInBounds_toArray, List.set_cons_zero, List.set_cons_succ] at t0 t1
      exact bodyPost_ret (v := resV none) (by simp [results, Try.results18, go_sem, t0, t1, resV]) rfl ⟨by rw [hr], (hb.setCell hw2 _).setCell hw2 _⟩
    | some p =>
      obtain ⟨lo, hi⟩ := p
      rw [show resV (some (lo, hi)) = .tuple #[.agg #[.int .i64 lo, .int .i64 hi], .bool true] from rfl]
      go_wp2_with fail
      have k := block_set (block_set g2 0 (.int .i64 (lo))) 1 (.int .i64 (hi))
      have t0 := cell_of_block k 0
      have t1 := cell_of_block k 1
      simp only [List.getElem?_toArray, List.getElem?_cons_zero, List.getElem?_cons_succ, List.setIfInBounds_toArray, List.set_cons_zero, List.set_cons_succ] at t0 t1
      exact bodyPost_ret (v := resV (some (lo, hi))) (by simp [results, Try.results18, go_sem, t0, t1, resV]) rfl ⟨by rw [hr], (hb.setCell hw2 _).setCell hw2 _⟩

set_option maxHeartbeats 1000000 in
theorem meet11 (a b c d : Int) (w : World) : Calls Try.prog 11 #[.agg #[.int .i64 a, .int .i64 b], .agg #[.int .i64 c, .int .i64 d]] w fun e w' => e = .returned (resV (meetI a b c d)) ∧ Below w.heap.size w w' := by
  obtain ⟨hb, g0, g1, g2⟩ := allocs3 w (ivA a b) (ivA c d) #[.int .i64 0, .int .i64 0] 23 23 23
  unfold ivA at *
  have hw2 : w.heap.size ≤ w.heap.size + 1 + 1 := by omega
  cases h : (inI a b && inI c d) with
  | false =>
    have e1 : meetI a b c d = none := by rw [meetI, if_neg (by intro hh; rw [hh.1, hh.2] at h; cases h)]
    have E1 := Lib.hid e1
    clear e1
    go_enter Try.func11, Try.ntmps11
    go_wp2_with fail
    generalize (((w.alloc (.cells #[.int .i64 a, .int .i64 b] 23)).alloc (.cells #[.int .i64 c, .int .i64 d] 23)).alloc (.cells #[.int .i64 0, .int .i64 0] 23)) = W at *
    generalize w.heap.size + 1 + 1 = G2 at *
    generalize w.heap.size + 1 = G1 at *
    refine (both20 a b c d W).mono ?_
    rintro e w1 ⟨rfl, hb1⟩
    rw [h]
    replace g0 := (hb1.block _ (lt_of_blk g0)).trans g0
    replace g1 := (hb1.block _ (lt_of_blk g1)).trans g1
    replace g2 := (hb1.block _ (lt_of_blk g2)).trans g2
    have y0 := cell_of_block g0 0
    have y1 := cell_of_block g0 1
    have z0 := cell_of_block g1 0
    have z1 := cell_of_block g1 1
    have x0 := cell_of_block g2 0
    have x1 := cell_of_block g2 1
    have f0 := free_of_block g2 0
    have f1 := free_of_block g2 1
    simp only [List.getElem?_toArray, List.getElem?_cons_zero, List.getElem?_cons_succ] at y0 y1 z0 z1 x0 x1
    replace hb := below_trans' hb hb.size hb1
    clear hb1
    go_wp2_with fail
    have k := block_set (block_set g2 0 (.int .i64 0)) 1 (.int .i64 0)
    have t0 := cell_of_block k 0
    have t1 := cell_of_block k 1
    simp only [List.getElem?_toArray, List.getElem?_cons_zero, List.getElem?_cons_succ, List.setIfInBounds_toArray, List.set_cons_zero, List.set_cons_succ] at t0 t1
    exact bodyPost_ret (v := .tuple #[.agg #[.int .i64 0, .int .i64 0], .bool false]) (by simp [results, Try.results11, go_sem, t0, t1]) rfl ⟨by rw [E1.out]; rfl, (hb.setCell hw2 _).setCell hw2 _⟩
  | true =>
    have h12 : inI a b = true ∧ inI c d = true := by simpa using h
    have hi1 := inI_iff.1 h12.1
    have hi2 := inI_iff.1 h12.2
    have e1 : meetI a b c d = mkI (max a c) (min b d) := by rw [meetI, if_pos h12]
    have E1 := Lib.hid e1
    clear e1
    have H12 := Lib.hid h12
    clear h12
    go_enter Try.func11, Try.ntmps11
    go_wp2_with fail
    generalize (((w.alloc (.cells #[.int .i64 a, .int .i64 b] 23)).alloc (.cells #[.int .i64 c, .int .i64 d] 23)).alloc (.cells #[.int .i64 0, .int .i64 0] 23)) = W at *
    generalize w.heap.size + 1 + 1 = G2 at *
    generalize w.heap.size + 1 = G1 at *
    refine (both20 a b c d W).mono ?_
    rintro e w1 ⟨rfl, hb1⟩
    rw [h]
    replace g0 := (hb1.block _ (lt_of_blk g0)).trans g0
    replace g1 := (hb1.block _ (lt_of_blk g1)).trans g1
    replace g2 := (hb1.block _ (lt_of_blk g2)).trans g2
    have y0 := cell_of_block g0 0
    have y1 := cell_of_block g0 1
    have z0 := cell_of_block g1 0
    have z1 := cell_of_block g1 1
    have x0 := cell_of_block g2 0
    have x1 := cell_of_block g2 1
    have f0 := free_of_block g2 0
    have f1 := free_of_block g2 1
    simp only [List.getElem?_toArray, List.getElem?_cons_zero, List.getElem?_cons_succ] at y0 y1 z0 z1 x0 x1
    replace hb := below_trans' hb hb.size hb1
    clear hb1
    go_wp2_with fail
    refine (made21 (max a c) (min b d) w1).mono ?_
    rintro e w2 ⟨rfl, hb1⟩
    rw [← E1.out]
    clear y0 y1 z0 z1 x0 x1 f0 f1
    replace g0 := (hb1.block _ (lt_of_blk g0)).trans g0
    replace g1 := (hb1.block _ (lt_of_blk g1)).trans g1
    replace g2 := (hb1.block _ (lt_of_blk g2)).trans g2
    have y0 := cell_of_block g0 0
    have y1 := cell_of_block g0 1
    have z0 := cell_of_block g1 0
    have z1 := cell_of_block g1 1
    have x0 := cell_of_block g2 0
    have x1 := cell_of_block g2 1
    have f0 := free_of_block g2 0
    have f1 := free_of_block g2 1
    simp only [List.getElem?_toArray, List.getElem?_cons_zero, List.getElem?_cons_succ] at y0 y1 z0 z1 x0 x1
    replace hb := below_trans' hb hb.size hb1
    clear hb1
    cases hr : meetI a b c d with
    | none =>
      rw [show resV none = .tuple #[.agg #[.int .i64 0, .int .i64 0], .bool false] from rfl]
      go_wp2_with fail
      have k := block_set (block_set g2 0 (.int .i64 (0))) 1 (.int .i64 (0))
      have t0 := cell_of_block k 0
      have t1 := cell_of_block k 1
      simp only [List.getElem?_toArray, List.getElem?_cons_zero, List.getElem?_cons_succ, List.setIfInBounds_toArray, List.set_cons_zero, List.set_cons_succ] at t0 t1
      exact bodyPost_ret (v := resV none) (by simp [results, Try.results11, go_sem, t0, t1, resV]) rfl ⟨by rw [hr], (hb.setCell hw2 _).setCell hw2 _⟩
    | some p =>
      obtain ⟨lo, hi⟩ := p
      rw [show resV (some (lo, hi)) = .tuple #[.agg #[.int .i64 lo, .int .i64 hi], .bool true] from rfl]
      go_wp2_with fail
      have k := block_set (block_set g2 0 (.int .i64 (lo))) 1 (.int .i64 (hi))
      have t0 := cell_of_block k 0
      have t1 := cell_of_block k 1
      simp only [List.getElem?_toArray, List.getElem?_cons_zero, List.getElem?_cons_succ, List.setIfInBounds_toArray, List.set_cons_zero, List.set_cons_succ] at t0 t1
      exact bodyPost_ret (v := resV (some (lo, hi))) (by simp [results, Try.results11, go_sem, t0, t1, resV]) rfl ⟨by rw [hr], (hb.setCell hw2 _).setCell hw2 _⟩

set_option maxHeartbeats 1000000 in
theorem hull10 (a b c d : Int) (w : World) : Calls Try.prog 10 #[.agg #[.int .i64 a, .int .i64 b], .agg #[.int .i64 c, .int .i64 d]] w fun e w' => e = .returned (resV (hullI a b c d)) ∧ Below w.heap.size w w' := by
  obtain ⟨hb, g0, g1, g2⟩ := allocs3 w (ivA a b) (ivA c d) #[.int .i64 0, .int .i64 0] 23 23 23
  unfold ivA at *
  have hw2 : w.heap.size ≤ w.heap.size + 1 + 1 := by omega
  cases h : (inI a b && inI c d) with
  | false =>
    have e1 : hullI a b c d = none := by rw [hullI, if_neg (by intro hh; rw [hh.1, hh.2] at h; cases h)]
    have E1 := Lib.hid e1
    clear e1
    go_enter Try.func10, Try.ntmps10
    go_wp2_with fail
    generalize (((w.alloc (.cells #[.int .i64 a, .int .i64 b] 23)).alloc (.cells #[.int .i64 c, .int .i64 d] 23)).alloc (.cells #[.int .i64 0, .int .i64 0] 23)) = W at *
    generalize w.heap.size + 1 + 1 = G2 at *
    generalize w.heap.size + 1 = G1 at *
    refine (both20 a b c d W).mono ?_
    rintro e w1 ⟨rfl, hb1⟩
    rw [h]
    replace g0 := (hb1.block _ (lt_of_blk g0)).trans g0
    replace g1 := (hb1.block _ (lt_of_blk g1)).trans g1
    replace g2 := (hb1.block _ (lt_of_blk g2)).trans g2
    have y0 := cell_of_block g0 0
    have y1 := cell_of_block g0 1
    have z0 := cell_of_block g1 0
    have z1 := cell_of_block g1 1
    have x0 := cell_of_block g2 0
    have x1 := cell_of_block g2 1
    have f0 := free_of_block g2 0
    have f1 := free_of_block g2 1
    simp only [List.getElem?_toArray, List.getElem?_cons_zero, List.getElem?_cons_succ] at y0 y1 z0 z1 x0 x1
    replace hb := below_trans' hb hb.size hb1
    clear hb1
    go_wp2_with fail
    have k := block_set (block_set g2 0 (.int .i64 0)) 1 (.int .i64 0)
    have t0 := cell_of_block k 0
    have t1 := cell_of_block k 1
    simp only [List.getElem?_toArray, List.getElem?_cons_zero, List.getElem?_cons_succ, List.setIfInBounds_toArray, List.set_cons_zero, List.set_cons_succ] at t0 t1
    exact bodyPost_ret (v := .tuple #[.agg #[.int .i64 0, .int .i64 0], .bool false]) (by simp [results, Try.results10, go_sem, t0, t1]) rfl ⟨by rw [E1.out]; rfl, (hb.setCell hw2 _).setCell hw2 _⟩
  | true =>
    have h12 : inI a b = true ∧ inI c d = true := by simpa using h
    have hi1 := inI_iff.1 h12.1
    have hi2 := inI_iff.1 h12.2
    have e1 : hullI a b c d = mkI (min a c) (max b d) := by rw [hullI, if_pos h12]; exact (hull_mk h12.1 h12.2).symm
    have E1 := Lib.hid e1
    clear e1
    have H12 := Lib.hid h12
    clear h12
    go_enter Try.func10, Try.ntmps10
    go_wp2_with fail
    generalize (((w.alloc (.cells #[.int .i64 a, .int .i64 b] 23)).alloc (.cells #[.int .i64 c, .int .i64 d] 23)).alloc (.cells #[.int .i64 0, .int .i64 0] 23)) = W at *
    generalize w.heap.size + 1 + 1 = G2 at *
    generalize w.heap.size + 1 = G1 at *
    refine (both20 a b c d W).mono ?_
    rintro e w1 ⟨rfl, hb1⟩
    rw [h]
    replace g0 := (hb1.block _ (lt_of_blk g0)).trans g0
    replace g1 := (hb1.block _ (lt_of_blk g1)).trans g1
    replace g2 := (hb1.block _ (lt_of_blk g2)).trans g2
    have y0 := cell_of_block g0 0
    have y1 := cell_of_block g0 1
    have z0 := cell_of_block g1 0
    have z1 := cell_of_block g1 1
    have x0 := cell_of_block g2 0
    have x1 := cell_of_block g2 1
    have f0 := free_of_block g2 0
    have f1 := free_of_block g2 1
    simp only [List.getElem?_toArray, List.getElem?_cons_zero, List.getElem?_cons_succ] at y0 y1 z0 z1 x0 x1
    replace hb := below_trans' hb hb.size hb1
    clear hb1
    go_wp2_with fail
    refine (made21 (min a c) (max b d) w1).mono ?_
    rintro e w2 ⟨rfl, hb1⟩
    rw [← E1.out]
    clear y0 y1 z0 z1 x0 x1 f0 f1
    replace g0 := (hb1.block _ (lt_of_blk g0)).trans g0
    replace g1 := (hb1.block _ (lt_of_blk g1)).trans g1
    replace g2 := (hb1.block _ (lt_of_blk g2)).trans g2
    have y0 := cell_of_block g0 0
    have y1 := cell_of_block g0 1
    have z0 := cell_of_block g1 0
    have z1 := cell_of_block g1 1
    have x0 := cell_of_block g2 0
    have x1 := cell_of_block g2 1
    have f0 := free_of_block g2 0
    have f1 := free_of_block g2 1
    simp only [List.getElem?_toArray, List.getElem?_cons_zero, List.getElem?_cons_succ] at y0 y1 z0 z1 x0 x1
    replace hb := below_trans' hb hb.size hb1
    clear hb1
    cases hr : hullI a b c d with
    | none =>
      rw [show resV none = .tuple #[.agg #[.int .i64 0, .int .i64 0], .bool false] from rfl]
      go_wp2_with fail
      have k := block_set (block_set g2 0 (.int .i64 (0))) 1 (.int .i64 (0))
      have t0 := cell_of_block k 0
      have t1 := cell_of_block k 1
      simp only [List.getElem?_toArray, List.getElem?_cons_zero, List.getElem?_cons_succ, List.setIfInBounds_toArray, List.set_cons_zero, List.set_cons_succ] at t0 t1
      exact bodyPost_ret (v := resV none) (by simp [results, Try.results10, go_sem, t0, t1, resV]) rfl ⟨by rw [hr], (hb.setCell hw2 _).setCell hw2 _⟩
    | some p =>
      obtain ⟨lo, hi⟩ := p
      rw [show resV (some (lo, hi)) = .tuple #[.agg #[.int .i64 lo, .int .i64 hi], .bool true] from rfl]
      go_wp2_with fail
      have k := block_set (block_set g2 0 (.int .i64 (lo))) 1 (.int .i64 (hi))
      have t0 := cell_of_block k 0
      have t1 := cell_of_block k 1
      simp only [List.getElem?_toArray, List.getElem?_cons_zero, List.getElem?_cons_succ, List.setIfInBounds_toArray, List.set_cons_zero, List.set_cons_succ] at t0 t1
      exact bodyPost_ret (v := resV (some (lo, hi))) (by simp [results, Try.results10, go_sem, t0, t1, resV]) rfl ⟨by rw [hr], (hb.setCell hw2 _).setCell hw2 _⟩

set_option maxHeartbeats 1000000 in
theorem add25 (a b c d : Int) (w : World) : Calls Try.prog 25 #[.agg #[.int .i64 a, .int .i64 b], .agg #[.int .i64 c, .int .i64 d]] w fun e w' => e = .returned (resV (addI a b c d)) ∧ Below w.heap.size w w' := by
  obtain ⟨hb, g0, g1, g2⟩ := allocs3 w (ivA a b) (ivA c d) #[.int .i64 0, .int .i64 0] 23 23 23
  unfold ivA at *
  have hw2 : w.heap.size ≤ w.heap.size + 1 + 1 := by omega
  cases h : (inI a b && inI c d) with
  | false =>
    have e1 : addI a b c d = none := by rw [addI, if_neg (by intro hh; rw [hh.1, hh.2] at h; cases h)]
    have E1 := Lib.hid e1
    clear e1
    cases ha : inI a b with
    | false =>
      go_enter Try.func25, Try.ntmps25
      go_wp2_with fail
      generalize (((w.alloc (.cells #[.int .i64 a, .int .i64 b] 23)).alloc (.cells #[.int .i64 c, .int .i64 d] 23)).alloc (.cells #[.int .i64 0, .int .i64 0] 23)) = W at *
      generalize w.heap.size + 1 + 1 = G2 at *
      generalize w.heap.size + 1 = G1 at *
      refine (valid16 a b W).mono ?_
      rintro e w1 ⟨rfl, hb1⟩
      rw [ha]
      replace g0 := (hb1.block _ (lt_of_blk g0)).trans g0
      replace g1 := (hb1.block _ (lt_of_blk g1)).trans g1
      replace g2 := (hb1.block _ (lt_of_blk g2)).trans g2
      have y0 := cell_of_block g0 0
      have y1 := cell_of_block g0 1
      have z0 := cell_of_block g1 0
      have z1 := cell_of_block g1 1
      have x0 := cell_of_block g2 0
      have x1 := cell_of_block g2 1
      have f0 := free_of_block g2 0
      have f1 := free_of_block g2 1
      simp only [List.getElem?_toArray, List.getElem?_cons_zero, List.getElem?_cons_succ] at y0 y1 z0 z1 x0 x1
      replace hb := below_trans' hb hb.size hb1
      clear hb1
      go_wp2_with fail
      have k := block_set (block_set g2 0 (.int .i64 0)) 1 (.int .i64 0)
      have t0 := cell_of_block k 0
      have t1 := cell_of_block k 1
      simp only [List.getElem?_toArray, List.getElem?_cons_zero, List.getElem?_cons_succ, List.setIfInBounds_toArray, List.set_cons_zero, List.set_cons_succ] at t0 t1
      exact bodyPost_ret (v := .tuple #[.agg #[.int .i64 0, .int .i64 0], .bool false]) (by simp [results, Try.results25, go_sem, t0, t1]) rfl ⟨by rw [E1.out]; rfl, (hb.setCell hw2 _).setCell hw2 _⟩
    | true =>
      have hc : inI c d = false := by rw [ha] at h; simpa using h
      go_enter Try.func25, Try.ntmps25
      go_wp2_with fail
      generalize (((w.alloc (.cells #[.int .i64 a, .int .i64 b] 23)).alloc (.cells #[.int .i64 c, .int .i64 d] 23)).alloc (.cells #[.int .i64 0, .int .i64 0] 23)) = W at *
      generalize w.heap.size + 1 + 1 = G2 at *
      generalize w.heap.size + 1 = G1 at *
      refine (valid16 a b W).mono ?_
      rintro e w1 ⟨rfl, hb1⟩
      rw [ha]
      replace g0 := (hb1.block _ (lt_of_blk g0)).trans g0
      replace g1 := (hb1.block _ (lt_of_blk g1)).trans g1
      replace g2 := (hb1.block _ (lt_of_blk g2)).trans g2
      have y0 := cell_of_block g0 0
      have y1 := cell_of_block g0 1
      have z0 := cell_of_block g1 0
      have z1 := cell_of_block g1 1
      have x0 := cell_of_block g2 0
      have x1 := cell_of_block g2 1
      have f0 := free_of_block g2 0
      have f1 := free_of_block g2 1
      simp only [List.getElem?_toArray, List.getElem?_cons_zero, List.getElem?_cons_succ] at y0 y1 z0 z1 x0 x1
      replace hb := below_trans' hb hb.size hb1
      clear hb1
      go_wp2_with fail
      refine (valid16 c d w1).mono ?_
      rintro e w2 ⟨rfl, hb1⟩
      rw [hc]
      clear y0 y1 z0 z1 x0 x1 f0 f1
      replace g0 := (hb1.block _ (lt_of_blk g0)).trans g0
      replace g1 := (hb1.block _ (lt_of_blk g1)).trans g1
      replace g2 := (hb1.block _ (lt_of_blk g2)).trans g2
      have y0 := cell_of_block g0 0
      have y1 := cell_of_block g0 1
      have z0 := cell_of_block g1 0
      have z1 := cell_of_block g1 1
      have x0 := cell_of_block g2 0
      have x1 := cell_of_block g2 1
      have f0 := free_of_block g2 0
      have f1 := free_of_block g2 1
      simp only [List.getElem?_toArray, List.getElem?_cons_zero, List.getElem?_cons_succ] at y0 y1 z0 z1 x0 x1
      replace hb := below_trans' hb hb.size hb1
      clear hb1
      go_wp2_with fail
      have k := block_set (block_set g2 0 (.int .i64 0)) 1 (.int .i64 0)
      have t0 := cell_of_block k 0
      have t1 := cell_of_block k 1
      simp only [List.getElem?_toArray, List.getElem?_cons_zero, List.getElem?_cons_succ, List.setIfInBounds_toArray, List.set_cons_zero, List.set_cons_succ] at t0 t1
      exact bodyPost_ret (v := .tuple #[.agg #[.int .i64 0, .int .i64 0], .bool false]) (by simp [results, Try.results25, go_sem, t0, t1]) rfl ⟨by rw [E1.out]; rfl, (hb.setCell hw2 _).setCell hw2 _⟩
  | true =>
    have h12 : inI a b = true ∧ inI c d = true := by simpa using h
    have hi1 := inI_iff.1 h12.1
    have hi2 := inI_iff.1 h12.2
    have e1 : addI a b c d = mkI (a + c) (b + d) := by rw [addI, if_pos h12]
    have E1 := Lib.hid e1
    clear e1
    have H12 := Lib.hid h12
    clear h12
    go_enter Try.func25, Try.ntmps25
    go_wp2_with fail
    generalize (((w.alloc (.cells #[.int .i64 a, .int .i64 b] 23)).alloc (.cells #[.int .i64 c, .int .i64 d] 23)).alloc (.cells #[.int .i64 0, .int .i64 0] 23)) = W at *
    generalize w.heap.size + 1 + 1 = G2 at *
    generalize w.heap.size + 1 = G1 at *
    refine (valid16 a b W).mono ?_
    rintro e w0 ⟨rfl, hb1⟩
    rw [H12.out.1]
    replace g0 := (hb1.block _ (lt_of_blk g0)).trans g0
    replace g1 := (hb1.block _ (lt_of_blk g1)).trans g1
    replace g2 := (hb1.block _ (lt_of_blk g2)).trans g2
    have y0 := cell_of_block g0 0
    have y1 := cell_of_block g0 1
    have z0 := cell_of_block g1 0
    have z1 := cell_of_block g1 1
    have x0 := cell_of_block g2 0
    have x1 := cell_of_block g2 1
    have f0 := free_of_block g2 0
    have f1 := free_of_block g2 1
    simp only [List.getElem?_toArray, List.getElem?_cons_zero, List.getElem?_cons_succ] at y0 y1 z0 z1 x0 x1
    replace hb := below_trans' hb hb.size hb1
    clear hb1
    go_wp2_with fail
    refine (valid16 c d w0).mono ?_
    rintro e w1 ⟨rfl, hb1⟩
    rw [H12.out.2]
    clear y0 y1 z0 z1 x0 x1 f0 f1
    replace g0 := (hb1.block _ (lt_of_blk g0)).trans g0
    replace g1 := (hb1.block _ (lt_of_blk g1)).trans g1
    replace g2 := (hb1.block _ (lt_of_blk g2)).trans g2
    have y0 := cell_of_block g0 0
    have y1 := cell_of_block g0 1
    have z0 := cell_of_block g1 0
    have z1 := cell_of_block g1 1
    have x0 := cell_of_block g2 0
    have x1 := cell_of_block g2 1
    have f0 := free_of_block g2 0
    have f1 := free_of_block g2 1
    simp only [List.getElem?_toArray, List.getElem?_cons_zero, List.getElem?_cons_succ] at y0 y1 z0 z1 x0 x1
    replace hb := below_trans' hb hb.size hb1
    clear hb1
    go_wp2_with fail
    refine (made36 (a + c) (b + d) w1).mono ?_
    rintro e w2 ⟨rfl, hb1⟩
    rw [← E1.out]
    clear y0 y1 z0 z1 x0 x1 f0 f1
    replace g0 := (hb1.block _ (lt_of_blk g0)).trans g0
    replace g1 := (hb1.block _ (lt_of_blk g1)).trans g1
    replace g2 := (hb1.block _ (lt_of_blk g2)).trans g2
    have y0 := cell_of_block g0 0
    have y1 := cell_of_block g0 1
    have z0 := cell_of_block g1 0
    have z1 := cell_of_block g1 1
    have x0 := cell_of_block g2 0
    have x1 := cell_of_block g2 1
    have f0 := free_of_block g2 0
    have f1 := free_of_block g2 1
    simp only [List.getElem?_toArray, List.getElem?_cons_zero, List.getElem?_cons_succ] at y0 y1 z0 z1 x0 x1
    replace hb := below_trans' hb hb.size hb1
    clear hb1
    cases hr : addI a b c d with
    | none =>
      rw [show resV none = .tuple #[.agg #[.int .i64 0, .int .i64 0], .bool false] from rfl]
      go_wp2_with fail
      have k := block_set (block_set g2 0 (.int .i64 (0))) 1 (.int .i64 (0))
      have t0 := cell_of_block k 0
      have t1 := cell_of_block k 1
      simp only [List.getElem?_toArray, List.getElem?_cons_zero, List.getElem?_cons_succ, List.setIfInBounds_toArray, List.set_cons_zero, List.set_cons_succ] at t0 t1
      exact bodyPost_ret (v := resV none) (by simp [results, Try.results25, go_sem, t0, t1, resV]) rfl ⟨by rw [hr], (hb.setCell hw2 _).setCell hw2 _⟩
    | some p =>
      obtain ⟨lo, hi⟩ := p
      rw [show resV (some (lo, hi)) = .tuple #[.agg #[.int .i64 lo, .int .i64 hi], .bool true] from rfl]
      go_wp2_with fail
      have k := block_set (block_set g2 0 (.int .i64 (lo))) 1 (.int .i64 (hi))
      have t0 := cell_of_block k 0
      have t1 := cell_of_block k 1
      simp only [List.getElem?_toArray, List.getElem?_cons_zero, List.getElem?_cons_succ, List.setIfInBounds_toArray, List.set_cons_zero, List.set_cons_succ] at t0 t1
      exact bodyPost_ret (v := resV (some (lo, hi))) (by simp [results, Try.results25, go_sem, t0, t1, resV]) rfl ⟨by rw [hr], (hb.setCell hw2 _).setCell hw2 _⟩

set_option maxHeartbeats 1000000 in
theorem sub26 (a b c d : Int) (w : World) : Calls Try.prog 26 #[.agg #[.int .i64 a, .int .i64 b], .agg #[.int .i64 c, .int .i64 d]] w fun e w' => e = .returned (resV (subI a b c d)) ∧ Below w.heap.size w w' := by
  obtain ⟨hb, g0, g1, g2⟩ := allocs3 w (ivA a b) (ivA c d) #[.int .i64 0, .int .i64 0] 23 23 23
  unfold ivA at *
  have hw2 : w.heap.size ≤ w.heap.size + 1 + 1 := by omega
  cases h : (inI a b && inI c d) with
  | false =>
    have e1 : subI a b c d = none := by rw [subI, if_neg (by intro hh; rw [hh.1, hh.2] at h; cases h)]
    have E1 := Lib.hid e1
    clear e1
    cases ha : inI a b with
    | false =>
      go_enter Try.func26, Try.ntmps26
      go_wp2_with fail
      generalize (((w.alloc (.cells #[.int .i64 a, .int .i64 b] 23)).alloc (.cells #[.int .i64 c, .int .i64 d] 23)).alloc (.cells #[.int .i64 0, .int .i64 0] 23)) = W at *
      generalize w.heap.size + 1 + 1 = G2 at *
      generalize w.heap.size + 1 = G1 at *
      refine (valid16 a b W).mono ?_
      rintro e w1 ⟨rfl, hb1⟩
      rw [ha]
      replace g0 := (hb1.block _ (lt_of_blk g0)).trans g0
      replace g1 := (hb1.block _ (lt_of_blk g1)).trans g1
      replace g2 := (hb1.block _ (lt_of_blk g2)).trans g2
      have y0 := cell_of_block g0 0
      have y1 := cell_of_block g0 1
      have z0 := cell_of_block g1 0
      have z1 := cell_of_block g1 1
      have x0 := cell_of_block g2 0
      have x1 := cell_of_block g2 1
      have f0 := free_of_block g2 0
      have f1 := free_of_block g2 1
      simp only [List.getElem?_toArray, List.getElem?_cons_zero, List.getElem?_cons_succ] at y0 y1 z0 z1 x0 x1
      replace hb := below_trans' hb hb.size hb1
      clear hb1
      go_wp2_with fail
      have k := block_set (block_set g2 0 (.int .i64 0)) 1 (.int .i64 0)
      have t0 := cell_of_block k 0
      have t1 := cell_of_block k 1
      simp only [List.getElem?_toArray, List.getElem?_cons_zero, List.getElem?_cons_succ, List.setIfInBounds_toArray, List.set_cons_zero, List.set_cons_succ] at t0 t1
      exact bodyPost_ret (v := .tuple #[.agg #[.int .i64 0, .int .i64 0], .bool false]) (by simp [results, Try.results26, go_sem, t0, t1]) rfl ⟨by rw [E1.out]; rfl, (hb.setCell hw2 _).setCell hw2 _⟩
    | true =>
      have hc : inI c d = false := by rw [ha] at h; simpa using h
      go_enter Try.func26, Try.ntmps26
      go_wp2_with fail
      generalize (((w.alloc (.cells #[.int .i64 a, .int .i64 b] 23)).alloc (.cells #[.int .i64 c, .int .i64 d] 23)).alloc (.cells #[.int .i64 0, .int .i64 0] 23)) = W at *
      generalize w.heap.size + 1 + 1 = G2 at *
      generalize w.heap.size + 1 = G1 at *
      refine (valid16 a b W).mono ?_
      rintro e w1 ⟨rfl, hb1⟩
      rw [ha]
      replace g0 := (hb1.block _ (lt_of_blk g0)).trans g0
      replace g1 := (hb1.block _ (lt_of_blk g1)).trans g1
      replace g2 := (hb1.block _ (lt_of_blk g2)).trans g2
      have y0 := cell_of_block g0 0
      have y1 := cell_of_block g0 1
      have z0 := cell_of_block g1 0
      have z1 := cell_of_block g1 1
      have x0 := cell_of_block g2 0
      have x1 := cell_of_block g2 1
      have f0 := free_of_block g2 0
      have f1 := free_of_block g2 1
      simp only [List.getElem?_toArray, List.getElem?_cons_zero, List.getElem?_cons_succ] at y0 y1 z0 z1 x0 x1
      replace hb := below_trans' hb hb.size hb1
      clear hb1
      go_wp2_with fail
      refine (valid16 c d w1).mono ?_
      rintro e w2 ⟨rfl, hb1⟩
      rw [hc]
      clear y0 y1 z0 z1 x0 x1 f0 f1
      replace g0 := (hb1.block _ (lt_of_blk g0)).trans g0
      replace g1 := (hb1.block _ (lt_of_blk g1)).trans g1
      replace g2 := (hb1.block _ (lt_of_blk g2)).trans g2
      have y0 := cell_of_block g0 0
      have y1 := cell_of_block g0 1
      have z0 := cell_of_block g1 0
      have z1 := cell_of_block g1 1
      have x0 := cell_of_block g2 0
      have x1 := cell_of_block g2 1
      have f0 := free_of_block g2 0
      have f1 := free_of_block g2 1
      simp only [List.getElem?_toArray, List.getElem?_cons_zero, List.getElem?_cons_succ] at y0 y1 z0 z1 x0 x1
      replace hb := below_trans' hb hb.size hb1
      clear hb1
      go_wp2_with fail
      have k := block_set (block_set g2 0 (.int .i64 0)) 1 (.int .i64 0)
      have t0 := cell_of_block k 0
      have t1 := cell_of_block k 1
      simp only [List.getElem?_toArray, List.getElem?_cons_zero, List.getElem?_cons_succ, List.setIfInBounds_toArray, List.set_cons_zero, List.set_cons_succ] at t0 t1
      exact bodyPost_ret (v := .tuple #[.agg #[.int .i64 0, .int .i64 0], .bool false]) (by simp [results, Try.results26, go_sem, t0, t1]) rfl ⟨by rw [E1.out]; rfl, (hb.setCell hw2 _).setCell hw2 _⟩
  | true =>
    have h12 : inI a b = true ∧ inI c d = true := by simpa using h
    have hi1 := inI_iff.1 h12.1
    have hi2 := inI_iff.1 h12.2
    have e1 : subI a b c d = mkI (a - d) (b - c) := by rw [subI, if_pos h12]
    have E1 := Lib.hid e1
    clear e1
    have H12 := Lib.hid h12
    clear h12
    go_enter Try.func26, Try.ntmps26
    go_wp2_with fail
    generalize (((w.alloc (.cells #[.int .i64 a, .int .i64 b] 23)).alloc (.cells #[.int .i64 c, .int .i64 d] 23)).alloc (.cells #[.int .i64 0, .int .i64 0] 23)) = W at *
    generalize w.heap.size + 1 + 1 = G2 at *
    generalize w.heap.size + 1 = G1 at *
    refine (valid16 a b W).mono ?_
    rintro e w0 ⟨rfl, hb1⟩
    rw [H12.out.1]
    replace g0 := (hb1.block _ (lt_of_blk g0)).trans g0
    replace g1 := (hb1.block _ (lt_of_blk g1)).trans g1
    replace g2 := (hb1.block _ (lt_of_blk g2)).trans g2
    have y0 := cell_of_block g0 0
    have y1 := cell_of_block g0 1
    have z0 := cell_of_block g1 0
    have z1 := cell_of_block g1 1
    have x0 := cell_of_block g2 0
    have x1 := cell_of_block g2 1
    have f0 := free_of_block g2 0
    have f1 := free_of_block g2 1
    simp only [List.getElem?_toArray, List.getElem?_cons_zero, List.getElem?_cons_succ] at y0 y1 z0 z1 x0 x1
    replace hb := below_trans' hb hb.size hb1
    clear hb1
    go_wp2_with fail
    refine (valid16 c d w0).mono ?_
    rintro e w1 ⟨rfl, hb1⟩
    rw [H12.out.2]
    clear y0 y1 z0 z1 x0 x1 f0 f1
    replace g0 := (hb1.block _ (lt_of_blk g0)).trans g0
    replace g1 := (hb1.block _ (lt_of_blk g1)).trans g1
    replace g2 := (hb1.block _ (lt_of_blk g2)).trans g2
    have y0 := cell_of_block g0 0
    have y1 := cell_of_block g0 1
    have z0 := cell_of_block g1 0
    have z1 := cell_of_block g1 1
    have x0 := cell_of_block g2 0
    have x1 := cell_of_block g2 1
    have f0 := free_of_block g2 0
    have f1 := free_of_block g2 1
    simp only [List.getElem?_toArray, List.getElem?_cons_zero, List.getElem?_cons_succ] at y0 y1 z0 z1 x0 x1
    replace hb := below_trans' hb hb.size hb1
    clear hb1
    go_wp2_with fail
    refine (made36 (a - d) (b - c) w1).mono ?_
    rintro e w2 ⟨rfl, hb1⟩
    rw [← E1.out]
    clear y0 y1 z0 z1 x0 x1 f0 f1
    replace g0 := (hb1.block _ (lt_of_blk g0)).trans g0
    replace g1 := (hb1.block _ (lt_of_blk g1)).trans g1
    replace g2 := (hb1.block _ (lt_of_blk g2)).trans g2
    have y0 := cell_of_block g0 0
    have y1 := cell_of_block g0 1
    have z0 := cell_of_block g1 0
    have z1 := cell_of_block g1 1
    have x0 := cell_of_block g2 0
    have x1 := cell_of_block g2 1
    have f0 := free_of_block g2 0
    have f1 := free_of_block g2 1
    simp only [List.getElem?_toArray, List.getElem?_cons_zero, List.getElem?_cons_succ] at y0 y1 z0 z1 x0 x1
    replace hb := below_trans' hb hb.size hb1
    clear hb1
    cases hr : subI a b c d with
    | none =>
      rw [show resV none = .tuple #[.agg #[.int .i64 0, .int .i64 0], .bool false] from rfl]
      go_wp2_with fail
      have k := block_set (block_set g2 0 (.int .i64 (0))) 1 (.int .i64 (0))
      have t0 := cell_of_block k 0
      have t1 := cell_of_block k 1
      simp only [List.getElem?_toArray, List.getElem?_cons_zero, List.getElem?_cons_succ, List.setIfInBounds_toArray, List.set_cons_zero, List.set_cons_succ] at t0 t1
      exact bodyPost_ret (v := resV none) (by simp [results, Try.results26, go_sem, t0, t1, resV]) rfl ⟨by rw [hr], (hb.setCell hw2 _).setCell hw2 _⟩
    | some p =>
      obtain ⟨lo, hi⟩ := p
      rw [show resV (some (lo, hi)) = .tuple #[.agg #[.int .i64 lo, .int .i64 hi], .bool true] from rfl]
      go_wp2_with fail
      have k := block_set (block_set g2 0 (.int .i64 (lo))) 1 (.int .i64 (hi))
      have t0 := cell_of_block k 0
      have t1 := cell_of_block k 1
      simp only [List.getElem?_toArray, List.getElem?_cons_zero, List.getElem?_cons_succ, List.setIfInBounds_toArray, List.set_cons_zero, List.set_cons_succ] at t0 t1
      exact bodyPost_ret (v := resV (some (lo, hi))) (by simp [results, Try.results26, go_sem, t0, t1, resV]) rfl ⟨by rw [hr], (hb.setCell hw2 _).setCell hw2 _⟩

set_option maxHeartbeats 1000000 in
theorem meet29 (a b c d : Int) (w : World) : Calls Try.prog 29 #[.agg #[.int .i64 a, .int .i64 b], .agg #[.int .i64 c, .int .i64 d]] w fun e w' => e = .returned (resV (meetI a b c d)) ∧ Below w.heap.size w w' := by
  obtain ⟨hb, g0, g1, g2⟩ := allocs3 w (ivA a b) (ivA c d) #[.int .i64 0, .int .i64 0] 23 23 23
  unfold ivA at *
  have hw2 : w.heap.size ≤ w.heap.size + 1 + 1 := by omega
  cases h : (inI a b && inI c d) with
  | false =>
    have e1 : meetI a b c d = none := by rw [meetI, if_neg (by intro hh; rw [hh.1, hh.2] at h; cases h)]
    have E1 := Lib.hid e1
    clear e1
    cases ha : inI a b with
    | false =>
      go_enter Try.func29, Try.ntmps29
      go_wp2_with fail
      generalize (((w.alloc (.cells #[.int .i64 a, .int .i64 b] 23)).alloc (.cells #[.int .i64 c, .int .i64 d] 23)).alloc (.cells #[.int .i64 0, .int .i64 0] 23)) = W at *
      generalize w.heap.size + 1 + 1 = G2 at *
      generalize w.heap.size + 1 = G1 at *
      refine (valid16 a b W).mono ?_
      rintro e w1 ⟨rfl, hb1⟩
      rw [ha]
      replace g0 := (hb1.block _ (lt_of_blk g0)).trans g0
      replace g1 := (hb1.block _ (lt_of_blk g1)).trans g1
      replace g2 := (hb1.block _ (lt_of_blk g2)).trans g2
      have y0 := cell_of_block g0 0
      have y1 := cell_of_block g0 1
      have z0 := cell_of_block g1 0
      have z1 := cell_of_block g1 1
      have x0 := cell_of_block g2 0
      have x1 := cell_of_block g2 1
      have f0 := free_of_block g2 0
      have f1 := free_of_block g2 1
      simp only [List.getElem?_toArray, List.getElem?_cons_zero, List.getElem?_cons_succ] at y0 y1 z0 z1 x0 x1
      replace hb := below_trans' hb hb.size hb1
      clear hb1
      go_wp2_with fail
      have k := block_set (block_set g2 0 (.int .i64 0)) 1 (.int .i64 0)
      have t0 := cell_of_block k 0
      have t1 := cell_of_block k 1
      simp only [List.getElem?_toArray, List.getElem?_cons_zero, List.getElem?_cons_succ, List.setIfInBounds_toArray, List.set_cons_zero, List.set_cons_succ] at t0 t1
      exact bodyPost_ret (v := .tuple #[.agg #[.int .i64 0, .int .i64 0], .bool false]) (by simp [results, Try.results29, go_sem, t0, t1]) rfl ⟨by rw [E1.out]; rfl, (hb.setCell hw2 _).setCell hw2 _⟩
    | true =>
      have hc : inI c d = false := by rw [ha] at h; simpa using h
      go_enter Try.func29, Try.ntmps29
      go_wp2_with fail
      generalize (((w.alloc (.cells #[.int .i64 a, .int .i64 b] 23)).alloc (.cells #[.int .i64 c, .int .i64 d] 23)).alloc (.cells #[.int .i64 0, .int .i64 0] 23)) = W at *
      generalize w.heap.size + 1 + 1 = G2 at *
      generalize w.heap.size + 1 = G1 at *
      refine (valid16 a b W).mono ?_
      rintro e w1 ⟨rfl, hb1⟩
      rw [ha]
      replace g0 := (hb1.block _ (lt_of_blk g0)).trans g0
      replace g1 := (hb1.block _ (lt_of_blk g1)).trans g1
      replace g2 := (hb1.block _ (lt_of_blk g2)).trans g2
      have y0 := cell_of_block g0 0
      have y1 := cell_of_block g0 1
      have z0 := cell_of_block g1 0
      have z1 := cell_of_block g1 1
      have x0 := cell_of_block g2 0
      have x1 := cell_of_block g2 1
      have f0 := free_of_block g2 0
      have f1 := free_of_block g2 1
      simp only [List.getElem?_toArray, List.getElem?_cons_zero, List.getElem?_cons_succ] at y0 y1 z0 z1 x0 x1
      replace hb := below_trans' hb hb.size hb1
      clear hb1
      go_wp2_with fail
      refine (valid16 c d w1).mono ?_
      rintro e w2 ⟨rfl, hb1⟩
      rw [hc]
      clear y0 y1 z0 z1 x0 x1 f0 f1
      replace g0 := (hb1.block _ (lt_of_blk g0)).trans g0
      replace g1 := (hb1.block _ (lt_of_blk g1)).trans g1
      replace g2 := (hb1.block _ (lt_of_blk g2)).trans g2
      have y0 := cell_of_block g0 0
      have y1 := cell_of_block g0 1
      have z0 := cell_of_block g1 0
      have z1 := cell_of_block g1 1
      have x0 := cell_of_block g2 0
      have x1 := cell_of_block g2 1
      have f0 := free_of_block g2 0
      have f1 := free_of_block g2 1
      simp only [List.getElem?_toArray, List.getElem?_cons_zero, List.getElem?_cons_succ] at y0 y1 z0 z1 x0 x1
      replace hb := below_trans' hb hb.size hb1
      clear hb1
      go_wp2_with fail
      have k := block_set (block_set g2 0 (.int .i64 0)) 1 (.int .i64 0)
      have t0 := cell_of_block k 0
      have t1 := cell_of_block k 1
      simp only [List.getElem?_toArray, List.getElem?_cons_zero, List.getElem?_cons_succ, List.setIfInBounds_toArray, List.set_cons_zero, List.set_cons_succ] at t0 t1
      exact bodyPost_ret (v := .tuple #[.agg #[.int .i64 0, .int .i64 0], .bool false]) (by simp [results, Try.results29, go_sem, t0, t1]) rfl ⟨by rw [E1.out]; rfl, (hb.setCell hw2 _).setCell hw2 _⟩
  | true =>
    have h12 : inI a b = true ∧ inI c d = true := by simpa using h
    have hi1 := inI_iff.1 h12.1
    have hi2 := inI_iff.1 h12.2
    have e1 : meetI a b c d = mkI (max a c) (min b d) := by rw [meetI, if_pos h12]
    have E1 := Lib.hid e1
    clear e1
    have H12 := Lib.hid h12
    clear h12
    go_enter Try.func29, Try.ntmps29
    go_wp2_with fail
    generalize (((w.alloc (.cells #[.int .i64 a, .int .i64 b] 23)).alloc (.cells #[.int .i64 c, .int .i64 d] 23)).alloc (.cells #[.int .i64 0, .int .i64 0] 23)) = W at *
    generalize w.heap.size + 1 + 1 = G2 at *
    generalize w.heap.size + 1 = G1 at *
    refine (valid16 a b W).mono ?_
    rintro e w0 ⟨rfl, hb1⟩
    rw [H12.out.1]
    replace g0 := (hb1.block _ (lt_of_blk g0)).trans g0
    replace g1 := (hb1.block _ (lt_of_blk g1)).trans g1
    replace g2 := (hb1.block _ (lt_of_blk g2)).trans g2
    have y0 := cell_of_block g0 0
    have y1 := cell_of_block g0 1
    have z0 := cell_of_block g1 0
    have z1 := cell_of_block g1 1
    have x0 := cell_of_block g2 0
    have x1 := cell_of_block g2 1
    have f0 := free_of_block g2 0
    have f1 := free_of_block g2 1
    simp only [List.getElem?_toArray, List.getElem?_cons_zero, List.getElem?_cons_succ] at y0 y1 z0 z1 x0 x1
    replace hb := below_trans' hb hb.size hb1
    clear hb1
    go_wp2_with fail
    refine (valid16 c d w0).mono ?_
    rintro e w1 ⟨rfl, hb1⟩
    rw [H12.out.2]
    clear y0 y1 z0 z1 x0 x1 f0 f1
    replace g0 := (hb1.block _ (lt_of_blk g0)).trans g0
    replace g1 := (hb1.block _ (lt_of_blk g1)).trans g1
    replace g2 := (hb1.block _ (lt_of_blk g2)).trans g2
    have y0 := cell_of_block g0 0
    have y1 := cell_of_block g0 1
    have z0 := cell_of_block g1 0
    have z1 := cell_of_block g1 1
    have x0 := cell_of_block g2 0
    have x1 := cell_of_block g2 1
    have f0 := free_of_block g2 0
    have f1 := free_of_block g2 1
    simp only [List.getElem?_toArray, List.getElem?_cons_zero, List.getElem?_cons_succ] at y0 y1 z0 z1 x0 x1
    replace hb := below_trans' hb hb.size hb1
    clear hb1
    go_wp2_with fail
    refine (made36 (max a c) (min b d) w1).mono ?_
    rintro e w2 ⟨rfl, hb1⟩
    rw [← E1.out]
    clear y0 y1 z0 z1 x0 x1 f0 f1
    replace g0 := (hb1.block _ (lt_of_blk g0)).trans g0
    replace g1 := (hb1.block _ (lt_of_blk g1)).trans g1
    replace g2 := (hb1.block _ (lt_of_blk g2)).trans g2
    have y0 := cell_of_block g0 0
    have y1 := cell_of_block g0 1
    have z0 := cell_of_block g1 0
    have z1 := cell_of_block g1 1
    have x0 := cell_of_block g2 0
    have x1 := cell_of_block g2 1
    have f0 := free_of_block g2 0
    have f1 := free_of_block g2 1
    simp only [List.getElem?_toArray, List.getElem?_cons_zero, List.getElem?_cons_succ] at y0 y1 z0 z1 x0 x1
    replace hb := below_trans' hb hb.size hb1
    clear hb1
    cases hr : meetI a b c d with
    | none =>
      rw [show resV none = .tuple #[.agg #[.int .i64 0, .int .i64 0], .bool false] from rfl]
      go_wp2_with fail
      have k := block_set (block_set g2 0 (.int .i64 (0))) 1 (.int .i64 (0))
      have t0 := cell_of_block k 0
      have t1 := cell_of_block k 1
      simp only [List.getElem?_toArray, List.getElem?_cons_zero, List.getElem?_cons_succ, List.setIfInBounds_toArray, List.set_cons_zero, List.set_cons_succ] at t0 t1
      exact bodyPost_ret (v := resV none) (by simp [results, Try.results29, go_sem, t0, t1, resV]) rfl ⟨by rw [hr], (hb.setCell hw2 _).setCell hw2 _⟩
    | some p =>
      obtain ⟨lo, hi⟩ := p
      rw [show resV (some (lo, hi)) = .tuple #[.agg #[.int .i64 lo, .int .i64 hi], .bool true] from rfl]
      go_wp2_with fail
      have k := block_set (block_set g2 0 (.int .i64 (lo))) 1 (.int .i64 (hi))
      have t0 := cell_of_block k 0
      have t1 := cell_of_block k 1
      simp only [List.getElem?_toArray, List.getElem?_cons_zero, List.getElem?_cons_succ, List.setIfInBounds_toArray, List.set_cons_zero, List.set_cons_succ] at t0 t1
      exact bodyPost_ret (v := resV (some (lo, hi))) (by simp [results, Try.results29, go_sem, t0, t1, resV]) rfl ⟨by rw [hr], (hb.setCell hw2 _).setCell hw2 _⟩

set_option maxHeartbeats 1000000 in
theorem hull30 (a b c d : Int) (w : World) : Calls Try.prog 30 #[.agg #[.int .i64 a, .int .i64 b], .agg #[.int .i64 c, .int .i64 d]] w fun e w' => e = .returned (resV (hullI a b c d)) ∧ Below w.heap.size w w' := by
  obtain ⟨hb, g0, g1, g2⟩ := allocs3 w (ivA a b) (ivA c d) #[.int .i64 0, .int .i64 0] 23 23 23
  unfold ivA at *
  have hw2 : w.heap.size ≤ w.heap.size + 1 + 1 := by omega
  cases h : (inI a b && inI c d) with
  | false =>
    have e1 : hullI a b c d = none := by rw [hullI, if_neg (by intro hh; rw [hh.1, hh.2] at h; cases h)]
    have E1 := Lib.hid e1
    clear e1
    cases ha : inI a b with
    | false =>
      go_enter Try.func30, Try.ntmps30
      go_wp2_with fail
      generalize (((w.alloc (.cells #[.int .i64 a, .int .i64 b] 23)).alloc (.cells #[.int .i64 c, .int .i64 d] 23)).alloc (.cells #[.int .i64 0, .int .i64 0] 23)) = W at *
      generalize w.heap.size + 1 + 1 = G2 at *
      generalize w.heap.size + 1 = G1 at *
      refine (valid16 a b W).mono ?_
      rintro e w1 ⟨rfl, hb1⟩
      rw [ha]
      replace g0 := (hb1.block _ (lt_of_blk g0)).trans g0
      replace g1 := (hb1.block _ (lt_of_blk g1)).trans g1
      replace g2 := (hb1.block _ (lt_of_blk g2)).trans g2
      have y0 := cell_of_block g0 0
      have y1 := cell_of_block g0 1
      have z0 := cell_of_block g1 0
      have z1 := cell_of_block g1 1
      have x0 := cell_of_block g2 0
      have x1 := cell_of_block g2 1
      have f0 := free_of_block g2 0
      have f1 := free_of_block g2 1
      simp only [List.getElem?_toArray, List.getElem?_cons_zero, List.getElem?_cons_succ] at y0 y1 z0 z1 x0 x1
      replace hb := below_trans' hb hb.size hb1
      clear hb1
      go_wp2_with fail
      have k := block_set (block_set g2 0 (.int .i64 0)) 1 (.int .i64 0)
      have t0 := cell_of_block k 0
      have t1 := cell_of_block k 1
      simp only [List.getElem?_toArray, List.getElem?_cons_zero, List.getElem?_cons_succ, List.setIfInBounds_toArray, List.set_cons_zero, List.set_cons_succ] at t0 t1
      exact bodyPost_ret (v := .tuple #[.agg #[.int .i64 0, .int .i64 0], .bool false]) (by simp [results, Try.results30, go_sem, t0, t1]) rfl ⟨by rw [E1.out]; rfl, (hb.setCell hw2 _).setCell hw2 _⟩
    | true =>
      have hc : inI c d = false := by rw [ha] at h; simpa using h
      go_enter Try.func30, Try.ntmps30
      go_wp2_with fail
      generalize (((w.alloc (.cells #[.int .i64 a, .int .i64 b] 23)).alloc (.cells #[.int .i64 c, .int .i64 d] 23)).alloc (.cells #[.int .i64 0, .int .i64 0] 23)) = W at *
      generalize w.heap.size + 1 + 1 = G2 at *
      generalize w.heap.size + 1 = G1 at *
      refine (valid16 a b W).mono ?_
      rintro e w1 ⟨rfl, hb1⟩
      rw [ha]
      replace g0 := (hb1.block _ (lt_of_blk g0)).trans g0
      replace g1 := (hb1.block _ (lt_of_blk g1)).trans g1
      replace g2 := (hb1.block _ (lt_of_blk g2)).trans g2
      have y0 := cell_of_block g0 0
      have y1 := cell_of_block g0 1
      have z0 := cell_of_block g1 0
      have z1 := cell_of_block g1 1
      have x0 := cell_of_block g2 0
      have x1 := cell_of_block g2 1
      have f0 := free_of_block g2 0
      have f1 := free_of_block g2 1
      simp only [List.getElem?_toArray, List.getElem?_cons_zero, List.getElem?_cons_succ] at y0 y1 z0 z1 x0 x1
      replace hb := below_trans' hb hb.size hb1
      clear hb1
      go_wp2_with fail
      refine (valid16 c d w1).mono ?_
      rintro e w2 ⟨rfl, hb1⟩
      rw [hc]
      clear y0 y1 z0 z1 x0 x1 f0 f1
      replace g0 := (hb1.block _ (lt_of_blk g0)).trans g0
      replace g1 := (hb1.block _ (lt_of_blk g1)).trans g1
      replace g2 := (hb1.block _ (lt_of_blk g2)).trans g2
      have y0 := cell_of_block g0 0
      have y1 := cell_of_block g0 1
      have z0 := cell_of_block g1 0
      have z1 := cell_of_block g1 1
      have x0 := cell_of_block g2 0
      have x1 := cell_of_block g2 1
      have f0 := free_of_block g2 0
      have f1 := free_of_block g2 1
      simp only [List.getElem?_toArray, List.getElem?_cons_zero, List.getElem?_cons_succ] at y0 y1 z0 z1 x0 x1
      replace hb := below_trans' hb hb.size hb1
      clear hb1
      go_wp2_with fail
      have k := block_set (block_set g2 0 (.int .i64 0)) 1 (.int .i64 0)
      have t0 := cell_of_block k 0
      have t1 := cell_of_block k 1
      simp only [List.getElem?_toArray, List.getElem?_cons_zero, List.getElem?_cons_succ, List.setIfInBounds_toArray, List.set_cons_zero, List.set_cons_succ] at t0 t1
      exact bodyPost_ret (v := .tuple #[.agg #[.int .i64 0, .int .i64 0], .bool false]) (by simp [results, Try.results30, go_sem, t0, t1]) rfl ⟨by rw [E1.out]; rfl, (hb.setCell hw2 _).setCell hw2 _⟩
  | true =>
    have h12 : inI a b = true ∧ inI c d = true := by simpa using h
    have hi1 := inI_iff.1 h12.1
    have hi2 := inI_iff.1 h12.2
    have e1 : hullI a b c d = some (min a c, max b d) := by rw [hullI, if_pos h12]
    have E1 := Lib.hid e1
    clear e1
    have H12 := Lib.hid h12
    clear h12
    go_enter Try.func30, Try.ntmps30
    go_wp2_with fail
    generalize (((w.alloc (.cells #[.int .i64 a, .int .i64 b] 23)).alloc (.cells #[.int .i64 c, .int .i64 d] 23)).alloc (.cells #[.int .i64 0, .int .i64 0] 23)) = W at *
    generalize w.heap.size + 1 + 1 = G2 at *
    generalize w.heap.size + 1 = G1 at *
    refine (valid16 a b W).mono ?_
    rintro e w0 ⟨rfl, hb1⟩
    rw [H12.out.1]
    replace g0 := (hb1.block _ (lt_of_blk g0)).trans g0
    replace g1 := (hb1.block _ (lt_of_blk g1)).trans g1
    replace g2 := (hb1.block _ (lt_of_blk g2)).trans g2
    have y0 := cell_of_block g0 0
    have y1 := cell_of_block g0 1
    have z0 := cell_of_block g1 0
    have z1 := cell_of_block g1 1
    have x0 := cell_of_block g2 0
    have x1 := cell_of_block g2 1
    have f0 := free_of_block g2 0
    have f1 := free_of_block g2 1
    simp only [List.getElem?_toArray, List.getElem?_cons_zero, List.getElem?_cons_succ] at y0 y1 z0 z1 x0 x1
    replace hb := below_trans' hb hb.size hb1
    clear hb1
    go_wp2_with fail
    refine (valid16 c d w0).mono ?_
    rintro e w1 ⟨rfl, hb1⟩
    rw [H12.out.2]
    clear y0 y1 z0 z1 x0 x1 f0 f1
    replace g0 := (hb1.block _ (lt_of_blk g0)).trans g0
    replace g1 := (hb1.block _ (lt_of_blk g1)).trans g1
    replace g2 := (hb1.block _ (lt_of_blk g2)).trans g2
    have y0 := cell_of_block g0 0
    have y1 := cell_of_block g0 1
    have z0 := cell_of_block g1 0
    have z1 := cell_of_block g1 1
    have x0 := cell_of_block g2 0
    have x1 := cell_of_block g2 1
    have f0 := free_of_block g2 0
    have f1 := free_of_block g2 1
    simp only [List.getElem?_toArray, List.getElem?_cons_zero, List.getElem?_cons_succ] at y0 y1 z0 z1 x0 x1
    replace hb := below_trans' hb hb.size hb1
    clear hb1
    go_wp2_with fail
    have k := block_set (block_set g2 0 (.int .i64 (min a c))) 1 (.int .i64 (max b d))
    have t0 := cell_of_block k 0
    have t1 := cell_of_block k 1
    simp only [List.getElem?_toArray, List.getElem?_cons_zero, List.getElem?_cons_succ, List.setIfInBounds_toArray, List.set_cons_zero, List.set_cons_succ] at t0 t1
    exact bodyPost_ret (v := resV (some (min a c, max b d))) (by simp [results, Try.results30, go_sem, t0, t1, resV]) rfl ⟨by rw [E1.out], (hb.setCell hw2 _).setCell hw2 _⟩
end Go.Proofs.Ytpligjkbnlfhgaa
