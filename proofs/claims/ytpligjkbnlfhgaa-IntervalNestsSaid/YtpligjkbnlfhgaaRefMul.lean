/- Mul and Div of the reference. No statement is proved here. -/
import Derived.Test.YtpligjkbnlfhgaaLateB
import Derived.Deep.DeepCutAuto
namespace Go.Proofs.Ytpligjkbnlfhgaa
open Go.RowKit

theorem pair_cases (r : IR) : ∃ u v ok, pairV r = .tuple #[.int .i64 u, .int .i64 v, .bool ok] ∧ (ok = false ∧ r = none ∨ ok = true ∧ r = some (u, v)) := by
  cases r with
  | none => exact ⟨0, 0, false, rfl, .inl ⟨rfl, rfl⟩⟩
  | some r => obtain ⟨u, v⟩ := r; exact ⟨u, v, true, rfl, .inr ⟨rfl, rfl⟩⟩

set_option maxRecDepth 100000 in
set_option maxHeartbeats 16000000 in
theorem mul27 (a b c d : Int) (w : World) : Calls Try.prog 27 #[.agg #[.int .i64 a, .int .i64 b], .agg #[.int .i64 c, .int .i64 d]] w fun e w' => e = .returned (resV (mulI a b c d)) ∧ Below w.heap.size w w' := by
  obtain ⟨hbW, g0, g1, g2⟩ := allocs3 w (ivA a b) (ivA c d) #[.int .i64 0, .int .i64 0] 23 23 23
  unfold ivA at *
  have hw2 : w.heap.size ≤ w.heap.size + 1 + 1 := by omega
  obtain ⟨R, hR⟩ : ∃ R, mulI a b c d = R := ⟨_, rfl⟩
  rw [hR]
  have V1 := Lib.hid (valid16 a b)
  have V2 := Lib.hid (valid16 c d)
  have k0 := cells2i g0
  cases ha : inI a b with
  | false =>
    have e1 : R = none := by rw [← hR]; unfold mulI; rw [if_neg (by intro hh; rw [hh.1] at ha; cases ha)]
    subst e1
    rw [ha] at V1
    clear hR ha
    go_enter Try.func27, Try.ntmps27
    go_wp2_with fail
    generalize (((w.alloc (.cells #[.int .i64 a, .int .i64 b] 23)).alloc (.cells #[.int .i64 c, .int .i64 d] 23)).alloc (.cells #[.int .i64 0, .int .i64 0] 23)) = W at *
    refine (V1.out W).mono ?_
    rintro e w1 ⟨rfl, hb1⟩
    replace g0 := blk_below hb1 g0
    replace g1 := blk_below hb1 g1
    replace g2 := blk_below hb1 g2
    have x2 := cells2i g2
    have f2 := free_of_block g2
    obtain ⟨y0, y1⟩ := ret2i (A := 0) (B := 0) g2
    have hB := below_trans' hbW hbW.size hb1
    have hbe := below_sets2 hB hw2 (.int .i64 0) (.int .i64 0)
    clear hB hb1 hbW
    go_wp2_with fail
    exact bodyPost_ret (v := .tuple #[.agg #[.int .i64 0, .int .i64 0], .bool false]) (by simp [results, Try.results27, go_sem, y0, y1]) rfl ⟨rfl, hbe⟩
  | true =>
  rw [ha] at V1
  cases hc : inI c d with
  | false =>
    have e1 : R = none := by rw [← hR]; unfold mulI; rw [if_neg (by intro hh; rw [hh.2] at hc; cases hc)]
    subst e1
    rw [hc] at V2
    clear hR ha hc
    go_enter Try.func27, Try.ntmps27
    go_wp2_with fail
    generalize (((w.alloc (.cells #[.int .i64 a, .int .i64 b] 23)).alloc (.cells #[.int .i64 c, .int .i64 d] 23)).alloc (.cells #[.int .i64 0, .int .i64 0] 23)) = W at *
    refine (V1.out W).mono ?_
    rintro e w0 ⟨rfl, hb0⟩
    have k1 := cells2i (blk_below hb0 g1)
    clear k0
    go_wp2_with fail
    refine (V2.out w0).mono ?_
    rintro e w1 ⟨rfl, hb2⟩
    have hb1 := below_trans' hb0 hb0.size hb2
    clear hb0 hb2 k1
    replace g0 := blk_below hb1 g0
    replace g1 := blk_below hb1 g1
    replace g2 := blk_below hb1 g2
    have x2 := cells2i g2
    have f2 := free_of_block g2
    obtain ⟨y0, y1⟩ := ret2i (A := 0) (B := 0) g2
    have hB := below_trans' hbW hbW.size hb1
    have hbe := below_sets2 hB hw2 (.int .i64 0) (.int .i64 0)
    clear hB hb1 hbW
    go_wp2_with fail
    exact bodyPost_ret (v := .tuple #[.agg #[.int .i64 0, .int .i64 0], .bool false]) (by simp [results, Try.results27, go_sem, y0, y1]) rfl ⟨rfl, hbe⟩
  | true =>
    rw [hc] at V2
    have hi1 := inI_iff.1 ha
    have hi2 := inI_iff.1 hc
    have hR' : hull4 2305843009213693952 (-2305843009213693952) [fitI (prodI a c), fitI (prodI a d), fitI (prodI b c), fitI (prodI b d)] = R := by rw [← hR]; unfold mulI; rw [if_pos ⟨ha, hc⟩]; rfl
    have P0 := fun w => product37 a c w (by omega) (by omega)
    have P1 := fun w => product37 a d w (by omega) (by omega)
    have P2 := fun w => product37 b c w (by omega) (by omega)
    have P3 := fun w => product37 b d w (by omega) (by omega)
    generalize fitI (prodI a c) = r0 at *
    generalize fitI (prodI a d) = r1 at *
    generalize fitI (prodI b c) = r2 at *
    generalize fitI (prodI b d) = r3 at *
    have C0 := Lib.hid P0
    have C1 := Lib.hid P1
    have C2 := Lib.hid P2
    have C3 := Lib.hid P3
    have HR := Lib.hid hR'
    clear hR hR' P0 P1 P2 P3 ha hc hi1 hi2
    go_enter Try.func27, Try.ntmps27
    go_wp2_with fail
    generalize (((w.alloc (.cells #[.int .i64 a, .int .i64 b] 23)).alloc (.cells #[.int .i64 c, .int .i64 d] 23)).alloc (.cells #[.int .i64 0, .int .i64 0] 23)) = W at *
    refine (V1.out W).mono ?_
    rintro e w0 ⟨rfl, hb0⟩
    have k1 := cells2i (blk_below hb0 g1)
    clear k0
    go_wp2_with fail
    refine (V2.out w0).mono ?_
    rintro e w1 ⟨rfl, hb2⟩
    have hb1 := below_trans' hb0 hb0.size hb2
    clear hb0 hb2 k1
    have hB := below_trans' hbW hbW.size hb1
    replace g0 := blk_below hb1 g0
    replace g1 := blk_below hb1 g1
    replace g2 := blk_below hb1 g2
    clear hb1 hbW
    go_upto_region 4 with fail
    generalize w1 = wb at *
    go_wp2_with fail
    go_loopg [6, 7, 8, 9, 10, 11] 5 (fun m lo hi i _ _ _ wr => ∃ (k : Nat) (p q : Int), k ≤ 4 ∧ m = 5 - k ∧ i = .int .i64 k ∧ lo = .int .i64 p ∧ hi = .int .i64 q ∧ Hid (hull4 p q ([r0, r1, r2, r3].drop k) = R) ∧ Below wb.heap.size wb wr)
    case atStart => exact ⟨0, _, _, by omega, rfl, rfl, rfl, rfl, Lib.hid HR.out, Below.refl _ _⟩
    case round =>
    obtain ⟨k, p, q, hk, hm, rfl, rfl, rfl, hgood, hbx⟩ := hrel
    have HM := Lib.hid hm
    clear hm
    have G2 := blk_below hbx g2
    by_cases hk4 : k < 4
    · have hk4I : (k : Int) < 4 := by omega
      have y0 := (cells2i (blk_below hbx g0)).1
      have y1 := (cells2i (blk_below hbx g0)).2
      have z0 := (cells2i (blk_below hbx g1)).1
      have z1 := (cells2i (blk_below hbx g1)).2
      have hl0 := lt_of_blk (blk_below hbx g0)
      have hl1 := lt_of_blk (blk_below hbx g1)
      have hl2 := lt_of_blk G2
      have hsz := hbx.size
      have H2 : Hid (∀ w' : World, Below wr.heap.size wr w' → w'.heap[w.heap.size + 1 + 1]? = some (.cells #[.int .i64 0, .int .i64 0] 23 (0, 0)) ∧ Below wb.heap.size wb w') := Lib.hid fun w' h => ⟨blk_below h G2, below_trans' hbx hbx.size h⟩
      go_upto_region 7 with fail
      rcases (by omega : k = 0 ∨ k = 1 ∨ k = 2 ∨ k = 3) with rfl | rfl | rfl | rfl
      · obtain ⟨u, v, ok, hpv, hcs⟩ := pair_cases r0
        have D0 := C0.out
        rw [hpv] at D0
        have D := Lib.hid D0
        have HCS := Lib.hid hcs
        clear D0 hpv hcs G2 hbx
        have hzz : ∀ x : Beh LeW wr.drew, Below wr.heap.size wr x.w := fun x => below_trans' ((Below.refl _ _).drew) (Nat.le_refl _) x.h
        have u0 : ∀ x : Beh LeW wr.drew, x.w.cell? ⟨w.heap.size, 0, none⟩ = some (.int .i64 a) := fun x => (Below.cell (p := ⟨w.heap.size, 0, none⟩) (hzz x) hl0).trans y0
        have u1 : ∀ x : Beh LeW wr.drew, x.w.cell? ⟨w.heap.size, 1, none⟩ = some (.int .i64 b) := fun x => (Below.cell (p := ⟨w.heap.size, 1, none⟩) (hzz x) hl0).trans y1
        have v0 : ∀ x : Beh LeW wr.drew, x.w.cell? ⟨w.heap.size + 1, 0, none⟩ = some (.int .i64 c) := fun x => (Below.cell (p := ⟨w.heap.size + 1, 0, none⟩) (hzz x) hl1).trans z0
        have v1 : ∀ x : Beh LeW wr.drew, x.w.cell? ⟨w.heap.size + 1, 1, none⟩ = some (.int .i64 d) := fun x => (Below.cell (p := ⟨w.heap.size + 1, 1, none⟩) (hzz x) hl1).trans z1
        have HZZ := Lib.hid hzz
        clear y0 y1 z0 z1 hzz
        refine wp_region_loose (R := LeW) 23 60 [21, 22] [(4, [], some (freshS 0 #[.int .i64 a, .int .i64 b] 3 2)), (7, [30], some (ptrS #[.int .i64 a, .int .i64 b] 3 0)), (8, [33], none), (13, [], some (freshS 0 #[.int .i64 c, .int .i64 d] 3 2)), (16, [39], some (ptrS #[.int .i64 c, .int .i64 d] 3 0)), (17, [42], none), (18, [], none)] (by kernel_rfl) (by kernel_rfl) (by kernel_rfl) (by kernel_rfl) (fun _ _ _ _ _ _ h => h) rfl LeW.refl (fun _ _ _ => LeW.trans) ?_
        simp only [Late, List.take_succ_cons, List.drop_succ_cons, List.take_zero, List.drop_zero, Nat.reduceSub, Nat.reduceAdd, Nat.sub_zero]
        repeat (go_big_quiet_step (fail))
        refine wpQuiet_nil ?_
        refine late_buildR (fun w => by kernel_rfl) (fun z => (Below.refl _ _).alloc (Nat.le_refl _) _) (freshS_mono _ _ _ _) (fun _ => Nat.zero_le _) (by simp only [Act.put, List.setIfInBounds_toArray, List.set_cons_succ, List.set_cons_zero]; rfl) ?_
        repeat (go_big_quiet_step (fail))
        refine wpQuiet_nil ?_
        refine late_index [] (by simp) LeW.refl (ptrS_mono _ _ _) (fun v g w h => by subst h; simp [execOp, Act.put, go_sem]) (by simp only [Act.put, List.setIfInBounds_toArray, List.set_cons_succ, List.set_cons_zero]; rfl) ?_
        refine wpQuiet_nil ?_
        refine late_load [_] (by simp) LeW.refl (by rfl) (fun v g w h h2 => by subst h; simp [execOp, go_sem, h2]) (by simp only [Act.put, List.setIfInBounds_toArray, List.set_cons_succ, List.set_cons_zero]; rfl) ?_
        repeat (go_big_quiet_step (fail))
        refine wpQuiet_nil ?_
        refine late_buildR (fun w => by kernel_rfl) (fun z => (Below.refl _ _).alloc (Nat.le_refl _) _) (freshS_mono _ _ _ _) (fun _ => Nat.zero_le _) (by simp only [Act.put, List.setIfInBounds_toArray, List.set_cons_succ, List.set_cons_zero]; rfl) ?_
        repeat (go_big_quiet_step (fail))
        refine wpQuiet_nil ?_
        refine late_index [_, _] (by simp) LeW.refl (ptrS_mono _ _ _) (fun v g w h => by subst h; simp [execOp, Act.put, go_sem]) (by simp only [Act.put, List.setIfInBounds_toArray, List.set_cons_succ, List.set_cons_zero]; rfl) ?_
        refine wpQuiet_nil ?_
        refine late_load [_, _, _] (by simp) LeW.refl (by rfl) (fun v g w h h2 => by subst h; simp [execOp, go_sem, h2]) (by simp only [Act.put, List.setIfInBounds_toArray, List.set_cons_succ, List.set_cons_zero]; rfl) ?_
        refine wpQuiet_nil ?_
        refine late_call Try.func37 (by kernel_rfl) (by kernel_rfl) (fun x => (D.out x.w).mono fun e w' ⟨h1, h2⟩ => ⟨h1, h2 ▸ LeW.refl _⟩) rfl (by simp only [Act.put, List.setIfInBounds_toArray, List.set_cons_succ, List.set_cons_zero]; rfl) ?_
        repeat (go_big_quiet_step (fail))
        refine wpQuiet_nil ?_
        intro x
        simp only [List.nil_append, List.cons_append, allGens]
        rintro p0 _ p1 _ p2 _ p3 _
        simp only [Act.put, List.setIfInBounds_toArray, List.set_cons_succ, List.set_cons_zero]
        obtain ⟨G2', hbx'⟩ := H2.out _ (HZZ.out x)
        generalize x.w = wn at *
        clear u0 u1 v0 v1
        rcases HCS.out with ⟨rfl, hr⟩ | ⟨rfl, hr⟩
        · have HR1 : Hid (R = none) := Lib.hid (by rw [← hgood.out, hr]; rfl)
          have x2 := cells2i G2'
          have f2 := free_of_block G2'
          obtain ⟨y0, y1⟩ := ret2i (A := 0) (B := 0) G2'
          have hbe := below_sets2 (below_trans' hB hB.size hbx') hw2 (.int .i64 0) (.int .i64 0)
          clear hB hbx' G2' g0 g1 g2 hr
          go_wp2_with fail
          exact bodyPost_ret (v := .tuple #[.agg #[.int .i64 0, .int .i64 0], .bool false]) (by simp [results, Try.results27, go_sem, y0, y1]) rfl ⟨by rw [HR1.out]; rfl, hbe⟩
        · have HR1 : Hid (hull4 (min p u) (max q v) ([r0, r1, r2, r3].drop 1) = R) := Lib.hid (by rw [← hgood.out, hr]; rfl)
          clear G2' hr
          go_wp2_with fail
          go_roundg (5 - (0 + 1))
          case measure => have := HM.out; omega
          case rel => exact ⟨0 + 1, _, _, by omega, rfl, by go_num, rfl, rfl, Lib.hid HR1.out, hbx'⟩
      · obtain ⟨u, v, ok, hpv, hcs⟩ := pair_cases r1
        have D0 := C1.out
        rw [hpv] at D0
        have D := Lib.hid D0
        have HCS := Lib.hid hcs
        clear D0 hpv hcs G2 hbx
        have hzz : ∀ x : Beh LeW wr.drew, Below wr.heap.size wr x.w := fun x => below_trans' ((Below.refl _ _).drew) (Nat.le_refl _) x.h
        have u0 : ∀ x : Beh LeW wr.drew, x.w.cell? ⟨w.heap.size, 0, none⟩ = some (.int .i64 a) := fun x => (Below.cell (p := ⟨w.heap.size, 0, none⟩) (hzz x) hl0).trans y0
        have u1 : ∀ x : Beh LeW wr.drew, x.w.cell? ⟨w.heap.size, 1, none⟩ = some (.int .i64 b) := fun x => (Below.cell (p := ⟨w.heap.size, 1, none⟩) (hzz x) hl0).trans y1
        have v0 : ∀ x : Beh LeW wr.drew, x.w.cell? ⟨w.heap.size + 1, 0, none⟩ = some (.int .i64 c) := fun x => (Below.cell (p := ⟨w.heap.size + 1, 0, none⟩) (hzz x) hl1).trans z0
        have v1 : ∀ x : Beh LeW wr.drew, x.w.cell? ⟨w.heap.size + 1, 1, none⟩ = some (.int .i64 d) := fun x => (Below.cell (p := ⟨w.heap.size + 1, 1, none⟩) (hzz x) hl1).trans z1
        have HZZ := Lib.hid hzz
        clear y0 y1 z0 z1 hzz
        refine wp_region_loose (R := LeW) 23 60 [21, 22] [(4, [], some (freshS 0 #[.int .i64 a, .int .i64 b] 3 2)), (7, [30], some (ptrS #[.int .i64 a, .int .i64 b] 3 0)), (8, [33], none), (13, [], some (freshS 0 #[.int .i64 c, .int .i64 d] 3 2)), (16, [39], some (ptrS #[.int .i64 c, .int .i64 d] 3 1)), (17, [42], none), (18, [], none)] (by kernel_rfl) (by kernel_rfl) (by kernel_rfl) (by kernel_rfl) (fun _ _ _ _ _ _ h => h) rfl LeW.refl (fun _ _ _ => LeW.trans) ?_
        simp only [Late, List.take_succ_cons, List.drop_succ_cons, List.take_zero, List.drop_zero, Nat.reduceSub, Nat.reduceAdd, Nat.sub_zero]
        repeat (go_big_quiet_step (fail))
        refine wpQuiet_nil ?_
        refine late_buildR (fun w => by kernel_rfl) (fun z => (Below.refl _ _).alloc (Nat.le_refl _) _) (freshS_mono _ _ _ _) (fun _ => Nat.zero_le _) (by simp only [Act.put, List.setIfInBounds_toArray, List.set_cons_succ, List.set_cons_zero]; rfl) ?_
        repeat (go_big_quiet_step (fail))
        refine wpQuiet_nil ?_
        refine late_index [] (by simp) LeW.refl (ptrS_mono _ _ _) (fun v g w h => by subst h; simp [execOp, Act.put, go_sem]) (by simp only [Act.put, List.setIfInBounds_toArray, List.set_cons_succ, List.set_cons_zero]; rfl) ?_
        refine wpQuiet_nil ?_
        refine late_load [_] (by simp) LeW.refl (by rfl) (fun v g w h h2 => by subst h; simp [execOp, go_sem, h2]) (by simp only [Act.put, List.setIfInBounds_toArray, List.set_cons_succ, List.set_cons_zero]; rfl) ?_
        repeat (go_big_quiet_step (fail))
        refine wpQuiet_nil ?_
        refine late_buildR (fun w => by kernel_rfl) (fun z => (Below.refl _ _).alloc (Nat.le_refl _) _) (freshS_mono _ _ _ _) (fun _ => Nat.zero_le _) (by simp only [Act.put, List.setIfInBounds_toArray, List.set_cons_succ, List.set_cons_zero]; rfl) ?_
        repeat (go_big_quiet_step (fail))
        refine wpQuiet_nil ?_
        refine late_index [_, _] (by simp) LeW.refl (ptrS_mono _ _ _) (fun v g w h => by subst h; simp [execOp, Act.put, go_sem]) (by simp only [Act.put, List.setIfInBounds_toArray, List.set_cons_succ, List.set_cons_zero]; rfl) ?_
        refine wpQuiet_nil ?_
        refine late_load [_, _, _] (by simp) LeW.refl (by rfl) (fun v g w h h2 => by subst h; simp [execOp, go_sem, h2]) (by simp only [Act.put, List.setIfInBounds_toArray, List.set_cons_succ, List.set_cons_zero]; rfl) ?_
        refine wpQuiet_nil ?_
        refine late_call Try.func37 (by kernel_rfl) (by kernel_rfl) (fun x => (D.out x.w).mono fun e w' ⟨h1, h2⟩ => ⟨h1, h2 ▸ LeW.refl _⟩) rfl (by simp only [Act.put, List.setIfInBounds_toArray, List.set_cons_succ, List.set_cons_zero]; rfl) ?_
        repeat (go_big_quiet_step (fail))
        refine wpQuiet_nil ?_
        intro x
        simp only [List.nil_append, List.cons_append, allGens]
        rintro p0 _ p1 _ p2 _ p3 _
        simp only [Act.put, List.setIfInBounds_toArray, List.set_cons_succ, List.set_cons_zero]
        obtain ⟨G2', hbx'⟩ := H2.out _ (HZZ.out x)
        generalize x.w = wn at *
        clear u0 u1 v0 v1
        rcases HCS.out with ⟨rfl, hr⟩ | ⟨rfl, hr⟩
        · have HR1 : Hid (R = none) := Lib.hid (by rw [← hgood.out, hr]; rfl)
          have x2 := cells2i G2'
          have f2 := free_of_block G2'
          obtain ⟨y0, y1⟩ := ret2i (A := 0) (B := 0) G2'
          have hbe := below_sets2 (below_trans' hB hB.size hbx') hw2 (.int .i64 0) (.int .i64 0)
          clear hB hbx' G2' g0 g1 g2 hr
          go_wp2_with fail
          exact bodyPost_ret (v := .tuple #[.agg #[.int .i64 0, .int .i64 0], .bool false]) (by simp [results, Try.results27, go_sem, y0, y1]) rfl ⟨by rw [HR1.out]; rfl, hbe⟩
        · have HR1 : Hid (hull4 (min p u) (max q v) ([r0, r1, r2, r3].drop 2) = R) := Lib.hid (by rw [← hgood.out, hr]; rfl)
          clear G2' hr
          go_wp2_with fail
          go_roundg (5 - (1 + 1))
          case measure => have := HM.out; omega
          case rel => exact ⟨1 + 1, _, _, by omega, rfl, by go_num, rfl, rfl, Lib.hid HR1.out, hbx'⟩
      · obtain ⟨u, v, ok, hpv, hcs⟩ := pair_cases r2
        have D0 := C2.out
        rw [hpv] at D0
        have D := Lib.hid D0
        have HCS := Lib.hid hcs
        clear D0 hpv hcs G2 hbx
        have hzz : ∀ x : Beh LeW wr.drew, Below wr.heap.size wr x.w := fun x => below_trans' ((Below.refl _ _).drew) (Nat.le_refl _) x.h
        have u0 : ∀ x : Beh LeW wr.drew, x.w.cell? ⟨w.heap.size, 0, none⟩ = some (.int .i64 a) := fun x => (Below.cell (p := ⟨w.heap.size, 0, none⟩) (hzz x) hl0).trans y0
        have u1 : ∀ x : Beh LeW wr.drew, x.w.cell? ⟨w.heap.size, 1, none⟩ = some (.int .i64 b) := fun x => (Below.cell (p := ⟨w.heap.size, 1, none⟩) (hzz x) hl0).trans y1
        have v0 : ∀ x : Beh LeW wr.drew, x.w.cell? ⟨w.heap.size + 1, 0, none⟩ = some (.int .i64 c) := fun x => (Below.cell (p := ⟨w.heap.size + 1, 0, none⟩) (hzz x) hl1).trans z0
        have v1 : ∀ x : Beh LeW wr.drew, x.w.cell? ⟨w.heap.size + 1, 1, none⟩ = some (.int .i64 d) := fun x => (Below.cell (p := ⟨w.heap.size + 1, 1, none⟩) (hzz x) hl1).trans z1
        have HZZ := Lib.hid hzz
        clear y0 y1 z0 z1 hzz
        refine wp_region_loose (R := LeW) 23 60 [21, 22] [(4, [], some (freshS 0 #[.int .i64 a, .int .i64 b] 3 2)), (7, [30], some (ptrS #[.int .i64 a, .int .i64 b] 3 1)), (8, [33], none), (13, [], some (freshS 0 #[.int .i64 c, .int .i64 d] 3 2)), (16, [39], some (ptrS #[.int .i64 c, .int .i64 d] 3 0)), (17, [42], none), (18, [], none)] (by kernel_rfl) (by kernel_rfl) (by kernel_rfl) (by kernel_rfl) (fun _ _ _ _ _ _ h => h) rfl LeW.refl (fun _ _ _ => LeW.trans) ?_
        simp only [Late, List.take_succ_cons, List.drop_succ_cons, List.take_zero, List.drop_zero, Nat.reduceSub, Nat.reduceAdd, Nat.sub_zero]
        repeat (go_big_quiet_step (fail))
        refine wpQuiet_nil ?_
        refine late_buildR (fun w => by kernel_rfl) (fun z => (Below.refl _ _).alloc (Nat.le_refl _) _) (freshS_mono _ _ _ _) (fun _ => Nat.zero_le _) (by simp only [Act.put, List.setIfInBounds_toArray, List.set_cons_succ, List.set_cons_zero]; rfl) ?_
        repeat (go_big_quiet_step (fail))
        refine wpQuiet_nil ?_
        refine late_index [] (by simp) LeW.refl (ptrS_mono _ _ _) (fun v g w h => by subst h; simp [execOp, Act.put, go_sem]) (by simp only [Act.put, List.setIfInBounds_toArray, List.set_cons_succ, List.set_cons_zero]; rfl) ?_
        refine wpQuiet_nil ?_
        refine late_load [_] (by simp) LeW.refl (by rfl) (fun v g w h h2 => by subst h; simp [execOp, go_sem, h2]) (by simp only [Act.put, List.setIfInBounds_toArray, List.set_cons_succ, List.set_cons_zero]; rfl) ?_
        repeat (go_big_quiet_step (fail))
        refine wpQuiet_nil ?_
        refine late_buildR (fun w => by kernel_rfl) (fun z => (Below.refl _ _).alloc (Nat.le_refl _) _) (freshS_mono _ _ _ _) (fun _ => Nat.zero_le _) (by simp only [Act.put, List.setIfInBounds_toArray, List.set_cons_succ, List.set_cons_zero]; rfl) ?_
        repeat (go_big_quiet_step (fail))
        refine wpQuiet_nil ?_
        refine late_index [_, _] (by simp) LeW.refl (ptrS_mono _ _ _) (fun v g w h => by subst h; simp [execOp, Act.put, go_sem]) (by simp only [Act.put, List.setIfInBounds_toArray, List.set_cons_succ, List.set_cons_zero]; rfl) ?_
        refine wpQuiet_nil ?_
        refine late_load [_, _, _] (by simp) LeW.refl (by rfl) (fun v g w h h2 => by subst h; simp [execOp, go_sem, h2]) (by simp only [Act.put, List.setIfInBounds_toArray, List.set_cons_succ, List.set_cons_zero]; rfl) ?_
        refine wpQuiet_nil ?_
        refine late_call Try.func37 (by kernel_rfl) (by kernel_rfl) (fun x => (D.out x.w).mono fun e w' ⟨h1, h2⟩ => ⟨h1, h2 ▸ LeW.refl _⟩) rfl (by simp only [Act.put, List.setIfInBounds_toArray, List.set_cons_succ, List.set_cons_zero]; rfl) ?_
        repeat (go_big_quiet_step (fail))
        refine wpQuiet_nil ?_
        intro x
        simp only [List.nil_append, List.cons_append, allGens]
        rintro p0 _ p1 _ p2 _ p3 _
        simp only [Act.put, List.setIfInBounds_toArray, List.set_cons_succ, List.set_cons_zero]
        obtain ⟨G2', hbx'⟩ := H2.out _ (HZZ.out x)
        generalize x.w = wn at *
        clear u0 u1 v0 v1
        rcases HCS.out with ⟨rfl, hr⟩ | ⟨rfl, hr⟩
        · have HR1 : Hid (R = none) := Lib.hid (by rw [← hgood.out, hr]; rfl)
          have x2 := cells2i G2'
          have f2 := free_of_block G2'
          obtain ⟨y0, y1⟩ := ret2i (A := 0) (B := 0) G2'
          have hbe := below_sets2 (below_trans' hB hB.size hbx') hw2 (.int .i64 0) (.int .i64 0)
          clear hB hbx' G2' g0 g1 g2 hr
          go_wp2_with fail
          exact bodyPost_ret (v := .tuple #[.agg #[.int .i64 0, .int .i64 0], .bool false]) (by simp [results, Try.results27, go_sem, y0, y1]) rfl ⟨by rw [HR1.out]; rfl, hbe⟩
        · have HR1 : Hid (hull4 (min p u) (max q v) ([r0, r1, r2, r3].drop 3) = R) := Lib.hid (by rw [← hgood.out, hr]; rfl)
          clear G2' hr
          go_wp2_with fail
          go_roundg (5 - (2 + 1))
          case measure => have := HM.out; omega
          case rel => exact ⟨2 + 1, _, _, by omega, rfl, by go_num, rfl, rfl, Lib.hid HR1.out, hbx'⟩
      · obtain ⟨u, v, ok, hpv, hcs⟩ := pair_cases r3
        have D0 := C3.out
        rw [hpv] at D0
        have D := Lib.hid D0
        have HCS := Lib.hid hcs
        clear D0 hpv hcs G2 hbx
        have hzz : ∀ x : Beh LeW wr.drew, Below wr.heap.size wr x.w := fun x => below_trans' ((Below.refl _ _).drew) (Nat.le_refl _) x.h
        have u0 : ∀ x : Beh LeW wr.drew, x.w.cell? ⟨w.heap.size, 0, none⟩ = some (.int .i64 a) := fun x => (Below.cell (p := ⟨w.heap.size, 0, none⟩) (hzz x) hl0).trans y0
        have u1 : ∀ x : Beh LeW wr.drew, x.w.cell? ⟨w.heap.size, 1, none⟩ = some (.int .i64 b) := fun x => (Below.cell (p := ⟨w.heap.size, 1, none⟩) (hzz x) hl0).trans y1
        have v0 : ∀ x : Beh LeW wr.drew, x.w.cell? ⟨w.heap.size + 1, 0, none⟩ = some (.int .i64 c) := fun x => (Below.cell (p := ⟨w.heap.size + 1, 0, none⟩) (hzz x) hl1).trans z0
        have v1 : ∀ x : Beh LeW wr.drew, x.w.cell? ⟨w.heap.size + 1, 1, none⟩ = some (.int .i64 d) := fun x => (Below.cell (p := ⟨w.heap.size + 1, 1, none⟩) (hzz x) hl1).trans z1
        have HZZ := Lib.hid hzz
        clear y0 y1 z0 z1 hzz
        refine wp_region_loose (R := LeW) 23 60 [21, 22] [(4, [], some (freshS 0 #[.int .i64 a, .int .i64 b] 3 2)), (7, [30], some (ptrS #[.int .i64 a, .int .i64 b] 3 1)), (8, [33], none), (13, [], some (freshS 0 #[.int .i64 c, .int .i64 d] 3 2)), (16, [39], some (ptrS #[.int .i64 c, .int .i64 d] 3 1)), (17, [42], none), (18, [], none)] (by kernel_rfl) (by kernel_rfl) (by kernel_rfl) (by kernel_rfl) (fun _ _ _ _ _ _ h => h) rfl LeW.refl (fun _ _ _ => LeW.trans) ?_
        simp only [Late, List.take_succ_cons, List.drop_succ_cons, List.take_zero, List.drop_zero, Nat.reduceSub, Nat.reduceAdd, Nat.sub_zero]
        repeat (go_big_quiet_step (fail))
        refine wpQuiet_nil ?_
        refine late_buildR (fun w => by kernel_rfl) (fun z => (Below.refl _ _).alloc (Nat.le_refl _) _) (freshS_mono _ _ _ _) (fun _ => Nat.zero_le _) (by simp only [Act.put, List.setIfInBounds_toArray, List.set_cons_succ, List.set_cons_zero]; rfl) ?_
        repeat (go_big_quiet_step (fail))
        refine wpQuiet_nil ?_
        refine late_index [] (by simp) LeW.refl (ptrS_mono _ _ _) (fun v g w h => by subst h; simp [execOp, Act.put, go_sem]) (by simp only [Act.put, List.setIfInBounds_toArray, List.set_cons_succ, List.set_cons_zero]; rfl) ?_
        refine wpQuiet_nil ?_
        refine late_load [_] (by simp) LeW.refl (by rfl) (fun v g w h h2 => by subst h; simp [execOp, go_sem, h2]) (by simp only [Act.put, List.setIfInBounds_toArray, List.set_cons_succ, List.set_cons_zero]; rfl) ?_
        repeat (go_big_quiet_step (fail))
        refine wpQuiet_nil ?_
        refine late_buildR (fun w => by kernel_rfl) (fun z => (Below.refl _ _).alloc (Nat.le_refl _) _) (freshS_mono _ _ _ _) (fun _ => Nat.zero_le _) (by simp only [Act.put, List.setIfInBounds_toArray, List.set_cons_succ, List.set_cons_zero]; rfl) ?_
        repeat (go_big_quiet_step (fail))
        refine wpQuiet_nil ?_
        refine late_index [_, _] (by simp) LeW.refl (ptrS_mono _ _ _) (fun v g w h => by subst h; simp [execOp, Act.put, go_sem]) (by simp only [Act.put, List.setIfInBounds_toArray, List.set_cons_succ, List.set_cons_zero]; rfl) ?_
        refine wpQuiet_nil ?_
        refine late_load [_, _, _] (by simp) LeW.refl (by rfl) (fun v g w h h2 => by subst h; simp [execOp, go_sem, h2]) (by simp only [Act.put, List.setIfInBounds_toArray, List.set_cons_succ, List.set_cons_zero]; rfl) ?_
        refine wpQuiet_nil ?_
        refine late_call Try.func37 (by kernel_rfl) (by kernel_rfl) (fun x => (D.out x.w).mono fun e w' ⟨h1, h2⟩ => ⟨h1, h2 ▸ LeW.refl _⟩) rfl (by simp only [Act.put, List.setIfInBounds_toArray, List.set_cons_succ, List.set_cons_zero]; rfl) ?_
        repeat (go_big_quiet_step (fail))
        refine wpQuiet_nil ?_
        intro x
        simp only [List.nil_append, List.cons_append, allGens]
        rintro p0 _ p1 _ p2 _ p3 _
        simp only [Act.put, List.setIfInBounds_toArray, List.set_cons_succ, List.set_cons_zero]
        obtain ⟨G2', hbx'⟩ := H2.out _ (HZZ.out x)
        generalize x.w = wn at *
        clear u0 u1 v0 v1
        rcases HCS.out with ⟨rfl, hr⟩ | ⟨rfl, hr⟩
        · have HR1 : Hid (R = none) := Lib.hid (by rw [← hgood.out, hr]; rfl)
          have x2 := cells2i G2'
          have f2 := free_of_block G2'
          obtain ⟨y0, y1⟩ := ret2i (A := 0) (B := 0) G2'
          have hbe := below_sets2 (below_trans' hB hB.size hbx') hw2 (.int .i64 0) (.int .i64 0)
          clear hB hbx' G2' g0 g1 g2 hr
          go_wp2_with fail
          exact bodyPost_ret (v := .tuple #[.agg #[.int .i64 0, .int .i64 0], .bool false]) (by simp [results, Try.results27, go_sem, y0, y1]) rfl ⟨by rw [HR1.out]; rfl, hbe⟩
        · have HR1 : Hid (hull4 (min p u) (max q v) ([r0, r1, r2, r3].drop 4) = R) := Lib.hid (by rw [← hgood.out, hr]; rfl)
          clear G2' hr
          go_wp2_with fail
          go_roundg (5 - (3 + 1))
          case measure => have := HM.out; omega
          case rel => exact ⟨3 + 1, _, _, by omega, rfl, by go_num, rfl, rfl, Lib.hid HR1.out, hbx'⟩
    · have hk' : k = 4 := by omega
      subst hk'
      have hR1 : R = some (p, q) := hgood.out.symm
      have HR1 := Lib.hid hR1
      have hk4I : ¬ ((4 : Nat) : Int) < 4 := by omega
      have x2 := cells2i G2
      have f2 := free_of_block G2
      obtain ⟨y0, y1⟩ := ret2i (A := p) (B := q) G2
      have hbe := below_sets2 (below_trans' hB hB.size hbx) hw2 (.int .i64 p) (.int .i64 q)
      clear hR1 hB hbx G2 g0 g1 g2
      go_wp2_with fail
      exact bodyPost_ret (v := .tuple #[.agg #[.int .i64 p, .int .i64 q], .bool true]) (by simp [results, Try.results27, go_sem, y0, y1]) rfl ⟨by rw [HR1.out]; rfl, hbe⟩
end Go.Proofs.Ytpligjkbnlfhgaa
