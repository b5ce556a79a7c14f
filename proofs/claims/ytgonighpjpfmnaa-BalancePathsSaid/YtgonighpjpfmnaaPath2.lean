/- The reference's Path: the same list. -/
import Derived.Test.YtgonighpjpfmnaaPath
namespace Go.Proofs.Ytgonighpjpfmnaa
open Go.RowKit

set_option maxRecDepth 100000 in
set_option maxHeartbeats 2000000 in
theorem path61 (A : Option Addr) (n c : Nat) (f : Nat → Scr) (e : Int) (up : Bool) (w : World) (hn : n ≤ 1048576) (hR : RowsAt w w.heap.size 3 A n fun i => (f i).cells)
    (hf : ∀ k, k < n → -9223372036854775808 ≤ (f k).unit ∧ (f k).rng ≤ 9223372036854775807) :
    Calls Try.prog 61 #[.slice A n c, .int .i64 e, .bool up] w fun en w' => ∃ v, en = .returned v ∧ Own intC 3 1 w' w.heap.size v (pathR f e up n) ∧ Below w.heap.size w w' := by
  obtain ⟨i0, hi, hz0, hz1, hz2⟩ := info_parts info3
  have HF := Lib.hid hf
  clear hf
  go_enter Try.func61, Try.ntmps61
  go_wp2_with fail
  have g0 : ((w.alloc (.cells #[.int .i64 4294967296, .int .i64 4294967296, .int .i64 4294967296] 3)).alloc (.cells #[.int .i64 1, .int .i64 2, .int .i64 4] 3)).heap[w.heap.size + 1]? = some (.cells #[.int .i64 1, .int .i64 2, .int .i64 4] 3 (0, 0)) := by
    have := heap_alloc_new (w.alloc (.cells #[.int .i64 4294967296, .int .i64 4294967296, .int .i64 4294967296] 3)) (.cells #[.int .i64 1, .int .i64 2, .int .i64 4] 3)
    simpa using this
  have g1 : ((w.alloc (.cells #[.int .i64 4294967296, .int .i64 4294967296, .int .i64 4294967296] 3)).alloc (.cells #[.int .i64 1, .int .i64 2, .int .i64 4] 3)).heap[w.heap.size]? = some (.cells #[.int .i64 4294967296, .int .i64 4294967296, .int .i64 4294967296] 3 (0, 0)) := by
    rw [Below.heap_alloc _ _ _ (by simp)]; exact heap_alloc_new w _
  have hb0 : Below w.heap.size w ((w.alloc (.cells #[.int .i64 4294967296, .int .i64 4294967296, .int .i64 4294967296] 3)).alloc (.cells #[.int .i64 1, .int .i64 2, .int .i64 4] 3)) := ((Below.refl _ _).alloc (Nat.le_refl _) _).alloc (by simp) _
  have hz0' : ((w.alloc (.cells #[.int .i64 4294967296, .int .i64 4294967296, .int .i64 4294967296] 3)).alloc (.cells #[.int .i64 1, .int .i64 2, .int .i64 4] 3)).heap.size = w.heap.size + 2 := by simp
  generalize ((w.alloc (.cells #[.int .i64 4294967296, .int .i64 4294967296, .int .i64 4294967296] 3)).alloc (.cells #[.int .i64 1, .int .i64 2, .int .i64 4] 3)) = w1 at *
  go_loopg [10, 9] n (fun m i v wr => ∃ k : Nat, k ≤ n ∧ m = n - k ∧ i = .int .i64 k ∧ Own intC 3 1 wr (w.heap.size + 2) v (pathR f e up k) ∧ wr.heap[w.heap.size + 1]? = some (.cells #[.int .i64 1, .int .i64 2, .int .i64 4] 3 (0, 0)) ∧ wr.heap[w.heap.size]? = some (.cells #[.int .i64 (wAt f e up 1 k), .int .i64 (wAt f e up 2 k), .int .i64 (wAt f e up 4 k)] 3 (0, 0)) ∧ w.heap.size + 2 ≤ wr.heap.size ∧ Below w.heap.size w wr)
  case atStart => exact ⟨0, by omega, by omega, rfl, Own.nil _ _ _ _ _, g0, g1, by omega, hb0⟩
  case round =>
    obtain ⟨k, hk, hmk, rfl, hown, g2, g3, hsz, hb⟩ := hrel
    have HMK := Lib.hid hmk
    clear hmk g0 g1 hb0 hz0'
    by_cases hkn : k < n
    · obtain ⟨u1, u2⟩ := HF.out k hkn
      have e1 : wAt f e up 1 (k + 1) = growI (wAt f e up 1 k) (facN (f k).num (f k).unit (f k).rng e 1 up) (facD (f k).num (f k).unit (f k).rng e 1) := rfl
      have e2 : wAt f e up 2 (k + 1) = growI (wAt f e up 2 k) (facN (f k).num (f k).unit (f k).rng e 2 up) (facD (f k).num (f k).unit (f k).rng e 2) := rfl
      have e4 : wAt f e up 4 (k + 1) = growI (wAt f e up 4 k) (facN (f k).num (f k).unit (f k).rng e 4 up) (facD (f k).num (f k).unit (f k).rng e 4) := rfl
      have wb1 := wAt_bd f e up 1 k
      have wb2 := wAt_bd f e up 2 k
      have wb4 := wAt_bd f e up 4 k
      have wc1 := wAt_bd f e up 1 (k + 1)
      have wc2 := wAt_bd f e up 2 (k + 1)
      have wc4 := wAt_bd f e up 4 (k + 1)
      have hpath := pathR_succ f e up k
      rw [show meanAt f e up (k + 1) = (wAt f e up 1 (k + 1) + wAt f e up 2 (k + 1) + wAt f e up 4 (k + 1)) / 3 from rfl] at hpath
      have HP := Lib.hid hpath
      have E1 := Lib.hid e1
      have E2 := Lib.hid e2
      have E4 := Lib.hid e4
      clear hpath e1 e2 e4
      generalize hY1 : wAt f e up 1 (k + 1) = y1 at *
      generalize hY2 : wAt f e up 2 (k + 1) = y2 at *
      generalize hY4 : wAt f e up 4 (k + 1) = y4 at *
      have Y1 := Lib.hid hY1
      have Y2 := Lib.hid hY2
      have Y4 := Lib.hid hY4
      clear hY1 hY2 hY4
      have hLl := pathR_len f e up k
      generalize pathR f e up k = L at *
      generalize hA1 : wAt f e up 1 k = a1 at *
      generalize hA2 : wAt f e up 2 k = a2 at *
      generalize hA4 : wAt f e up 4 k = a4 at *
      have hfb1 := fac_bd (f k).num (f k).unit (f k).rng e 1 up
      have hfb2 := fac_bd (f k).num (f k).unit (f k).rng e 2 up
      have hfb4 := fac_bd (f k).num (f k).unit (f k).rng e 4 up
      have fc1 := fun w => fac48 (f k).num (f k).unit (f k).rng e 1 up w u1 u2
      have fc2 := fun w => fac48 (f k).num (f k).unit (f k).rng e 2 up w u1 u2
      have fc4 := fun w => fac48 (f k).num (f k).unit (f k).rng e 4 up w u1 u2
      generalize hn1 : facN (f k).num (f k).unit (f k).rng e 1 up = n1 at *
      generalize hn2 : facN (f k).num (f k).unit (f k).rng e 2 up = n2 at *
      generalize hn4 : facN (f k).num (f k).unit (f k).rng e 4 up = n4 at *
      generalize hd1 : facD (f k).num (f k).unit (f k).rng e 1 = d1 at *
      generalize hd2 : facD (f k).num (f k).unit (f k).rng e 2 = d2 at *
      generalize hd4 : facD (f k).num (f k).unit (f k).rng e 4 = d4 at *
      clear hn1 hn2 hn4 hd1 hd2 hd4 hA1 hA2 hA4
      generalize hq : f k = q at *
      have HQ := Lib.hid hq
      clear hq
      have FC1 := Lib.hid fc1
      have FC2 := Lib.hid fc2
      have FC4 := Lib.hid fc4
      clear fc1 fc2 fc4
      go_wp2_with fail
      go_loopg [11] 3 (fun m i wi => ∃ j : Nat, j ≤ 3 ∧ m = 3 - j ∧ i = .int .i64 j ∧ Own intC 3 1 wi (w.heap.size + 2) u9 L ∧ wi.heap[w.heap.size + 1]? = some (.cells #[.int .i64 1, .int .i64 2, .int .i64 4] 3 (0, 0)) ∧ wi.heap[w.heap.size]? = some (.cells (accC a1 a2 a4 y1 y2 y4 j) 3 (0, 0)) ∧ Below w.heap.size w wi)
      case atStart => exact ⟨0, by omega, by omega, rfl, hown, g2, g3, hb⟩
      case round =>
        obtain ⟨j, hj, hmj, rfl, hown, h2, h3, hbi⟩ := hrel
        have HMJ := Lib.hid hmj
        clear hmj g2 g3 hb
        have hj4 : j = 0 ∨ j = 1 ∨ j = 2 ∨ j = 3 := by omega
        rcases hj4 with rfl | rfl | rfl | rfl
        · simp only [accC] at h3
          simp only [show ((0 : Nat) : Int) = 0 from rfl]
          have hsz3 : w.heap.size + 2 ≤ wr.heap.size := lt_of_blk h2
          go_upto_region 10 with fail
          have hx : ∀ x : Beh LeW wr.drew, Below w.heap.size w x.w := fun x => below_trans' hbi hbi.size (Below.trans ((Below.refl _ wr).drew) x.h)
          obtain ⟨bk, off, hA, hblt, hc⟩ := hR (by omega)
          cases hA
          have hcx : ∀ x : Beh LeW wr.drew, ∀ j u, (q : Scr).cells[j]? = some u → x.w.cell? ⟨bk, off + k * 3 + j, none⟩ = some u := fun x j u hu => by rw [(hx x).cell hblt]; exact hc k hkn j u (by show ((f k).cells)[j]? = some u; rw [HQ.out]; exact hu)
          have q0 : ∀ x : Beh LeW wr.drew, x.w.cell? ⟨bk, off + k * 3, none⟩ = some (.int .i64 q.num) := fun x => hcx x 0 _ rfl
          have q1 : ∀ x : Beh LeW wr.drew, x.w.cell? ⟨bk, off + k * 3 + 1, none⟩ = some (.int .i64 q.unit) := fun x => hcx x 1 _ rfl
          have q2 : ∀ x : Beh LeW wr.drew, x.w.cell? ⟨bk, off + k * 3 + 2, none⟩ = some (.int .i64 q.rng) := fun x => hcx x 2 _ rfl
          have q3 : ∀ x : Beh LeW wr.drew, x.w.cell? ⟨w.heap.size + 1, 0, none⟩ = some (.int .i64 1) := fun x => by
            have h1 : x.w.heap[w.heap.size + 1]? = _ := (x.h.block _ (lt_of_blk (w := wr) h2)).trans h2
            exact cell_of_block h1 0
          clear hcx hc
          refine wp_region_loose (R := LeW) 14 66 [13] [(10, [], none)] (by kernel_rfl) (by kernel_rfl) (by kernel_rfl) (by kernel_rfl) (fun _ _ _ _ _ _ h => h) rfl LeW.refl (fun _ _ _ => LeW.trans) ?_
          simp only [Late, List.take_succ_cons, List.drop_succ_cons, List.take_zero, List.drop_zero, Nat.sub_zero]
          repeat (go_big_quiet_step (fail))
          refine wpQuiet_nil ?_
          refine late_call Try.func48 (by kernel_rfl) (by kernel_rfl) (fun x => FC1.out x.w) rfl (by simp only [Act.put, List.setIfInBounds_toArray, List.set_cons_succ, List.set_cons_zero]; rfl) ?_
          repeat (go_big_quiet_step (fail))
          refine wpQuiet_nil ?_
          intro x
          simp only [allGens]
          have hown := Own.below hown (Below.trans ((Below.refl _ wr).drew) x.h)
          have h2 : x.w.heap[w.heap.size + 1]? = _ := (x.h.block _ (lt_of_blk (w := wr) h2)).trans h2
          have h3 : x.w.heap[w.heap.size]? = _ := (x.h.block _ (lt_of_blk (w := wr) h3)).trans h3
          have hbi := hx x
          clear q0 q1 q2 q3 hx hsz3
          generalize x.w = wa at *
          have x0 := cell_of_block h3 0
          simp only [List.getElem?_toArray, List.getElem?_cons_zero] at x0
          go_wp2_with fail
          refine (grow46 a1 n1 d1 _ (by omega) (by omega)).mono ?_
          rintro en _ ⟨rfl, mm, rfl⟩
          rw [← E1.out]
          have hown := Own.below hown (below_drewN (Below.refl _ wa) mm)
          replace h2 : (wa.drewN mm).heap[w.heap.size + 1]? = _ := h2
          replace h3 : (wa.drewN mm).heap[w.heap.size]? = _ := h3
          replace hbi := below_drewN hbi mm
          clear x0
          generalize wa.drewN mm = wd at *
          have x0 := cell_of_block h3 0
          have z0 := free_of_block h3 0
          simp only [List.getElem?_toArray, List.getElem?_cons_zero] at x0
          go_wp2_with fail
          go_roundg 2
          case measure => have := HMJ.out; omega
          case rel => exact ⟨1, by omega, rfl, rfl, own_set hown (by omega) _ _, blk_other h2 (by omega) _ _, block_set h3 0 _, hbi.setCell (by simp) _⟩
        · simp only [accC] at h3
          simp only [show ((1 : Nat) : Int) = 1 from rfl]
          have hsz3 : w.heap.size + 2 ≤ wr.heap.size := lt_of_blk h2
          go_upto_region 10 with fail
          have hx : ∀ x : Beh LeW wr.drew, Below w.heap.size w x.w := fun x => below_trans' hbi hbi.size (Below.trans ((Below.refl _ wr).drew) x.h)
          obtain ⟨bk, off, hA, hblt, hc⟩ := hR (by omega)
          cases hA
          have hcx : ∀ x : Beh LeW wr.drew, ∀ j u, (q : Scr).cells[j]? = some u → x.w.cell? ⟨bk, off + k * 3 + j, none⟩ = some u := fun x j u hu => by rw [(hx x).cell hblt]; exact hc k hkn j u (by show ((f k).cells)[j]? = some u; rw [HQ.out]; exact hu)
          have q0 : ∀ x : Beh LeW wr.drew, x.w.cell? ⟨bk, off + k * 3, none⟩ = some (.int .i64 q.num) := fun x => hcx x 0 _ rfl
          have q1 : ∀ x : Beh LeW wr.drew, x.w.cell? ⟨bk, off + k * 3 + 1, none⟩ = some (.int .i64 q.unit) := fun x => hcx x 1 _ rfl
          have q2 : ∀ x : Beh LeW wr.drew, x.w.cell? ⟨bk, off + k * 3 + 2, none⟩ = some (.int .i64 q.rng) := fun x => hcx x 2 _ rfl
          have q3 : ∀ x : Beh LeW wr.drew, x.w.cell? ⟨w.heap.size + 1, 1, none⟩ = some (.int .i64 2) := fun x => by
            have h1 : x.w.heap[w.heap.size + 1]? = _ := (x.h.block _ (lt_of_blk (w := wr) h2)).trans h2
            exact cell_of_block h1 1
          clear hcx hc
          refine wp_region_loose (R := LeW) 14 66 [13] [(10, [], none)] (by kernel_rfl) (by kernel_rfl) (by kernel_rfl) (by kernel_rfl) (fun _ _ _ _ _ _ h => h) rfl LeW.refl (fun _ _ _ => LeW.trans) ?_
          simp only [Late, List.take_succ_cons, List.drop_succ_cons, List.take_zero, List.drop_zero, Nat.sub_zero]
          repeat (go_big_quiet_step (fail))
          refine wpQuiet_nil ?_
          refine late_call Try.func48 (by kernel_rfl) (by kernel_rfl) (fun x => FC2.out x.w) rfl (by simp only [Act.put, List.setIfInBounds_toArray, List.set_cons_succ, List.set_cons_zero]; rfl) ?_
          repeat (go_big_quiet_step (fail))
          refine wpQuiet_nil ?_
          intro x
          simp only [allGens]
          have hown := Own.below hown (Below.trans ((Below.refl _ wr).drew) x.h)
          have h2 : x.w.heap[w.heap.size + 1]? = _ := (x.h.block _ (lt_of_blk (w := wr) h2)).trans h2
          have h3 : x.w.heap[w.heap.size]? = _ := (x.h.block _ (lt_of_blk (w := wr) h3)).trans h3
          have hbi := hx x
          clear q0 q1 q2 q3 hx hsz3
          generalize x.w = wa at *
          have x0 := cell_of_block h3 1
          simp only [List.getElem?_toArray, List.getElem?_cons_zero, List.getElem?_cons_succ] at x0
          go_wp2_with fail
          refine (grow46 a2 n2 d2 _ (by omega) (by omega)).mono ?_
          rintro en _ ⟨rfl, mm, rfl⟩
          rw [← E2.out]
          have hown := Own.below hown (below_drewN (Below.refl _ wa) mm)
          replace h2 : (wa.drewN mm).heap[w.heap.size + 1]? = _ := h2
          replace h3 : (wa.drewN mm).heap[w.heap.size]? = _ := h3
          replace hbi := below_drewN hbi mm
          clear x0
          generalize wa.drewN mm = wd at *
          have x0 := cell_of_block h3 1
          have z0 := free_of_block h3 1
          simp only [List.getElem?_toArray, List.getElem?_cons_zero, List.getElem?_cons_succ] at x0
          go_wp2_with fail
          go_roundg 1
          case measure => have := HMJ.out; omega
          case rel => exact ⟨2, by omega, rfl, rfl, own_set hown (by omega) _ _, blk_other h2 (by omega) _ _, block_set h3 1 _, hbi.setCell (by simp) _⟩
        · simp only [accC] at h3
          simp only [show ((2 : Nat) : Int) = 2 from rfl]
          have hsz3 : w.heap.size + 2 ≤ wr.heap.size := lt_of_blk h2
          go_upto_region 10 with fail
          have hx : ∀ x : Beh LeW wr.drew, Below w.heap.size w x.w := fun x => below_trans' hbi hbi.size (Below.trans ((Below.refl _ wr).drew) x.h)
          obtain ⟨bk, off, hA, hblt, hc⟩ := hR (by omega)
          cases hA
          have hcx : ∀ x : Beh LeW wr.drew, ∀ j u, (q : Scr).cells[j]? = some u → x.w.cell? ⟨bk, off + k * 3 + j, none⟩ = some u := fun x j u hu => by rw [(hx x).cell hblt]; exact hc k hkn j u (by show ((f k).cells)[j]? = some u; rw [HQ.out]; exact hu)
          have q0 : ∀ x : Beh LeW wr.drew, x.w.cell? ⟨bk, off + k * 3, none⟩ = some (.int .i64 q.num) := fun x => hcx x 0 _ rfl
          have q1 : ∀ x : Beh LeW wr.drew, x.w.cell? ⟨bk, off + k * 3 + 1, none⟩ = some (.int .i64 q.unit) := fun x => hcx x 1 _ rfl
          have q2 : ∀ x : Beh LeW wr.drew, x.w.cell? ⟨bk, off + k * 3 + 2, none⟩ = some (.int .i64 q.rng) := fun x => hcx x 2 _ rfl
          have q3 : ∀ x : Beh LeW wr.drew, x.w.cell? ⟨w.heap.size + 1, 2, none⟩ = some (.int .i64 4) := fun x => by
            have h1 : x.w.heap[w.heap.size + 1]? = _ := (x.h.block _ (lt_of_blk (w := wr) h2)).trans h2
            exact cell_of_block h1 2
          clear hcx hc
          refine wp_region_loose (R := LeW) 14 66 [13] [(10, [], none)] (by kernel_rfl) (by kernel_rfl) (by kernel_rfl) (by kernel_rfl) (fun _ _ _ _ _ _ h => h) rfl LeW.refl (fun _ _ _ => LeW.trans) ?_
          simp only [Late, List.take_succ_cons, List.drop_succ_cons, List.take_zero, List.drop_zero, Nat.sub_zero]
          repeat (go_big_quiet_step (fail))
          refine wpQuiet_nil ?_
          refine late_call Try.func48 (by kernel_rfl) (by kernel_rfl) (fun x => FC4.out x.w) rfl (by simp only [Act.put, List.setIfInBounds_toArray, List.set_cons_succ, List.set_cons_zero]; rfl) ?_
          repeat (go_big_quiet_step (fail))
          refine wpQuiet_nil ?_
          intro x
          simp only [allGens]
          have hown := Own.below hown (Below.trans ((Below.refl _ wr).drew) x.h)
          have h2 : x.w.heap[w.heap.size + 1]? = _ := (x.h.block _ (lt_of_blk (w := wr) h2)).trans h2
          have h3 : x.w.heap[w.heap.size]? = _ := (x.h.block _ (lt_of_blk (w := wr) h3)).trans h3
          have hbi := hx x
          clear q0 q1 q2 q3 hx hsz3
          generalize x.w = wa at *
          have x0 := cell_of_block h3 2
          simp only [List.getElem?_toArray, List.getElem?_cons_zero, List.getElem?_cons_succ] at x0
          go_wp2_with fail
          refine (grow46 a4 n4 d4 _ (by omega) (by omega)).mono ?_
          rintro en _ ⟨rfl, mm, rfl⟩
          rw [← E4.out]
          have hown := Own.below hown (below_drewN (Below.refl _ wa) mm)
          replace h2 : (wa.drewN mm).heap[w.heap.size + 1]? = _ := h2
          replace h3 : (wa.drewN mm).heap[w.heap.size]? = _ := h3
          replace hbi := below_drewN hbi mm
          clear x0
          generalize wa.drewN mm = wd at *
          have x0 := cell_of_block h3 2
          have z0 := free_of_block h3 2
          simp only [List.getElem?_toArray, List.getElem?_cons_zero, List.getElem?_cons_succ] at x0
          go_wp2_with fail
          go_roundg 0
          case measure => have := HMJ.out; omega
          case rel => exact ⟨3, by omega, rfl, rfl, own_set hown (by omega) _ _, blk_other h2 (by omega) _ _, block_set h3 2 _, hbi.setCell (by simp) _⟩
        · simp only [accC] at h3
          simp only [show ((3 : Nat) : Int) = 3 from rfl]
          obtain ⟨A9, cp, rfl, hcp⟩ := Own.shape hown
          have hsz3 : w.heap.size + 2 ≤ wr.heap.size := lt_of_blk h2
          go_upto_region 12 with fail
          have q0 : ∀ x : Beh LeW wr.drew, x.w.cell? ⟨w.heap.size, 0, none⟩ = some (.int .i64 y1) := fun x => cell_of_block ((x.h.block _ (lt_of_blk (w := wr) h3)).trans h3) 0
          have q1 : ∀ x : Beh LeW wr.drew, x.w.cell? ⟨w.heap.size, 1, none⟩ = some (.int .i64 y2) := fun x => cell_of_block ((x.h.block _ (lt_of_blk (w := wr) h3)).trans h3) 1
          have q2 : ∀ x : Beh LeW wr.drew, x.w.cell? ⟨w.heap.size, 2, none⟩ = some (.int .i64 y4) := fun x => cell_of_block ((x.h.block _ (lt_of_blk (w := wr) h3)).trans h3) 2
          refine wp_region_late (R := LeW) 14 66 [(13, [], some (freshS wr.heap.size #[.int .i64 ((y1 + y2 + y4) / 3)] 3 1))] (by kernel_rfl) (by kernel_rfl) (by kernel_rfl) rfl LeW.refl (fun _ _ _ => LeW.trans) ?_
          simp only [Late, List.take_succ_cons, List.drop_succ_cons, List.take_zero, List.drop_zero, Nat.sub_zero]
          repeat (go_big_quiet_step (fail))
          refine wpQuiet_nil ?_
          refine late_build (fun w => by kernel_rfl) (fun x => x.h.size) (by simp only [Act.put, List.setIfInBounds_toArray, List.set_cons_succ, List.set_cons_zero]; rfl) ?_
          refine wpQuiet_nil ?_
          intro x
          simp only [List.nil_append, allGens, Option.getD_some]
          rintro v2 ⟨g2, rfl, hg2, hblk⟩
          simp only [Act.put, List.setIfInBounds_toArray, List.set_cons_succ, List.set_cons_zero]
          have hown := Own.below hown (Below.trans ((Below.refl _ wr).drew) x.h)
          have h2 : x.w.heap[w.heap.size + 1]? = _ := (x.h.block _ (lt_of_blk (w := wr) h2)).trans h2
          have h3 : x.w.heap[w.heap.size]? = _ := (x.h.block _ (lt_of_blk (w := wr) h3)).trans h3
          have hbi : Below w.heap.size w x.w := below_trans' hbi hbi.size (Below.trans ((Below.refl _ wr).drew) x.h)
          have hszx : w.heap.size + 2 ≤ x.w.heap.size := lt_of_blk h2
          clear q0 q1 q2 hsz3
          generalize x.w = wa at *
          go_wp2_with (at_builtin; refine wpList_append_lies _ (by rfl) (.tmp 50) (.tmp 63) 44 (by rfl) (w.heap.size + 2) 3 i0 _ 1 8 Try.underlying44 hi hz0 hz1 hz2 rfl (by omega) _ _ _ (by rfl) hown ⟨g2, 0, none⟩ 1 1 [.int .i64 ((y1 + y2 + y4) / 3)] (by rfl) (by rfl) (World.news_of_block hblk) (by simp [Value.oneCell']) (by omega) (by unfold maxLen; omega) (by omega) (by omega) wa.heap.size (by rfl) ?_; intro g' cap' w6 hown6 hgrow hat hlt6)
          have hrow : ∀ q, (Value.slice A9 L.length cp).ownBlock = some q → w.heap.size + 2 ≤ q := fun q hq => (World.ownsRow.lt hown q hq).1
          have hb6 : Below w.heap.size w w6 := hbi.grown hgrow hbi.size (fun q hq => by have := hrow q hq; omega)
          have h2' : w6.heap[w.heap.size + 1]? = some (.cells #[.int .i64 1, .int .i64 2, .int .i64 4] 3 (0, 0)) := by
            rw [hgrow.block _ (by omega) (fun h => by have := hrow _ h.symm; omega)]; exact h2
          have h3' : w6.heap[w.heap.size]? = some (.cells #[.int .i64 y1, .int .i64 y2, .int .i64 y4] 3 (0, 0)) := by
            rw [hgrow.block _ (by omega) (fun h => by have := hrow _ h.symm; omega)]; exact h3
          have ho : Own intC 3 1 w6 (w.heap.size + 2) (.slice (some ⟨g', 0, none⟩) (L.length + 1) cap') (L ++ [(y1 + y2 + y4) / 3]) := Own.snoc (c := intC) hown6
          rw [hLl] at ho
          have hsz6 : w.heap.size + 2 ≤ w6.heap.size := by have := hgrow.size; omega
          clear hown6 hgrow hat hown h2 h3 hblk
          go_roundg (n - (k + 1))
          case measure => have := HMK.out; omega
          case rel => exact ⟨k + 1, by omega, rfl, by go_num, by rw [HP.out]; exact ho, h2', by rw [Y1.out, Y2.out, Y4.out]; exact h3', hsz6, hb6⟩
    · go_wp2_with fail
      go_ret
      obtain rfl : k = n := by omega
      exact ⟨_, rfl, Own.mono hown (by omega), hb⟩
end Go.Proofs.Ytgonighpjpfmnaa
