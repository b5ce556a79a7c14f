/- The walk of IntervalNests. -/
import Derived.Test.YtpligjkbnlfhgaaAgree
import Derived.Test.YtpligjkbnlfhgaaNest0
import Derived.Test.YtpligjkbnlfhgaaArgs
import Derived.OpenShut
import Derived.IntWalk
namespace Go.Proofs.Ytpligjkbnlfhgaa
open Go.RowKit

theorem nests {i : Nat} {a b c d a' b' lo hi : Int} (hi4 : i < 4) (h : opI i a b c d = some (lo, hi)) (h1 : a ≤ a') (h2 : a' ≤ b') (h3 : b' ≤ b) : ∃ lo' hi', opI i a' b' c d = some (lo', hi') ∧ lo ≤ lo' ∧ hi' ≤ hi := by
  rcases (by omega : i = 0 ∨ i = 1 ∨ i = 2 ∨ i = 3) with rfl | rfl | rfl | rfl
  · exact nest_add h h1 h2 h3
  · exact nest_sub h h1 h2 h3
  · exact nest_mul h h1 h2 h3
  · exact nest_div h h1 h2 h3
theorem mul_le_255 {D i : Int} (hD : 0 ≤ D) (hi : 0 ≤ i ∧ i ≤ 255) : 0 ≤ D * i ∧ D * i ≤ 255 * D := by
  have h1 := Int.mul_nonneg hD hi.1
  have h2 := Int.mul_le_mul_of_nonneg_left hi.2 hD
  omega
theorem inside_yes {a b c d : Int} (h1 : c ≤ a) (h2 : b ≤ d) (w : World) : Calls Try.prog 9 #[.agg #[.int .i64 a, .int .i64 b], .agg #[.int .i64 c, .int .i64 d]] w fun e w' => e = .returned (.bool true) ∧ Below w.heap.size w w' := by
  have := inside9 a b c d w
  rw [decide_eq_true h1, decide_eq_true h2] at this
  exact this

set_option maxRecDepth 100000 in
set_option maxHeartbeats 16000000 in
theorem intervalNests4 (a0 a1 a2 a3 a4 a5 a6 a7 : Int) (w : World) (_w0 : (Lit.int .i64 a0).wf = true) (_w1 : (Lit.int .i64 a1).wf = true) (_w2 : (Lit.int .i64 a2).wf = true) (_w3 : (Lit.int .i64 a3).wf = true) (w4 : (Lit.int .u8 a4).wf = true) (w5 : (Lit.int .u8 a5).wf = true) (w6 : (Lit.int .u8 a6).wf = true) (w7 : (Lit.int .u8 a7).wf = true) :
    Calls Try.prog 4 #[.int .i64 a0, .int .i64 a1, .int .i64 a2, .int .i64 a3, .int .u8 a4, .int .u8 a5, .int .u8 a6, .int .u8 a7] w fun e w' => e = .returned (.bool true) ∧ Below w.heap.size w w' := by
  have b4 := bounds_u8 w4
  have b5 := bounds_u8 w5
  have b6 := bounds_u8 w6
  have b7 := bounds_u8 w7
  clear w4 w5 w6 w7 _w0 _w1 _w2 _w3
  go_enter Try.func4, Try.ntmps4
  go_wp2_with fail
  refine (awake47 w).mono ?_
  rintro e u0 ⟨rfl, hb0⟩
  go_wp2_with fail
  refine (made6 a0 a1 a4 u0 b4).mono ?_
  rintro e u1 ⟨x0, x1, rfl, hix, hb1⟩
  go_wp2_with fail
  refine (made6 a2 a3 a5 u1 b5).mono ?_
  rintro e u2 ⟨y0, y1, rfl, hiy, hb2⟩
  have hbr := below_trans' hb0 hb0.size (below_trans' hb1 hb1.size hb2)
  obtain ⟨hbN, t0, t1⟩ := allocs2 u2 (ivA x0 x1) (ivA y0 y1) 23 23
  unfold ivA at *
  replace hbr := below_trans' hbr hbr.size hbN
  have m0 := cells2i t0
  have m1 := cells2i t1
  have vx := inI_iff.1 hix
  have vy := inI_iff.1 hiy
  have hW : 0 ≤ x1 - x0 ∧ x1 - x0 ≤ 4611686018427387904 := by omega
  obtain ⟨D, hD⟩ : ∃ D, (x1 - x0).tdiv 600 = D := ⟨_, rfl⟩
  have hDb : 0 ≤ D ∧ 600 * D ≤ x1 - x0 := by rw [← hD, Int.tdiv_eq_ediv_of_nonneg hW.1]; omega
  have hu := mul_le_255 hDb.1 b6
  have hv := mul_le_255 hDb.1 b7
  obtain ⟨U, hU⟩ : ∃ U, D * a6 = U := ⟨_, rfl⟩
  obtain ⟨V, hV⟩ : ∃ V, D * a7 = V := ⟨_, rfl⟩
  rw [hU] at hu
  rw [hV] at hv
  clear hb0 hb1 hb2 hbN
  go_upto_region 4 with fail
  generalize (u2.alloc (.cells #[.int .i64 x0, .int .i64 x1] 23)).alloc (.cells #[.int .i64 y0, .int .i64 y1] 23) = v0 at *
  generalize u2.heap.size + 1 = Y at *
  generalize u2.heap.size = X at *
  have t2 := heap_alloc_new v0 (.cells #[.int .i64 (x0 + U), .int .i64 (x1 - V)] 23)
  have hA := (Below.refl v0.heap.size v0).alloc (Nat.le_refl _) (.cells #[.int .i64 (x0 + U), .int .i64 (x1 - V)] 23)
  replace t0 := blk_below hA t0
  replace t1 := blk_below hA t1
  replace hbr := below_trans' hbr hbr.size hA
  go_upto_region 6 with fail
  generalize v0.alloc (.cells #[.int .i64 (x0 + U), .int .i64 (x1 - V)] 23) = vl at *
  generalize v0.heap.size = Z at *
  obtain ⟨z0, hz0⟩ : ∃ z, x0 + U = z := ⟨_, rfl⟩
  obtain ⟨z1, hz1⟩ : ∃ z, x1 - V = z := ⟨_, rfl⟩
  have hz : x0 ≤ z0 ∧ z0 ≤ z1 ∧ z1 ≤ x1 := by omega
  rw [hz0, hz1] at t2
  have HZ := Lib.hid hz
  have VX := Lib.hid vx
  have VY := Lib.hid vy
  have IX := Lib.hid hix
  have IY := Lib.hid hiy
  clear m0 m1 hW hD hDb hu hv hU hV hA hz vx vy hix hiy hz0 hz1 b4 b5 b6 b7
  have HS : Hid (∀ w', Below vl.heap.size vl w' → (w'.cell? ⟨X, 0, none⟩ = some (.int .i64 x0) ∧ w'.cell? ⟨X, 1, none⟩ = some (.int .i64 x1)) ∧ (w'.cell? ⟨Y, 0, none⟩ = some (.int .i64 y0) ∧ w'.cell? ⟨Y, 1, none⟩ = some (.int .i64 y1)) ∧ (w'.cell? ⟨Z, 0, none⟩ = some (.int .i64 z0) ∧ w'.cell? ⟨Z, 1, none⟩ = some (.int .i64 z1))) := Lib.hid fun w' h => ⟨cells2i (blk_below h t0), cells2i (blk_below h t1), cells2i (blk_below h t2)⟩
  clear t0 t1 t2
  go_wp2_with fail
  go_loopg [21, 22, 23, 24, 25] 5 (fun m j _ _ _ _ wr => ∃ k : Nat, k ≤ 4 ∧ m = 5 - k ∧ j = .int .i64 k ∧ Below vl.heap.size vl wr)
  case atStart => exact ⟨0, by omega, rfl, rfl, Below.refl _ _⟩
  case round =>
  obtain ⟨k, hk, hm, rfl, hbx⟩ := hrel
  have HM := Lib.hid hm
  clear hm
  have k0 := HS.out _ hbx
  by_cases hk4 : k < 4
  · have hk4I : (k : Int) < 4 := by omega
    have O1 := Lib.hid (fun w => operate8 k x0 x1 y0 y1 w (by omega))
    have O2 := Lib.hid (fun w => operate8 k z0 z1 y0 y1 w (by omega))
    have hcase : (∃ Q0 Q1 qk, resV (opI k x0 x1 y0 y1) = .tuple #[.agg #[.int .i64 0, .int .i64 0], .bool false] ∧ resV (opI k z0 z1 y0 y1) = .tuple #[.agg #[.int .i64 Q0, .int .i64 Q1], .bool qk]) ∨ (∃ P0 P1 Q0 Q1, resV (opI k x0 x1 y0 y1) = .tuple #[.agg #[.int .i64 P0, .int .i64 P1], .bool true] ∧ resV (opI k z0 z1 y0 y1) = .tuple #[.agg #[.int .i64 Q0, .int .i64 Q1], .bool true] ∧ P0 ≤ Q0 ∧ Q1 ≤ P1) := by
      cases hx : opI k x0 x1 y0 y1 with
      | none =>
        obtain ⟨Q0, Q1, qk, hq, -⟩ := res_parts (opI k z0 z1 y0 y1)
        exact .inl ⟨Q0, Q1, qk, rfl, hq⟩
      | some r =>
        obtain ⟨P0, P1⟩ := r
        obtain ⟨Q0, Q1, hq, h1, h2⟩ := nests hk4 hx HZ.out.1 HZ.out.2.1 HZ.out.2.2
        exact .inr ⟨P0, P1, Q0, Q1, rfl, by rw [hq]; rfl, h1, h2⟩
    rcases hcase with ⟨Q0, Q1, qk, h1, h2⟩ | ⟨P0, P1, Q0, Q1, h1, h2, h3, h4⟩
    · have R1 : Hid (∀ w, Calls Try.prog 8 #[.int .i64 k, .agg #[.int .i64 x0, .int .i64 x1], .agg #[.int .i64 y0, .int .i64 y1]] w fun e w' => e = .returned (.tuple #[.agg #[.int .i64 0, .int .i64 0], .bool false]) ∧ Below w.heap.size w w') := Lib.hid fun w => by rw [← h1]; exact O1.out w
      have R2 : Hid (∀ w, Calls Try.prog 8 #[.int .i64 k, .agg #[.int .i64 z0, .int .i64 z1], .agg #[.int .i64 y0, .int .i64 y1]] w fun e w' => e = .returned (.tuple #[.agg #[.int .i64 Q0, .int .i64 Q1], .bool qk]) ∧ Below w.heap.size w w') := Lib.hid fun w => by rw [← h2]; exact O2.out w
      clear h1 h2 O1 O2
      go_wp2_with fail
      refine (R1.out _).mono ?_
      rintro e w1 ⟨rfl, hb1⟩
      have hst := below_trans' hb1 hb1.size ((Below.refl w1.heap.size w1).alloc (Nat.le_refl _) (.cells #[.int .i64 0, .int .i64 0] 23))
      have t3 := heap_alloc_new w1 (.cells #[.int .i64 0, .int .i64 0] 23)
      replace hbx := below_trans' hbx hbx.size hst
      clear k0 hst hb1
      have k0 := HS.out _ hbx
      go_wp2_with fail
      generalize w1.alloc (.cells #[.int .i64 0, .int .i64 0] 23) = v1 at *
      generalize w1.heap.size = N1 at *
      refine (R2.out _).mono ?_
      rintro e w2 ⟨rfl, hb1⟩
      have hst := below_trans' hb1 hb1.size ((Below.refl w2.heap.size w2).alloc (Nat.le_refl _) (.cells #[.int .i64 Q0, .int .i64 Q1] 23))
      have m3 := cells2i (blk_below hst t3)
      have m4 := cells2i (heap_alloc_new w2 (.cells #[.int .i64 Q0, .int .i64 Q1] 23))
      replace hbx := below_trans' hbx hbx.size hst
      clear k0 hst hb1 t3
      go_wp2_with fail
      go_roundg (5 - (k + 1))
      case measure => have := HM.out; omega
      case rel => exact ⟨k + 1, by omega, rfl, by go_num, hbx⟩
    · have R1 : Hid (∀ w, Calls Try.prog 8 #[.int .i64 k, .agg #[.int .i64 x0, .int .i64 x1], .agg #[.int .i64 y0, .int .i64 y1]] w fun e w' => e = .returned (.tuple #[.agg #[.int .i64 P0, .int .i64 P1], .bool true]) ∧ Below w.heap.size w w') := Lib.hid fun w => by rw [← h1]; exact O1.out w
      have R2 : Hid (∀ w, Calls Try.prog 8 #[.int .i64 k, .agg #[.int .i64 z0, .int .i64 z1], .agg #[.int .i64 y0, .int .i64 y1]] w fun e w' => e = .returned (.tuple #[.agg #[.int .i64 Q0, .int .i64 Q1], .bool true]) ∧ Below w.heap.size w w') := Lib.hid fun w => by rw [← h2]; exact O2.out w
      clear h1 h2 O1 O2
      go_wp2_with fail
      refine (R1.out _).mono ?_
      rintro e w1 ⟨rfl, hb1⟩
      have hst := below_trans' hb1 hb1.size ((Below.refl w1.heap.size w1).alloc (Nat.le_refl _) (.cells #[.int .i64 P0, .int .i64 P1] 23))
      have t3 := heap_alloc_new w1 (.cells #[.int .i64 P0, .int .i64 P1] 23)
      replace hbx := below_trans' hbx hbx.size hst
      clear k0 hst hb1
      have k0 := HS.out _ hbx
      go_wp2_with fail
      generalize w1.alloc (.cells #[.int .i64 P0, .int .i64 P1] 23) = v1 at *
      generalize w1.heap.size = N1 at *
      refine (R2.out _).mono ?_
      rintro e w2 ⟨rfl, hb1⟩
      have hst := below_trans' hb1 hb1.size ((Below.refl w2.heap.size w2).alloc (Nat.le_refl _) (.cells #[.int .i64 Q0, .int .i64 Q1] 23))
      have m3 := cells2i (blk_below hst t3)
      have m4 := cells2i (heap_alloc_new w2 (.cells #[.int .i64 Q0, .int .i64 Q1] 23))
      replace hbx := below_trans' hbx hbx.size hst
      clear k0 hst hb1 t3
      go_wp2_with fail
      generalize w2.alloc (.cells #[.int .i64 Q0, .int .i64 Q1] 23) = v2 at *
      generalize w2.heap.size = N2 at *
      refine (inside_yes h3 h4 v2).mono ?_
      rintro e w3 ⟨rfl, hb1⟩
      replace hbx := below_trans' hbx hbx.size hb1
      clear hb1 m3 m4
      go_wp2_with fail
      go_roundg (5 - (k + 1))
      case measure => have := HM.out; omega
      case rel => exact ⟨k + 1, by omega, rfl, by go_num, hbx⟩
  · have hk' : k = 4 := by omega
    subst hk'
    have hk4I : ¬ ((4 : Nat) : Int) < 4 := by omega
    have hx0 := VX.out
    have hy0 := VY.out
    have hH : hullI x0 x1 y0 y1 = some (min x0 y0, max x1 y1) := by unfold hullI; rw [if_pos ⟨IX.out, IY.out⟩]
    obtain ⟨HL, hHL⟩ : ∃ z, min x0 y0 = z := ⟨_, rfl⟩
    obtain ⟨HH, hHH⟩ : ∃ z, max x1 y1 = z := ⟨_, rfl⟩
    have hM : (max x0 y0 ≤ min x1 y1 ∧ meetI x0 x1 y0 y1 = some (max x0 y0, min x1 y1)) ∨ ((x1 < y0 ∨ y1 < x0) ∧ meetI x0 x1 y0 y1 = none) := by
      unfold meetI mkI
      rw [if_pos ⟨IX.out, IY.out⟩]
      by_cases h : max x0 y0 ≤ min x1 y1
      · left
        rw [if_pos (inI_iff.2 (by omega))]
        exact ⟨h, rfl⟩
      · right
        rw [if_neg (fun h' => by have := inI_iff.1 h'; omega)]
        exact ⟨by omega, rfl⟩
    have RH : Hid (∀ w, Calls Try.prog 10 #[.agg #[.int .i64 x0, .int .i64 x1], .agg #[.int .i64 y0, .int .i64 y1]] w fun e w' => e = .returned (.tuple #[.agg #[.int .i64 HL, .int .i64 HH], .bool true]) ∧ Below w.heap.size w w') := Lib.hid fun w => by
      have := hull10 x0 x1 y0 y1 w
      rw [hH, hHL, hHH] at this
      exact this
    have IH1 := Lib.hid (fun w => inside_yes (a := x0) (b := x1) (c := HL) (d := HH) (by omega) (by omega) w)
    have IH2 := Lib.hid (fun w => inside_yes (a := y0) (b := y1) (c := HL) (d := HH) (by omega) (by omega) w)
    have hL : HL = x0 ∨ (¬ HL = x0 ∧ HL = y0) := by omega
    have hHi : HH = x1 ∨ (¬ HH = x1 ∧ HH = y1) := by omega
    have HL1 := Lib.hid hL
    have HH1 := Lib.hid hHi
    clear hL hHi hH hHL hHH hx0 hy0
    rcases hM with ⟨hle, hM⟩ | ⟨hlt, hM⟩
    · have RM : Hid (∀ w, Calls Try.prog 11 #[.agg #[.int .i64 x0, .int .i64 x1], .agg #[.int .i64 y0, .int .i64 y1]] w fun e w' => e = .returned (.tuple #[.agg #[.int .i64 (max x0 y0), .int .i64 (min x1 y1)], .bool true]) ∧ Below w.heap.size w w') := Lib.hid fun w => by
        have := meet11 x0 x1 y0 y1 w
        rw [hM] at this
        exact this
      have IM1 := Lib.hid (fun w => inside_yes (a := max x0 y0) (b := min x1 y1) (c := x0) (d := x1) (by omega) (by omega) w)
      have IM2 := Lib.hid (fun w => inside_yes (a := max x0 y0) (b := min x1 y1) (c := y0) (d := y1) (by omega) (by omega) w)
      have hle' := Lib.hid hle
      clear hM hle
      go_wp2_with fail
      refine (RH.out _).mono ?_
      rintro e w1 ⟨rfl, hb1⟩
      have hst := below_trans' hb1 hb1.size ((Below.refl w1.heap.size w1).alloc (Nat.le_refl _) (.cells #[.int .i64 HL, .int .i64 HH] 23))
      have t3 := heap_alloc_new w1 (.cells #[.int .i64 HL, .int .i64 HH] 23)
      replace hbx := below_trans' hbx hbx.size hst
      clear k0 hst hb1
      have k0 := HS.out _ hbx
      go_wp2_with fail
      generalize w1.alloc (.cells #[.int .i64 HL, .int .i64 HH] 23) = v1 at *
      generalize w1.heap.size = N1 at *
      refine (RM.out _).mono ?_
      rintro e w2 ⟨rfl, hb1⟩
      have hst := below_trans' hb1 hb1.size ((Below.refl w2.heap.size w2).alloc (Nat.le_refl _) (.cells #[.int .i64 (max x0 y0), .int .i64 (min x1 y1)] 23))
      replace t3 := blk_below hst t3
      have t4 := heap_alloc_new w2 (.cells #[.int .i64 (max x0 y0), .int .i64 (min x1 y1)] 23)
      replace hbx := below_trans' hbx hbx.size hst
      clear k0 hst hb1
      have k0 := HS.out _ hbx
      have m3 := cells2i t3
      go_wp2_with fail
      generalize w2.alloc (.cells #[.int .i64 (max x0 y0), .int .i64 (min x1 y1)] 23) = v2 at *
      generalize w2.heap.size = N2 at *
      refine (IH1.out _).mono ?_
      rintro e w3 ⟨rfl, hb1⟩
      replace hbx := below_trans' hbx hbx.size hb1
      clear k0 m3
      have k0 := HS.out _ hbx
      have m3 := cells2i (blk_below hb1 t3)
      go_wp2_with fail
      refine (IH2.out _).mono ?_
      rintro e w4 ⟨rfl, hb2⟩
      replace hbx := below_trans' hbx hbx.size hb2
      have hb12 := below_trans' hb1 hb1.size hb2
      clear k0 m3
      have k0 := HS.out _ hbx
      have m3 := cells2i (blk_below hb12 t3)
      have m4 := cells2i (blk_below hb12 t4)
      replace t4 := blk_below hb12 t4
      clear hb1 hb2 hb12 t3
      have hbe := below_trans' hbr hbr.size hbx
      rcases HL1.out with h1 | ⟨h1, h2⟩ <;> rcases HH1.out with h3 | ⟨h3, h4⟩
      all_goals
        go_wp2_with fail
        refine (IM1.out _).mono ?_
        rintro e w5 ⟨rfl, hb1⟩
        replace hbx := below_trans' hbx hbx.size hb1
        have k0 := HS.out _ hbx
        have m4 := cells2i (blk_below hb1 t4)
        go_wp2_with fail
        refine (IM2.out _).mono ?_
        rintro e w6 ⟨rfl, hb2⟩
        replace hbx := below_trans' hbx hbx.size hb2
        have hb12 := below_trans' hb1 hb1.size hb2
        have k0 := HS.out _ hbx
        have m4 := cells2i (blk_below hb12 t4)
        have hbe := below_trans' hbr hbr.size hbx
        go_wp2_with fail
        go_ret
        exact ⟨rfl, hbe⟩
    · have RM : Hid (∀ w, Calls Try.prog 11 #[.agg #[.int .i64 x0, .int .i64 x1], .agg #[.int .i64 y0, .int .i64 y1]] w fun e w' => e = .returned (.tuple #[.agg #[.int .i64 0, .int .i64 0], .bool false]) ∧ Below w.heap.size w w') := Lib.hid fun w => by
        have := meet11 x0 x1 y0 y1 w
        rw [hM] at this
        exact this
      have hle' := Lib.hid hlt
      clear hM hlt
      go_wp2_with fail
      refine (RH.out _).mono ?_
      rintro e w1 ⟨rfl, hb1⟩
      have hst := below_trans' hb1 hb1.size ((Below.refl w1.heap.size w1).alloc (Nat.le_refl _) (.cells #[.int .i64 HL, .int .i64 HH] 23))
      have t3 := heap_alloc_new w1 (.cells #[.int .i64 HL, .int .i64 HH] 23)
      replace hbx := below_trans' hbx hbx.size hst
      clear k0 hst hb1
      have k0 := HS.out _ hbx
      go_wp2_with fail
      generalize w1.alloc (.cells #[.int .i64 HL, .int .i64 HH] 23) = v1 at *
      generalize w1.heap.size = N1 at *
      refine (RM.out _).mono ?_
      rintro e w2 ⟨rfl, hb1⟩
      have hst := below_trans' hb1 hb1.size ((Below.refl w2.heap.size w2).alloc (Nat.le_refl _) (.cells #[.int .i64 0, .int .i64 0] 23))
      replace t3 := blk_below hst t3
      have t4 := heap_alloc_new w2 (.cells #[.int .i64 0, .int .i64 0] 23)
      replace hbx := below_trans' hbx hbx.size hst
      clear k0 hst hb1
      have k0 := HS.out _ hbx
      have m3 := cells2i t3
      go_wp2_with fail
      generalize w2.alloc (.cells #[.int .i64 0, .int .i64 0] 23) = v2 at *
      generalize w2.heap.size = N2 at *
      refine (IH1.out _).mono ?_
      rintro e w3 ⟨rfl, hb1⟩
      replace hbx := below_trans' hbx hbx.size hb1
      clear k0 m3
      have k0 := HS.out _ hbx
      have m3 := cells2i (blk_below hb1 t3)
      go_wp2_with fail
      refine (IH2.out _).mono ?_
      rintro e w4 ⟨rfl, hb2⟩
      replace hbx := below_trans' hbx hbx.size hb2
      have hb12 := below_trans' hb1 hb1.size hb2
      clear k0 m3
      have k0 := HS.out _ hbx
      have m3 := cells2i (blk_below hb12 t3)
      have m4 := cells2i (blk_below hb12 t4)
      replace t4 := blk_below hb12 t4
      clear hb1 hb2 hb12 t3
      have hbe := below_trans' hbr hbr.size hbx
      have hlt2 : x1 < y0 ∨ (¬ x1 < y0 ∧ y1 < x0) := by have := hle'.out; omega
      rcases HL1.out with h1 | ⟨h1, h2⟩ <;> rcases HH1.out with h3 | ⟨h3, h4⟩ <;> rcases hlt2 with h5 | ⟨h5, h6⟩
      all_goals
        go_wp2_with fail
        go_ret
        exact ⟨rfl, hbe⟩
end Go.Proofs.Ytpligjkbnlfhgaa
