/- The walk of RationalOrder. -/
import Derived.Test.YtpligjkbnlfhgaaDoorLw
namespace Go.Proofs.YtpligjkbnlfhgaaDoor
open Go.RowKit

theorem i32_bd {a : Int} (h : (Lit.int .i32 a).wf = true) : -2147483648 ≤ a ∧ a ≤ 2147483647 := by
  simpa [Lit.wf, IntKind.min, IntKind.max, IntKind.signed, IntKind.bits] using h
theorem ofQ32 {a b : Int} (h : -2147483648 ≤ a ∧ a ≤ 2147483647) (g : -2147483648 ≤ b ∧ b ≤ 2147483647) : bdR (2 ^ 31) (2 ^ 31) (ofQ a b) :=
  ofQ_bd (by omega) (by split <;> omega)
theorem fits_pow {k : Nat} {x : Rat} (h : bdR (2 ^ k) (2 ^ k) x) (hk : k ≤ 250) : fitsR x := by
  have h0 : 2 ^ k < 10 ^ 100 := Nat.lt_of_le_of_lt (Nat.pow_le_pow_right (by omega) hk) (by decide)
  have h1 : ∀ m, 100 ≤ m → 2 ^ k < 10 ^ m := fun m hm => Nat.lt_of_lt_of_le h0 (Nat.pow_le_pow_right (by omega) hm)
  exact ⟨Nat.lt_of_le_of_lt h.num (h1 400 (by decide)), Nat.lt_of_le_of_lt h.den (h1 400 (by decide))⟩
theorem bd_add {k m : Nat} {x y : Rat} (h : bdR (2 ^ k) (2 ^ k) x) (g : bdR (2 ^ m) (2 ^ m) y) : bdR (2 ^ (k + m + 1)) (2 ^ (k + m + 1)) (x + y) := by
  refine (h.add g).mono ?_ ?_
  · rw [Nat.pow_succ, Nat.pow_add, Nat.mul_comm (2 ^ m)]; omega
  · rw [Nat.pow_succ, Nat.pow_add]; exact Nat.le_mul_of_pos_right _ (by omega)
theorem bd_sub {k m : Nat} {x y : Rat} (h : bdR (2 ^ k) (2 ^ k) x) (g : bdR (2 ^ m) (2 ^ m) y) : bdR (2 ^ (k + m + 1)) (2 ^ (k + m + 1)) (x - y) := by
  rw [Rat.sub_eq_add_neg]; exact bd_add h g.neg
theorem bd_mul {k m : Nat} {x y : Rat} (h : bdR (2 ^ k) (2 ^ k) x) (g : bdR (2 ^ m) (2 ^ m) y) : bdR (2 ^ (k + m)) (2 ^ (k + m)) (x * y) := by
  refine (h.mul g).mono ?_ ?_ <;> rw [Nat.pow_add] <;> exact Nat.le_refl _

theorem sgn_cases (x : Rat) : (sgnR x = 0 ∧ x = 0) ∨ (sgnR x = -1 ∧ x.num < 0 ∧ x ≠ 0) ∨ (sgnR x = 1 ∧ ¬ x.num < 0 ∧ x ≠ 0) := by
  unfold sgnR
  by_cases h : x.num = 0
  · exact .inl ⟨if_pos h, Rat.num_eq_zero.1 h⟩
  · have hx : x ≠ 0 := fun h' => h (by rw [h']; rfl)
    rw [if_neg h]
    by_cases g : x.num < 0
    · exact .inr (.inl ⟨if_pos g, g, hx⟩)
    · exact .inr (.inr ⟨if_neg g, g, hx⟩)
theorem sgn_neg (x : Rat) : sgnR (-x) = - sgnR x := by
  unfold sgnR
  rw [Rat.neg_num]
  by_cases h : x.num = 0
  · rw [if_pos h, if_pos (by omega)]; rfl
  · rw [if_neg h, if_neg (by omega)]
    by_cases g : x.num < 0
    · rw [if_pos g, if_neg (by omega)]; rfl
    · rw [if_neg g, if_pos (by omega)]
theorem sub_swap (x y : Rat) : y - x = -(x - y) := by rw [Rat.neg_sub]
theorem sub_shift (x y z : Rat) : x + z - (y + z) = x - y := by
  rw [Rat.sub_eq_add_neg, Rat.sub_eq_add_neg, Rat.neg_add, Rat.add_assoc, Rat.add_comm (-y), ← Rat.add_assoc z, Rat.add_neg_cancel, Rat.zero_add]

/-- The text of a numerator. -/
theorem tx_zero {A B : ByteArray} (h : Tx A B 0) : A = ⟨#[48]⟩ := by
  have e := h.2
  have e0 : txt 0 = ([48], [49]) := by
    unfold txt
    have h1 : (0 : Rat).num.natAbs = 0 := rfl
    have h2 : (0 : Rat).den = 1 := rfl
    rw [h1, h2]
    have e3 : decT 0 = [48] := by unfold decT; rfl
    have e2 : decT 1 = [49] := by unfold decT; rfl
    rw [e3, e2]; rfl
  rw [e0] at e
  simp only [Prod.mk.injEq] at e
  exact ba_ext e.1.symm
theorem tx_head {A B : ByteArray} {x : Rat} (h : Tx A B x) (hx : x ≠ 0) : A.data.toList ≠ [48] ∧ A.data.toList ≠ [] ∧ negL A.data.toList = decide (x.num < 0) := by
  have e := h.2
  unfold txt at e
  simp only [Prod.mk.injEq] at e
  have hp := (decT_spec x.num.natAbs).1
  have hn := (negL_sign (b := decide (x.num < 0)) hp)
  rw [← e.1]
  refine ⟨fun h => ?_, fun h => ?_, hn.1⟩
  · have h1 : absL (signT (decide (x.num < 0)) (decT x.num.natAbs)) = decT x.num.natAbs := hn.2
    have h2 := hn.1
    rw [h] at h1 h2
    have h3 : absL [48] = [48] := rfl
    rw [h3] at h1
    have := hp.zero.2 h1.symm
    rw [(decT_spec x.num.natAbs).2.1] at this
    exact hx (Rat.num_eq_zero.1 (Int.natAbs_eq_zero.1 this))
  · have h1 := hn.2
    rw [h] at h1
    exact hp.ne h1.symm

set_option maxRecDepth 100000 in
set_option maxHeartbeats 4000000 in
theorem rationalOrder8 (a0 a1 a2 a3 a4 a5 : Int) (w : World) (w0 : (Lit.int .i32 a0).wf = true) (w1 : (Lit.int .i32 a1).wf = true) (w2 : (Lit.int .i32 a2).wf = true) (w3 : (Lit.int .i32 a3).wf = true) (w4 : (Lit.int .i32 a4).wf = true) (w5 : (Lit.int .i32 a5).wf = true) :
    Calls Tryd.prog 8 #[.int .i32 a0, .int .i32 a1, .int .i32 a2, .int .i32 a3, .int .i32 a4, .int .i32 a5] w fun e w' => e = .returned (.bool true) ∧ Below w.heap.size w w' := by
  obtain ⟨b0, c0⟩ := i32_bd w0
  obtain ⟨b1, c1⟩ := i32_bd w1
  obtain ⟨b2, c2⟩ := i32_bd w2
  obtain ⟨b3, c3⟩ := i32_bd w3
  obtain ⟨b4, c4⟩ := i32_bd w4
  obtain ⟨b5, c5⟩ := i32_bd w5
  have hx := ofQ32 ⟨b0, c0⟩ ⟨b1, c1⟩
  have hy := ofQ32 ⟨b2, c2⟩ ⟨b3, c3⟩
  have hz := ofQ32 ⟨b4, c4⟩ ⟨b5, c5⟩
  clear w0 w1 w2 w3 w4 w5
  go_enter Tryd.func8, Tryd.ntmps8
  go_wp2_with fail
  refine (awake17 _).mono ?_
  rintro e v0 ⟨rfl, hb0⟩
  go_wp2_with fail
  refine (of18 a0 a1 _ (by omega) (by omega) (by omega) (by omega)).mono ?_
  rintro e v1 ⟨A1, B1, rfl, T1, hb1⟩
  have hB1 := below_trans' hb0 hb0.size hb1
  go_wp2_with fail
  refine (of18 a2 a3 _ (by omega) (by omega) (by omega) (by omega)).mono ?_
  rintro e v2 ⟨A2, B2, rfl, T2, hb2⟩
  have hB2 := below_trans' hB1 hB1.size hb2
  go_wp2_with fail
  refine (of18 a4 a5 _ (by omega) (by omega) (by omega) (by omega)).mono ?_
  rintro e v3 ⟨A3, B3, rfl, T3, hb3⟩
  have hB3 := below_trans' hB2 hB2.size hb3
  generalize ofQ a0 a1 = x at *
  generalize ofQ a2 a3 = y at *
  generalize ofQ a4 a5 = z at *
  obtain ⟨hal, g1, g2, g3⟩ := allocs3 v3 #[.string A1, .string B1] #[.string A2, .string B2] #[.string A3, .string B3] 23 23 23
  have q1 := cells2 g1
  have q2 := cells2 g2
  have q3 := cells2 g3
  have hB4 := below_trans' hB3 hB3.size hal
  clear hb0 hb1 hb2 hb3 hB1 hB2 hB3 b0 c0 b1 c1 b2 c2 b3 c3 b4 c4 b5 c5
  obtain ⟨n, hn⟩ : ∃ n, sgnR (x - y) = n := ⟨_, rfl⟩
  go_wp2_with fail
  refine (cmpX _ T1 T2).mono ?_
  rintro e v4 ⟨rfl, hb4⟩
  rw [hn]
  have HN := Lib.hid hn
  clear hn
  have Q1 := cells2 (blk_below hb4 g1)
  have Q2 := cells2 (blk_below hb4 g2)
  clear q1 q2 q3
  go_wp2_with fail
  refine (subX _ T1 T2 (fits_pow (bd_sub hx hy) (by decide))).mono ?_
  rintro e v5 ⟨A4, B4, rfl, T4, hb5⟩
  have hB5 := below_trans' hb4 hb4.size hb5
  have g5 := heap_alloc_new v5 (.cells #[.string A4, .string B4] 23)
  have hba : Below v5.heap.size v5 (v5.alloc (.cells #[.string A4, .string B4] 23)) := (Below.refl _ _).alloc (Nat.le_refl _) _
  have hB6 := below_trans' hB5 hB5.size hba
  have q4 := cells2 g5
  have P1 := cells2 (blk_below hB6 g1)
  have P3 := cells2 (blk_below hB6 g3)
  have hB7 := below_trans' hB4 hB4.size hB6
  clear Q1 Q2
  have hA0 := T4.size
  have hAm : A4.size ≤ maxLen := T4.lens.1
  have htl : A4.toList = A4.data.toList := ByteArray.toList_eq _
  have HTL := Lib.hid htl
  clear htl
  go_upto_if 52 with fail
  generalize hbz : (A4.toList == [48]) = bz
  have HBZ := Lib.hid hbz
  clear hbz
  go_cut [19] (fun s19 wx => s19 = .int .i64 n ∧ wx = v5.alloc (.cells #[.string A4, .string B4] 23))
  case first =>
    rcases sgn_cases (x - y) with ⟨hs, hz0⟩ | ⟨hs, hneg, hne⟩ | ⟨hs, hneg, hne⟩
    · have hn0 : n = 0 := by rw [← HN.out]; exact hs
      rw [hz0] at T4
      have hA4 := tx_zero T4
      have e1 : bz = true := by rw [← HBZ.out, HTL.out, hA4]; rfl
      subst e1
      subst hn0
      clear hs hz0 hA0 hAm hA4
      go_wp2_with fail
      go_meet
      case rel => exact ⟨rfl, rfl⟩
    · have hn0 : n = -1 := by rw [← HN.out]; exact hs
      obtain ⟨t1, t2, t3⟩ := tx_head T4 hne
      have hp : 0 < A4.size := hA0.2.2
      rw [decide_eq_true hneg, neg_head hp] at t3
      have e1 : bz = false := by rw [← HBZ.out, HTL.out, beq_eq_false_iff_ne]; exact t1
      subst e1
      have e2 : A4.toList.isEmpty = false := by rw [HTL.out, List.isEmpty_eq_false_iff]; exact t2
      have e4 : ¬ A4.toList = [] := by rw [HTL.out]; exact t2
      have e3 : (!A4.toList.isEmpty) = true := by rw [e2]; rfl
      unfold maxLen at hAm
      subst hn0
      clear hs hneg hne t1 t2 hA0
      go_wp2_with fail
      go_meet
      case rel => exact ⟨rfl, rfl⟩
    · have hn0 : n = 1 := by rw [← HN.out]; exact hs
      obtain ⟨t1, t2, t3⟩ := tx_head T4 hne
      have hp : 0 < A4.size := hA0.2.2
      rw [decide_eq_false hneg, neg_head hp] at t3
      have e1 : bz = false := by rw [← HBZ.out, HTL.out, beq_eq_false_iff_ne]; exact t1
      subst e1
      have e2 : A4.toList.isEmpty = false := by rw [HTL.out, List.isEmpty_eq_false_iff]; exact t2
      have e4 : ¬ A4.toList = [] := by rw [HTL.out]; exact t2
      have e3 : (!A4.toList.isEmpty) = true := by rw [e2]; rfl
      unfold maxLen at hAm
      subst hn0
      clear hs hneg hne t1 t2 hA0
      go_wp2_with fail
      go_meet
      case rel => exact ⟨rfl, rfl⟩
  case rest =>
    obtain ⟨rfl, rfl⟩ := hcut
    go_wp2_with fail
    refine (addX _ T1 T3 (fits_pow (bd_add hx hz) (by decide))).mono ?_
    rintro e v6 ⟨A5, B5, rfl, T5, hb6⟩
    have hb6' := below_trans' hB6 hB6.size hb6
    have g6 := heap_alloc_new v6 (.cells #[.string A5, .string B5] 23)
    have hbb : Below v6.heap.size v6 (v6.alloc (.cells #[.string A5, .string B5] 23)) := (Below.refl _ _).alloc (Nat.le_refl _) _
    have hB8 := below_trans' hb6' hb6'.size hbb
    have R2 := cells2 (blk_below hB8 g2)
    have R3 := cells2 (blk_below hB8 g3)
    clear P1 P3 q4
    go_wp2_with fail
    refine (addX _ T2 T3 (fits_pow (bd_add hy hz) (by decide))).mono ?_
    rintro e v7 ⟨A6, B6, rfl, T6, hb7⟩
    have hb7' := below_trans' hB8 hB8.size hb7
    have g7 := heap_alloc_new v7 (.cells #[.string A6, .string B6] 23)
    have hbc : Below v7.heap.size v7 (v7.alloc (.cells #[.string A6, .string B6] 23)) := (Below.refl _ _).alloc (Nat.le_refl _) _
    have hB9 := below_trans' hb7' hb7'.size hbc
    have S1 := cells2 (blk_below hB9 g1)
    have S2 := cells2 (blk_below hB9 g2)
    have S5 := cells2 (blk_below hbc (blk_below hb7 g6))
    have S6 := cells2 g7
    clear R2 R3
    have hcm := cmpX (v7.alloc (.cells #[.string A6, .string B6] 23)) T2 T1
    rw [sub_swap, sgn_neg, HN.out] at hcm
    have hcu := fun w => cmpX w T5 T6
    rw [sub_shift, HN.out] at hcu
    have HCU := Lib.hid hcu
    have hnb : -1 ≤ n ∧ n ≤ 1 := by
      have := HN.out
      rcases sgn_cases (x - y) with h | h | h <;> omega
    clear hcu
    go_wp2_with fail
    refine hcm.mono ?_
    rintro e v8 ⟨rfl, hb8⟩
    have U1 := cells2 (blk_below (below_trans' hB9 hB9.size hb8) g1)
    have U2 := cells2 (blk_below (below_trans' hB9 hB9.size hb8) g2)
    have U5 := cells2 (blk_below hb8 (blk_below hbc (blk_below hb7 g6)))
    have U6 := cells2 (blk_below hb8 g7)
    have hBe := below_trans' (below_trans' (below_trans' hB4 hB4.size hB8) (below_trans' hB4 hB4.size hB8).size (below_trans' hb7 hb7.size hbc)) (below_trans' (below_trans' hB4 hB4.size hB8) (below_trans' hB4 hB4.size hB8).size (below_trans' hb7 hb7.size hbc)).size hb8
    clear hcm S1 S2 S5 S6
    have hsub : ∀ r : Rat, r - r = 0 := fun r => by rw [Rat.sub_eq_add_neg, Rat.add_neg_cancel]
    by_cases hxy : x = y
    · subst hxy
      obtain ⟨rfl, rfl⟩ := T1.inj T2
      have hn0 : n = 0 := by
        rw [← HN.out]
        rcases sgn_cases (x - x) with h | h | h
        · exact h.1
        · exact absurd (hsub x) h.2.2
        · exact absurd (hsub x) h.2.2
      subst hn0
      clear hsub
      go_wp2_with fail
      refine (HCU.out _).mono ?_
      rintro e v9 ⟨rfl, hb9⟩
      go_wp2_with fail
      go_ret
      exact ⟨rfl, below_trans' hBe hBe.size hb9⟩
    · have hn0 : (n == 0) = false := by
        rw [beq_eq_false_iff_ne]
        intro h
        have hz0 : x - y = 0 := by
          rcases sgn_cases (x - y) with g | g | g
          · exact g.2
          · rw [HN.out] at g; omega
          · rw [HN.out] at g; omega
        have e : x - y + y = x := by rw [Rat.sub_eq_add_neg, Rat.add_assoc, Rat.add_comm (-y), Rat.add_neg_cancel, Rat.add_zero]
        rw [hz0, Rat.zero_add] at e
        exact hxy e.symm
      have hn1 : ¬ n = 0 := by rw [beq_eq_false_iff_ne] at hn0; exact hn0
      have hte : (¬ A1.toList = A2.toList) ∨ (A1.toList = A2.toList ∧ ¬ B1.toList = B2.toList) := by
        by_cases hA : A1.toList = A2.toList
        · refine .inr ⟨hA, fun hB => hxy ?_⟩
          have e1 : A1 = A2 := ba_ext (by rw [← ByteArray.toList_eq, ← ByteArray.toList_eq]; exact hA)
          have e2 : B1 = B2 := ba_ext (by rw [← ByteArray.toList_eq, ← ByteArray.toList_eq]; exact hB)
          subst e1
          subst e2
          exact T1.val T2
        · exact .inl hA
      clear hxy hsub
      rcases hte with hA | ⟨hA, hB⟩
      all_goals
        go_wp2_with fail
        refine (HCU.out _).mono ?_
        rintro e v9 ⟨rfl, hb9⟩
        go_wp2_with fail
        go_ret
        exact ⟨rfl, below_trans' hBe hBe.size hb9⟩
end Go.Proofs.YtpligjkbnlfhgaaDoor
