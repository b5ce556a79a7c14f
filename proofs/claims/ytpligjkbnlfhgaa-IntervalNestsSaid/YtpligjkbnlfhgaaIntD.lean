/- Products and quotients of ends: the reference's. -/
import Derived.Test.YtpligjkbnlfhgaaIntC
namespace Go.Proofs.Ytpligjkbnlfhgaa
open Go.RowKit

set_option maxRecDepth 100000 in
set_option maxHeartbeats 1000000 in
theorem product37 (x y : Int) (w : World) (hx : -2305843009213693952 ≤ x ∧ x ≤ 2305843009213693952) (hy : -2305843009213693952 ≤ y ∧ y ≤ 2305843009213693952) :
    Calls Try.prog 37 #[.int .i64 x, .int .i64 y] w fun e w' => e = .returned (pairV (fitI (prodI x y))) ∧ w = w' := by
  obtain ⟨X, eX, hX⟩ := absI_bd hx
  obtain ⟨Y, eY, hY⟩ := absI_bd hy
  have hN : X * Y ≤ 2305843009213693952 * 2305843009213693952 := Nat.mul_le_mul hX hY
  have hP : prodI x y = if 19807040628566084398385987584 ≤ ((X * Y : Nat) : Int) then none else some (endsI (decide (x < 0) != decide (y < 0)) (((X * Y : Nat) : Int) / 4294967296) (decide (0 < ((X * Y : Nat) : Int) % 4294967296))) := by
    rw [prodI, eX, eY, Int.natCast_mul]
  have sx := fun w => size41 x w (by omega)
  have sy := fun w => size41 y w (by omega)
  obtain ⟨bx, hbx⟩ : ∃ b, decide (x < 0) = b := ⟨_, rfl⟩
  obtain ⟨bY, hby⟩ : ∃ b, decide (y < 0) = b := ⟨_, rfl⟩
  rw [eX, hbx] at sx
  rw [eY, hby] at sy
  rw [hbx, hby] at hP
  have hdm := Nat.div_add_mod (X * Y) 18446744073709551616
  have hml := Nat.mod_lt (X * Y) (show 0 < 18446744073709551616 by omega)
  have SX := Lib.hid sx
  have SY := Lib.hid sy
  generalize hn : X * Y = N at *
  generalize hh : N / 18446744073709551616 = H at *
  generalize hl : N % 18446744073709551616 = L at *
  have HN := Lib.hid hn
  have HH := Lib.hid hh
  have HL := Lib.hid hl
  clear hn hh hl eX eY sx sy hbx hby
  obtain ⟨h, eh⟩ : ∃ h : Int, (H : Int) = h := ⟨_, rfl⟩
  obtain ⟨l, el⟩ : ∃ h : Int, (L : Int) = h := ⟨_, rfl⟩
  have EH := Lib.hid eh
  have EL := Lib.hid el
  by_cases hbig : 1073741824 ≤ H
  · have e1 : fitI (prodI x y) = none := by rw [hP, if_pos (by omega)]; rfl
    have E1 := Lib.hid e1
    have hb3 : 0 < h / 1073741824 := by omega
    have hb1 : 1073741824 ≤ h := by omega
    clear hP e1 hdm hN eh el hbig hml
    go_enter Try.func37, Try.ntmps37
    go_wp2_with fail
    refine (SX.out w).mono ?_
    rintro e _ ⟨rfl, rfl⟩
    go_wp2_with fail
    refine (SY.out w).mono ?_
    rintro e _ ⟨rfl, rfl⟩
    go_wp2_with fail
    refine (Try.bits_Mul64 X Y (by omega) (by omega) w).mono ?_
    rintro e _ ⟨rfl, rfl⟩
    rw [HN.out, HH.out, HL.out, EH.out, EL.out]
    go_wp2_with fail
    go_ret3
    exact ⟨by rw [E1.out]; rfl, rfl⟩
  · have hor := hilo_or (H := H) (L := L) (by omega) hml
    have e1 : prodI x y = some (endsI (bx != bY) ((H * 4294967296 + L / 4294967296 : Nat) : Int) (decide (0 < (L : Int) % 4294967296))) := by
      have q1 : N / 4294967296 = H * 4294967296 + L / 4294967296 := by omega
      have q2 : N % 4294967296 = L % 4294967296 := by omega
      rw [hP, if_neg (by omega), show ((N : Int) / 4294967296) = ((N / 4294967296 : Nat) : Int) by omega, q1, show ((N : Int) % 4294967296) = ((N % 4294967296 : Nat) : Int) by omega, q2, show ((L % 4294967296 : Nat) : Int) = (L : Int) % 4294967296 by omega]
    have hq : (0 : Int) ≤ ((H * 4294967296 + L / 4294967296 : Nat) : Int) ∧ ((H * 4294967296 + L / 4294967296 : Nat) : Int) ≤ 4611686018427387904 := by omega
    generalize ((H * 4294967296 + L / 4294967296 : Nat) : Int) = Q at *
    have hb1 : 0 ≤ h ∧ h < 1073741824 := by omega
    have hb2 : 0 ≤ l ∧ l < 18446744073709551616 := by omega
    have hb3 : ¬ 0 < h / 1073741824 := by omega
    have hb4 : decide (0 < IntKind.u64.wrap (l * 4294967296)) = decide (0 < l % 4294967296) := by rw [IntKind.wrap_u64, decide_eq_decide]; omega
    rw [eh, el] at hor
    rw [el] at e1
    have r42 := fun w => rounded42 (bx != bY) (decide (0 < l % 4294967296)) Q w hq
    rw [← e1] at r42
    have R42 := Lib.hid r42
    clear eh el hbig hml hP e1 hdm hN r42
    generalize fitI (prodI x y) = R at *
    go_enter Try.func37, Try.ntmps37
    go_wp2_with fail
    refine (SX.out w).mono ?_
    rintro e _ ⟨rfl, rfl⟩
    go_wp2_with fail
    refine (SY.out w).mono ?_
    rintro e _ ⟨rfl, rfl⟩
    go_wp2_with fail
    refine (Try.bits_Mul64 X Y (by omega) (by omega) w).mono ?_
    rintro e w1 ⟨rfl, hw⟩
    cases hw
    rw [HN.out, HH.out, HL.out, EH.out, EL.out]
    go_wp2_with fail
    refine (R42.out w).mono ?_
    rintro e _ ⟨rfl, rfl⟩
    cases R with
    | none =>
      rw [show pairV none = .tuple #[.int .i64 0, .int .i64 0, .bool false] from rfl]
      go_wp2_with fail
      go_ret3
      exact ⟨rfl, rfl⟩
    | some p =>
      obtain ⟨lo, hi⟩ := p
      rw [show pairV (some (lo, hi)) = .tuple #[.int .i64 lo, .int .i64 hi, .bool true] from rfl]
      go_wp2_with fail
      go_ret3
      exact ⟨rfl, rfl⟩

/-- The figures of a quotient. -/
theorem quot_fig {X Y : Nat} : (Y ≤ X * 4294967296 / 18446744073709551616 ↔ Y * 18446744073709551616 ≤ X * 4294967296) := Nat.le_div_iff_mul_le (by omega)

set_option maxRecDepth 100000 in
set_option maxHeartbeats 1000000 in
theorem quotient32 (x y : Int) (w : World) (hx : -2305843009213693952 ≤ x ∧ x ≤ 2305843009213693952) (hy : -2305843009213693952 ≤ y ∧ y ≤ 2305843009213693952) (hy0 : y ≠ 0) :
    Calls Try.prog 32 #[.int .i64 x, .int .i64 y] w fun e w' => e = .returned (pairV (quotI x y)) ∧ ∃ m, w' = w.drewN m := by
  obtain ⟨X, eX, hX⟩ := absI_bd hx
  obtain ⟨Y, eY, hY⟩ := absI_bd hy
  have hY1 : 1 ≤ Y := by unfold absI at eY; split at eY <;> omega
  have hP : quotI x y = if ((Y * 18446744073709551616 : Nat) : Int) ≤ ((X * 4294967296 : Nat) : Int) then none else if 2305843009213693952 < ((X * 4294967296 / Y : Nat) : Int) then none else some (endsI (decide (x < 0) != decide (y < 0)) ((X * 4294967296 / Y : Nat) : Int) (decide (0 < ((X * 4294967296 % Y : Nat) : Int)))) := by
    rw [quotI, eX, eY, Int.natCast_ediv, Int.natCast_emod, Int.natCast_mul, Int.natCast_mul]; rfl
  have hfig := quot_fig (X := X) (Y := Y)
  have ax := fun w => abs34 x w (by omega)
  have ay := fun w => abs34 y w (by omega)
  rw [eX] at ax
  rw [eY] at ay
  have mu := fun w => Try.bits_Mul64 X 4294967296 (by omega) (by omega) w
  have hml := Nat.mod_lt (X * 4294967296) (show 0 < 18446744073709551616 by omega)
  have hdm := Nat.div_add_mod (X * 4294967296) 18446744073709551616
  have hmy := Nat.mod_lt (X * 4294967296) (show 0 < Y by omega)
  generalize hh : X * 4294967296 / 18446744073709551616 = H at *
  generalize hl : X * 4294967296 % 18446744073709551616 = L at *
  have AX := Lib.hid ax
  have AY := Lib.hid ay
  have MU := Lib.hid mu
  clear ax ay mu eX eY hh hl
  by_cases hbig : Y ≤ H
  · have e1 : quotI x y = none := by rw [hP, if_pos (by have := hfig.1 hbig; omega)]
    have E1 := Lib.hid e1
    clear hP e1 hfig hdm hmy hml
    go_enter Try.func32, Try.ntmps32
    go_wp2_with fail
    refine (AX.out w).mono ?_
    rintro e _ ⟨rfl, rfl⟩
    go_wp2_with fail
    refine (MU.out w).mono ?_
    rintro e w1 ⟨rfl, hw⟩
    cases hw
    go_wp2_with fail
    refine (AY.out w).mono ?_
    rintro e _ ⟨rfl, rfl⟩
    go_wp2_with fail
    go_ret3
    exact ⟨by rw [E1.out]; rfl, 0, rfl⟩
  · have dv := fun w => div88 H L Y w (by omega) (by omega) hml
    have e0 : H * 18446744073709551616 + L = X * 4294967296 := by omega
    rw [e0] at dv
    rw [if_neg (fun hc => hbig (hfig.2 (by omega)))] at hP
    generalize hq : X * 4294967296 / Y = q at *
    generalize hr : X * 4294967296 % Y = r at *
    have DV := Lib.hid dv
    clear dv e0 hfig hdm hml hmy hq hr
    by_cases hbq : 2305843009213693952 < (q : Int)
    · rw [if_pos hbq] at hP
      have E1 := Lib.hid hP
      clear hP
      go_enter Try.func32, Try.ntmps32
      go_wp2_with fail
      refine (AX.out w).mono ?_
      rintro e _ ⟨rfl, rfl⟩
      go_wp2_with fail
      refine (MU.out w).mono ?_
      rintro e w1 ⟨rfl, hw⟩
      cases hw
      go_wp2_with fail
      refine (AY.out w).mono ?_
      rintro e _ ⟨rfl, rfl⟩
      go_wp2_with fail
      refine (AY.out w).mono ?_
      rintro e _ ⟨rfl, rfl⟩
      go_wp2_with fail
      refine (DV.out w).mono ?_
      rintro e _ ⟨rfl, m, rfl⟩
      go_wp2_with fail
      go_ret3
      exact ⟨by rw [E1.out]; rfl, m, rfl⟩
    · rw [if_neg hbq] at hP
      obtain ⟨Q, eQ⟩ : ∃ Q : Int, (q : Int) = Q := ⟨_, rfl⟩
      obtain ⟨Rr, eR⟩ : ∃ Q : Int, (r : Int) = Q := ⟨_, rfl⟩
      have hq : 0 ≤ Q ∧ Q ≤ 4611686018427387904 := by omega
      have hq2 : ¬ 2305843009213693952 < Q := by omega
      rw [eQ, eR] at hP
      have E1 := Lib.hid hP
      have EQ := Lib.hid eQ
      have ER := Lib.hid eR
      clear hP eQ eR hbq
      by_cases sx : x < 0 <;> by_cases sy : y < 0
      all_goals
        go_enter Try.func32, Try.ntmps32
        go_wp2_with fail
        refine (AX.out w).mono ?_
        rintro e _ ⟨rfl, rfl⟩
        go_wp2_with fail
        refine (MU.out w).mono ?_
        rintro e w1 ⟨rfl, hw⟩
        cases hw
        go_wp2_with fail
        refine (AY.out w).mono ?_
        rintro e _ ⟨rfl, rfl⟩
        go_wp2_with fail
        refine (AY.out w).mono ?_
        rintro e _ ⟨rfl, rfl⟩
        go_wp2_with fail
        refine (DV.out w).mono ?_
        rintro e _ ⟨rfl, m, rfl⟩
        rw [EQ.out, ER.out]
        go_wp2_with fail
        refine (ends35 _ _ Q _ hq).mono ?_
        rintro e _ ⟨rfl, rfl⟩
        go_wp2_with fail
        go_ret3
        exact ⟨by rw [E1.out]; first | (simp [pairV, sx, sy]; done) | (cases decide (x < 0) <;> cases decide (y < 0) <;> rfl), m, rfl⟩
end Go.Proofs.Ytpligjkbnlfhgaa
