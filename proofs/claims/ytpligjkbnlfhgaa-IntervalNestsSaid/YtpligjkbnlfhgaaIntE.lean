/- Quotients of ends: the reference's. -/
import Derived.Test.YtpligjkbnlfhgaaIntD
namespace Go.Proofs.Ytpligjkbnlfhgaa
open Go.RowKit

set_option maxRecDepth 100000 in
set_option maxHeartbeats 1000000 in
theorem quotient38 (x y : Int) (w : World) (hx : -2305843009213693952 ≤ x ∧ x ≤ 2305843009213693952) (hy : -2305843009213693952 ≤ y ∧ y ≤ 2305843009213693952) (hy0 : y ≠ 0) :
    Calls Try.prog 38 #[.int .i64 x, .int .i64 y] w fun e w' => e = .returned (pairV (fitI (quotI x y))) ∧ ∃ m, w' = w.drewN m := by
  obtain ⟨X, eX, hX⟩ := absI_bd hx
  obtain ⟨Y, eY, hY⟩ := absI_bd hy
  have hY1 : 1 ≤ Y := by unfold absI at eY; split at eY <;> omega
  have hP : quotI x y = if ((Y * 18446744073709551616 : Nat) : Int) ≤ ((X * 4294967296 : Nat) : Int) then none else if 2305843009213693952 < ((X * 4294967296 / Y : Nat) : Int) then none else some (endsI (decide (x < 0) != decide (y < 0)) ((X * 4294967296 / Y : Nat) : Int) (decide (0 < ((X * 4294967296 % Y : Nat) : Int)))) := by
    rw [quotI, eX, eY, Int.natCast_ediv, Int.natCast_emod, Int.natCast_mul, Int.natCast_mul]; rfl
  have hfig := quot_fig (X := X) (Y := Y)
  have sx := fun w => size41 x w (by omega)
  have sy := fun w => size41 y w (by omega)
  obtain ⟨bx, hbx⟩ : ∃ b, decide (x < 0) = b := ⟨_, rfl⟩
  obtain ⟨bY, hby⟩ : ∃ b, decide (y < 0) = b := ⟨_, rfl⟩
  rw [eX, hbx] at sx
  rw [eY, hby] at sy
  rw [hbx, hby] at hP
  obtain ⟨H, hH⟩ : ∃ H, X / 4294967296 = H := ⟨_, rfl⟩
  obtain ⟨L, hL⟩ : ∃ L, X * 4294967296 % 18446744073709551616 = L := ⟨_, rfl⟩
  have hHe : X * 4294967296 / 18446744073709551616 = H := by omega
  rw [hHe] at hfig
  have k1 : (X : Int) / 4294967296 = (H : Int) := by omega
  have k2 : IntKind.u64.wrap ((X : Int) * 4294967296) = (L : Int) := by rw [IntKind.wrap_u64]; omega
  have hml : L < 18446744073709551616 := by omega
  have e0 : H * 18446744073709551616 + L = X * 4294967296 := by omega
  have SX := Lib.hid sx
  have SY := Lib.hid sy
  clear sx sy eX eY hH hL hHe hbx hby
  by_cases hbig : Y ≤ H
  · have e1 : fitI (quotI x y) = none := by rw [hP, if_pos (by have := hfig.1 hbig; omega)]; rfl
    have E1 := Lib.hid e1
    have t1 : ((Y : Int) ≤ (H : Int)) := by omega
    clear hP e1 hfig e0 hml k2
    go_enter Try.func38, Try.ntmps38
    go_wp2_with fail
    refine (SX.out w).mono ?_
    rintro e _ ⟨rfl, rfl⟩
    go_wp2_with fail
    refine (SY.out w).mono ?_
    rintro e _ ⟨rfl, rfl⟩
    go_wp2_with fail
    go_ret3
    exact ⟨by rw [E1.out]; rfl, 0, rfl⟩
  · have dv := fun w => div88 H L Y w (by omega) (by omega) hml
    rw [e0] at dv
    rw [if_neg (fun hc => hbig (hfig.2 (by omega)))] at hP
    generalize hq : X * 4294967296 / Y = q at *
    generalize hr : X * 4294967296 % Y = r at *
    have DV := Lib.hid dv
    have t1 : ¬ ((Y : Int) ≤ (H : Int)) := by omega
    clear dv e0 hfig hml hq hr
    by_cases hbq : 2305843009213693952 < (q : Int)
    · rw [if_pos hbq] at hP
      have e1 : fitI (quotI x y) = none := by rw [hP]; rfl
      have E1 := Lib.hid e1
      clear hP e1
      go_enter Try.func38, Try.ntmps38
      go_wp2_with fail
      refine (SX.out w).mono ?_
      rintro e _ ⟨rfl, rfl⟩
      go_wp2_with fail
      refine (SY.out w).mono ?_
      rintro e _ ⟨rfl, rfl⟩
      go_wp2_with fail
      refine (DV.out w).mono ?_
      rintro e _ ⟨rfl, m, rfl⟩
      go_wp2_with fail
      go_ret3
      exact ⟨by rw [E1.out]; rfl, m, rfl⟩
    · rw [if_neg hbq] at hP
      obtain ⟨Q, eQ⟩ : ∃ Q : Int, (q : Int) = Q := ⟨_, rfl⟩
      obtain ⟨Rr, eR⟩ : ∃ Q : Int, (r : Int) = Q := ⟨_, rfl⟩
      have hq : 0 ≤ Q ∧ Q ≤ 4611686018427387904 := by omega
      have hq2 : ¬ 2305843009213693952 < Q := by omega
      rw [eQ, eR] at hP
      have r42 := fun w => rounded42 (bx != bY) (decide (0 < Rr)) Q w hq
      rw [← hP] at r42
      have R42 := Lib.hid r42
      have EQ := Lib.hid eQ
      have ER := Lib.hid eR
      clear hP eQ eR hbq r42
      generalize fitI (quotI x y) = R at *
      go_enter Try.func38, Try.ntmps38
      go_wp2_with fail
      refine (SX.out w).mono ?_
      rintro e _ ⟨rfl, rfl⟩
      go_wp2_with fail
      refine (SY.out w).mono ?_
      rintro e _ ⟨rfl, rfl⟩
      go_wp2_with fail
      refine (DV.out w).mono ?_
      rintro e _ ⟨rfl, m, rfl⟩
      rw [EQ.out, ER.out]
      go_wp2_with fail
      refine (R42.out _).mono ?_
      rintro e _ ⟨rfl, rfl⟩
      cases R with
      | none =>
        rw [show pairV none = .tuple #[.int .i64 0, .int .i64 0, .bool false] from rfl]
        go_wp2_with fail
        go_ret3
        exact ⟨rfl, m, rfl⟩
      | some p =>
        obtain ⟨lo, hi⟩ := p
        rw [show pairV (some (lo, hi)) = .tuple #[.int .i64 lo, .int .i64 hi, .bool true] from rfl]
        go_wp2_with fail
        go_ret3
        exact ⟨rfl, m, rfl⟩
end Go.Proofs.Ytpligjkbnlfhgaa
