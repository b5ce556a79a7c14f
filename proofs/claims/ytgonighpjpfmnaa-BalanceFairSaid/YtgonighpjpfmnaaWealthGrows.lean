/- The walk of flagstonelaw40.WealthGrows. -/
import Derived.Test.YtgonighpjpfmnaaThresh
namespace Go.Proofs.Ytgonighpjpfmnaa
open Go.RowKit

theorem half_bd (a : Int) : 0 ≤ IntKind.u64.wrap a / 2 ∧ IntKind.u64.wrap a / 2 ≤ 9223372036854775807 ∧ 0 ≤ IntKind.u64.wrap a / 4 ∧ IntKind.u64.wrap a / 4 ≤ 4611686018427387903 ∧ 0 ≤ IntKind.u64.wrap a ∧ IntKind.u64.wrap a ≤ 18446744073709551615 := by
  rw [IntKind.wrap_u64]
  omega

theorem div_pow_bd {x : Int} (h : 0 ≤ x) (k : Nat) : 0 ≤ x / (2 : Int) ^ k ∧ x / (2 : Int) ^ k ≤ x := by
  have hp : (1 : Int) ≤ (2 : Int) ^ k := by have := Nat.one_le_two_pow (n := k); exact_mod_cast this
  exact ⟨Int.ediv_nonneg h (by omega), Int.ediv_le_self _ h⟩

set_option maxHeartbeats 1000000 in
theorem wealthGrows11 (a0 a1 a2 a3 a4 a5 : Int) (w : World) (w0 : (Lit.int .i64 a0).wf = true) (w1 : (Lit.int .i64 a1).wf = true) (w2 : (Lit.int .i64 a2).wf = true) (w3 : (Lit.int .u8 a3).wf = true) (w4 : (Lit.int .u8 a4).wf = true) (w5 : (Lit.int .u8 a5).wf = true) :
    Calls Try.prog 11 #[.int .i64 a0, .int .i64 a1, .int .i64 a2, .int .u8 a3, .int .u8 a4, .int .u8 a5] w fun e w' => e = .returned (.bool true) ∧ Below w.heap.size w w' := by
  have b0 := bounds_i64 w0
  have b1 := bounds_i64 w1
  have b2 := bounds_i64 w2
  have b3 := bounds_u8 w3
  have b4 := bounds_u8 w4
  have b5 := bounds_u8 w5
  clear w0 w1 w2 w3 w4 w5
  have c0 := half_bd a0
  have c1 := half_bd a1
  have c2 := half_bd a2
  obtain ⟨U0, hU0⟩ : ∃ U, IntKind.u64.wrap a0 = U := ⟨_, rfl⟩
  obtain ⟨U1, hU1⟩ : ∃ U, IntKind.u64.wrap a1 = U := ⟨_, rfl⟩
  obtain ⟨U2, hU2⟩ : ∃ U, IntKind.u64.wrap a2 = U := ⟨_, rfl⟩
  rw [hU0] at c0
  rw [hU1] at c1
  rw [hU2] at c2
  have d0 := div_pow_bd c0.1 (a3 % 62).toNat
  have d1 := div_pow_bd c1.1 (a4 % 62).toNat
  have d2 := div_pow_bd c2.2.2.1 (a5 % 62).toNat
  obtain ⟨X, hX⟩ : ∃ X, U0 / 2 / (2 : Int) ^ (a3 % 62).toNat = X := ⟨_, rfl⟩
  obtain ⟨Y, hY⟩ : ∃ X, U1 / 2 / (2 : Int) ^ (a4 % 62).toNat = X := ⟨_, rfl⟩
  obtain ⟨Z, hZ⟩ : ∃ X, U2 / 4 / (2 : Int) ^ (a5 % 62).toNat = X := ⟨_, rfl⟩
  rw [hX] at d0
  rw [hY] at d1
  rw [hZ] at d2
  obtain ⟨G0, e0⟩ : ∃ G, growI a0 a1 a2 = G := ⟨_, rfl⟩
  have E0 := Lib.hid e0
  clear e0
  obtain ⟨G1, e1⟩ : ∃ G, growI (min X 2305843009213693952) Y (1 + Z) = G := ⟨_, rfl⟩
  have E1 := Lib.hid e1
  clear e1
  obtain ⟨G2, e2⟩ : ∃ G, growI 2305843009213693952 Y (1 + Z) = G := ⟨_, rfl⟩
  have E2 := Lib.hid e2
  clear e2
  obtain ⟨G3, e3⟩ : ∃ G, growI X (4611686018427387904 + Y / 2) 4611686018427387904 = G := ⟨_, rfl⟩
  have E3 := Lib.hid e3
  clear e3
  go_enter Try.func11, Try.ntmps11
  go_wp2_with fail
  refine (awake44 w).mono ?_
  rintro e w1 ⟨rfl, hb⟩
  go_wp2_with fail
  refine (grow45 a0 a1 a2 _ (by omega) (by omega)).mono ?_
  rintro e _ ⟨rfl, m045, rfl⟩
  rw [E0.out]
  go_wp2_with fail
  refine (grow46 a0 a1 a2 _ (by omega) (by omega)).mono ?_
  rintro e _ ⟨rfl, m046, rfl⟩
  rw [E0.out]
  go_wp2_with fail
  refine (grow45 (min X 2305843009213693952) Y (1 + Z) _ (by omega) (by omega)).mono ?_
  rintro e _ ⟨rfl, m145, rfl⟩
  rw [E1.out]
  go_wp2_with fail
  refine (grow46 (min X 2305843009213693952) Y (1 + Z) _ (by omega) (by omega)).mono ?_
  rintro e _ ⟨rfl, m146, rfl⟩
  rw [E1.out]
  go_wp2_with fail
  refine (grow45 2305843009213693952 Y (1 + Z) _ (by omega) (by omega)).mono ?_
  rintro e _ ⟨rfl, m245, rfl⟩
  rw [E2.out]
  go_wp2_with fail
  refine (grow46 2305843009213693952 Y (1 + Z) _ (by omega) (by omega)).mono ?_
  rintro e _ ⟨rfl, m246, rfl⟩
  rw [E2.out]
  go_wp2_with fail
  refine (grow45 X (4611686018427387904 + Y / 2) 4611686018427387904 _ (by omega) (by omega)).mono ?_
  rintro e _ ⟨rfl, m345, rfl⟩
  rw [E3.out]
  go_wp2_with fail
  refine (grow46 X (4611686018427387904 + Y / 2) 4611686018427387904 _ (by omega) (by omega)).mono ?_
  rintro e _ ⟨rfl, m346, rfl⟩
  rw [E3.out]
  go_wp2_with fail
  go_ret
  exact ⟨rfl, below_drewN hb _⟩
end Go.Proofs.Ytgonighpjpfmnaa
