/- Products of ends, rounded outward, of both texts. -/
import Derived.Test.YtpligjkbnlfhgaaIntA
namespace Go.Proofs.Ytpligjkbnlfhgaa
open Go.RowKit

/-- A pair of ends and whether there is one. -/
def pairV : IR → Value
  | some (lo, hi) => .tuple #[.int .i64 lo, .int .i64 hi, .bool true]
  | none => .tuple #[.int .i64 0, .int .i64 0, .bool false]

theorem ends35 (neg more : Bool) (q : Int) (w : World) (h : 0 ≤ q ∧ q ≤ 4611686018427387904) : Calls Try.prog 35 #[.bool neg, .int .u64 q, .bool more] w fun e w' => e = .returned (.tuple #[.int .i64 (endsI neg q more).1, .int .i64 (endsI neg q more).2]) ∧ w = w' := by
  cases neg <;> cases more
  all_goals
    go_enter Try.func35, Try.ntmps35
    go_wp2_with fail
    go_ret2
    exact ⟨by simp [endsI], rfl⟩

/-- Ends that are in range. -/
theorem fit_ends {neg more : Bool} {q : Int} (h : 0 ≤ q) : fitI (some (endsI neg q more)) = if 2305843009213693952 < (if more = true then q + 1 else q) then none else some (endsI neg q more) := by
  cases neg <;> cases more <;> simp only [endsI, fitI, if_true, Bool.false_eq_true, if_false] <;> split <;> split <;> first | rfl | omega

theorem rounded42 (neg more : Bool) (q : Int) (w : World) (h : 0 ≤ q ∧ q ≤ 4611686018427387904) : Calls Try.prog 42 #[.bool neg, .int .u64 q, .bool more] w fun e w' => e = .returned (pairV (fitI (some (endsI neg q more)))) ∧ w = w' := by
  rw [fit_ends h.1]
  by_cases hf : 2305843009213693952 < (if more = true then q + 1 else q)
  · rw [if_pos hf]
    cases neg <;> cases more
    all_goals
      simp only [if_true, Bool.false_eq_true, if_false] at hf
      go_enter Try.func42, Try.ntmps42
      go_wp2_with fail
      go_ret3
      exact ⟨rfl, rfl⟩
  · rw [if_neg hf]
    cases neg <;> cases more
    all_goals
      simp only [if_true, Bool.false_eq_true, if_false] at hf
      go_enter Try.func42, Try.ntmps42
      go_wp2_with fail
      go_ret3
      exact ⟨by simp [pairV, endsI], rfl⟩

theorem hilo_or {H L : Nat} (hH : H < 1073741824) (hL : L < 18446744073709551616) : bits .or .u64 ((H : Int) * 4294967296) ((L : Int) / 4294967296) = ((H * 4294967296 + L / 4294967296 : Nat) : Int) := by
  have h1 : H * 4294967296 < 18446744073709551616 := by omega
  have h2 : L / 4294967296 < 2 ^ 32 := by omega
  have h3 := Nat.shiftLeft_add_eq_or_of_lt h2 H
  rw [Nat.shiftLeft_eq, show (2 : Nat) ^ 32 = 4294967296 from rfl] at h3
  have h4 := bits_or_u64_nat (H * 4294967296) (L / 4294967296) h1 (by omega)
  rw [← h3] at h4
  rw [← h4]
  rfl

theorem absI_bd {x : Int} (h : -2305843009213693952 ≤ x ∧ x ≤ 2305843009213693952) : ∃ X : Nat, absI x = X ∧ X ≤ 2305843009213693952 := by
  refine ⟨(absI x).toNat, ?_, ?_⟩ <;> unfold absI <;> split <;> omega

theorem sgn_ne (x y : Int) : (decide (x < 0) != decide (y < 0)) = (decide (x < 0) != decide (y < 0)) := rfl

set_option maxRecDepth 100000 in
set_option maxHeartbeats 1000000 in
theorem product24 (x y : Int) (w : World) (hx : -2305843009213693952 ≤ x ∧ x ≤ 2305843009213693952) (hy : -2305843009213693952 ≤ y ∧ y ≤ 2305843009213693952) :
    Calls Try.prog 24 #[.int .i64 x, .int .i64 y] w fun e w' => e = .returned (pairV (prodI x y)) ∧ w = w' := by
  obtain ⟨X, eX, hX⟩ := absI_bd hx
  obtain ⟨Y, eY, hY⟩ := absI_bd hy
  have hN : X * Y ≤ 2305843009213693952 * 2305843009213693952 := Nat.mul_le_mul hX hY
  have hP : prodI x y = if 19807040628566084398385987584 ≤ ((X * Y : Nat) : Int) then none else some (endsI (decide (x < 0) != decide (y < 0)) (((X * Y : Nat) : Int) / 4294967296) (decide (0 < ((X * Y : Nat) : Int) % 4294967296))) := by
    rw [prodI, eX, eY, Int.natCast_mul]
  have hdm := Nat.div_add_mod (X * Y) 18446744073709551616
  have hml := Nat.mod_lt (X * Y) (show 0 < 18446744073709551616 by omega)
  have EX := Lib.hid eX
  have EY := Lib.hid eY
  generalize hn : X * Y = N at *
  generalize hh : N / 18446744073709551616 = H at *
  generalize hl : N % 18446744073709551616 = L at *
  have HN := Lib.hid hn
  have HH := Lib.hid hh
  have HL := Lib.hid hl
  clear hn hh hl eX eY
  by_cases hbig : 1073741824 ≤ H
  · have e1 : prodI x y = none := by rw [hP, if_pos (by omega)]
    have E1 := Lib.hid e1
    clear hP e1 hdm hN
    obtain ⟨h, eh⟩ : ∃ h : Int, (H : Int) = h := ⟨_, rfl⟩
    obtain ⟨l, el⟩ : ∃ h : Int, (L : Int) = h := ⟨_, rfl⟩
    have hb1 : 1073741824 ≤ h := by omega
    have EH := Lib.hid eh
    have EL := Lib.hid el
    clear eh el hbig hml
    go_enter Try.func24, Try.ntmps24
    go_wp2_with fail
    refine (abs34 x w (by omega)).mono ?_
    rintro e _ ⟨rfl, rfl⟩
    rw [EX.out]
    go_wp2_with fail
    refine (abs34 y w (by omega)).mono ?_
    rintro e _ ⟨rfl, rfl⟩
    rw [EY.out]
    go_wp2_with fail
    refine (Try.bits_Mul64 X Y (by omega) (by omega) w).mono ?_
    rintro e _ ⟨rfl, rfl⟩
    rw [HN.out, HH.out, HL.out, EH.out, EL.out]
    go_wp2_with fail
    go_ret3
    exact ⟨by rw [E1.out]; rfl, rfl⟩
  · have hor := hilo_or (H := H) (L := L) (by omega) hml
    have e1 : prodI x y = some (endsI (decide (x < 0) != decide (y < 0)) ((H * 4294967296 + L / 4294967296 : Nat) : Int) (decide (0 < (L : Int) % 4294967296))) := by
      have q1 : N / 4294967296 = H * 4294967296 + L / 4294967296 := by omega
      have q2 : N % 4294967296 = L % 4294967296 := by omega
      rw [hP, if_neg (by omega), show ((N : Int) / 4294967296) = ((N / 4294967296 : Nat) : Int) by omega, q1, show ((N : Int) % 4294967296) = ((N % 4294967296 : Nat) : Int) by omega, q2, show ((L % 4294967296 : Nat) : Int) = (L : Int) % 4294967296 by omega]
    have hq : (0 : Int) ≤ ((H * 4294967296 + L / 4294967296 : Nat) : Int) ∧ ((H * 4294967296 + L / 4294967296 : Nat) : Int) ≤ 4611686018427387904 := by omega
    generalize ((H * 4294967296 + L / 4294967296 : Nat) : Int) = Q at *
    obtain ⟨h, eh⟩ : ∃ h : Int, (H : Int) = h := ⟨_, rfl⟩
    obtain ⟨l, el⟩ : ∃ h : Int, (L : Int) = h := ⟨_, rfl⟩
    have hb1 : 0 ≤ h ∧ h < 1073741824 := by omega
    have hb2 : 0 ≤ l ∧ l < 18446744073709551616 := by omega
    rw [eh, el] at hor
    rw [el] at e1
    have E1 := Lib.hid e1
    have EH := Lib.hid eh
    have EL := Lib.hid el
    clear eh el hbig hml hP e1 hdm hN
    by_cases sx : x < 0 <;> by_cases sy : y < 0
    all_goals
      go_enter Try.func24, Try.ntmps24
      go_wp2_with fail
      refine (abs34 x w (by omega)).mono ?_
      rintro e _ ⟨rfl, rfl⟩
      rw [EX.out]
      go_wp2_with fail
      refine (abs34 y w (by omega)).mono ?_
      rintro e _ ⟨rfl, rfl⟩
      rw [EY.out]
      go_wp2_with fail
      refine (Try.bits_Mul64 X Y (by omega) (by omega) w).mono ?_
      rintro e _ ⟨rfl, rfl⟩
      rw [HN.out, HH.out, HL.out, EH.out, EL.out]
      go_wp2_with fail
      refine (ends35 _ _ Q _ hq).mono ?_
      rintro e _ ⟨rfl, rfl⟩
      go_wp2_with fail
      go_ret3
      exact ⟨by rw [E1.out]; first | (simp [pairV, sx, sy]; done) | (cases decide (x < 0) <;> cases decide (y < 0) <;> rfl), rfl⟩
end Go.Proofs.Ytpligjkbnlfhgaa
