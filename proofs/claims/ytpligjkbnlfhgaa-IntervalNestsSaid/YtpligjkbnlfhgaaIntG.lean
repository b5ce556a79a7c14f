/- Roots of ends: the reference's. -/
import Derived.Test.YtpligjkbnlfhgaaIntF
namespace Go.Proofs.Ytpligjkbnlfhgaa
open Go.RowKit

/-- The root rounded up. -/
def rootU (n : Int) : Int := if rootI n * rootI n = n * 4294967296 then rootI n else rootI n + 1

theorem sq_mono {a b : Int} (h0 : 0 ≤ a) (h : a ≤ b) : a * a ≤ b * b := Int.mul_le_mul h h h0 (by omega)
theorem rootU_iff {n m : Int} (h0 : 0 ≤ n) (h1 : n ≤ 2305843009213693952) (hm : 0 ≤ m) : n * 4294967296 ≤ m * m ↔ rootU n ≤ m := by
  obtain ⟨⟨q0, q1, q2⟩, _, _⟩ := rootI_sq h0 h1
  unfold rootU
  constructor
  · intro h
    have : rootI n ≤ m := by
      refine Int.not_lt.1 fun hc => ?_
      have := sq_mono (a := m + 1) (b := rootI n) (by omega) (by omega)
      have e : (m + 1) * (m + 1) = m * m + m + m + 1 := by grind
      omega
    split
    · exact this
    · rename_i hne
      rcases Int.lt_or_le (rootI n) m with h3 | h3
      · omega
      · have : rootI n = m := by omega
        rw [this] at hne q1
        omega
  · intro h
    split at h
    · rename_i he
      have := sq_mono q0 h
      omega
    · have := sq_mono (a := rootI n + 1) (by omega) h
      omega
theorem rootU_bd {n : Int} (h0 : 0 ≤ n) (h1 : n ≤ 2305843009213693952) : 0 ≤ rootU n ∧ rootU n ≤ 140737488355328 := by
  obtain ⟨⟨q0, q1, q2⟩, _, _⟩ := rootI_sq h0 h1
  refine ⟨by unfold rootU; split <;> omega, (rootU_iff h0 h1 (by omega)).1 (by omega)⟩

set_option maxRecDepth 100000 in
set_option maxHeartbeats 1000000 in
theorem least43 (r n : Int) (w : World) (h0 : 0 ≤ n) (h1 : n ≤ 2305843009213693952) (hr : 0 ≤ r) (hr1 : r ≤ 281474976710656) :
    Calls Try.prog 43 #[.int .i64 r, .int .i64 n] w fun e w' => e = .returned (.bool (decide (rootU n ≤ r))) ∧ w = w' := by
  have hiff := rootU_iff (n := n) (m := r) h0 h1 hr
  obtain ⟨R, rfl⟩ := Int.eq_ofNat_of_zero_le hr
  obtain ⟨X, rfl⟩ := Int.eq_ofNat_of_zero_le h0
  have mr := fun w => Try.bits_Mul64 R R (by omega) (by omega) w
  obtain ⟨ph, eph⟩ : ∃ h : Int, ((R * R / 18446744073709551616 : Nat) : Int) = h := ⟨_, rfl⟩
  obtain ⟨pl, epl⟩ : ∃ h : Int, ((R * R % 18446744073709551616 : Nat) : Int) = h := ⟨_, rfl⟩
  rw [eph, epl] at mr
  obtain ⟨h, eh⟩ : ∃ h : Int, (X : Int) / 4294967296 = h := ⟨_, rfl⟩
  obtain ⟨l, el⟩ : ∃ h : Int, IntKind.u64.wrap ((X : Int) * 4294967296) = h := ⟨_, rfl⟩
  have hl : l = (X : Int) * 4294967296 % 18446744073709551616 := by rw [← el, IntKind.wrap_u64]
  rw [← Int.natCast_mul] at hiff
  have hcmp : (h < ph ∨ ph = h ∧ l ≤ pl) ↔ rootU (X : Int) ≤ (R : Int) := by
    rw [← hiff, ← eph, ← epl, ← eh, hl]; omega
  generalize rootU (X : Int) = U at *
  have MR := Lib.hid mr
  have HC := Lib.hid hcmp
  clear mr hcmp eph epl hiff hl
  by_cases c1 : h < ph
  · have hd := HC.out.1 (.inl c1)
    have HD := Lib.hid hd
    clear hd
    go_enter Try.func43, Try.ntmps43
    go_wp2_with fail
    refine (MR.out w).mono ?_
    rintro e w1 ⟨rfl, hw⟩
    cases hw
    go_wp2_with fail
    go_ret
    exact ⟨ret_bool (by simp [HD.out]), rfl⟩
  · by_cases c2 : ph = h
    · have d2 : (ph == h) = true := by simp [c2]
      have hd : decide (l ≤ pl) = decide (U ≤ (R : Int)) := by
        rw [decide_eq_decide]
        exact ⟨fun hh => HC.out.1 (.inr ⟨c2, hh⟩), fun hh => (HC.out.2 hh).elim (fun h3 => absurd h3 c1) fun h3 => h3.2⟩
      have HD := Lib.hid hd
      clear c2 hd
      go_enter Try.func43, Try.ntmps43
      go_wp2_with fail
      refine (MR.out w).mono ?_
      rintro e w1 ⟨rfl, hw⟩
      cases hw
      go_wp2_with fail
      go_ret
      exact ⟨ret_bool (by rw [← HD.out, show decide (h < ph) = false by simp; omega]; rfl), rfl⟩
    · have d2 : (ph == h) = false := by simp [c2]
      have hd : ¬ U ≤ (R : Int) := fun hh => (HC.out.2 hh).elim (fun h3 => c1 h3) fun h3 => c2 h3.1
      have HD := Lib.hid hd
      clear c2 hd
      go_enter Try.func43, Try.ntmps43
      go_wp2_with fail
      refine (MR.out w).mono ?_
      rintro e w1 ⟨rfl, hw⟩
      cases hw
      go_wp2_with fail
      go_ret
      exact ⟨ret_bool (by simp; have := HD.out; omega), rfl⟩

set_option maxRecDepth 100000 in
set_option maxHeartbeats 1000000 in
theorem root39 (n : Int) (w : World) (h0 : 0 ≤ n) (h1 : n ≤ 2305843009213693952) :
    Calls Try.prog 39 #[.int .i64 n] w fun e w' => e = .returned (.int .i64 (rootU n)) ∧ w = w' := by
  obtain ⟨u0, u1⟩ := rootU_bd h0 h1
  have ls := fun r w hr hr1 => least43 r n w h0 h1 hr hr1
  generalize rootU n = U at *
  have LS := Lib.hid ls
  clear ls
  go_enter Try.func39, Try.ntmps39
  go_wp2_with fail
  go_loopg [3, 4] 140737488355328 (fun m s t wr => ∃ lo hi : Int, 0 ≤ lo ∧ lo ≤ U ∧ U ≤ hi ∧ hi ≤ 140737488355328 ∧ m = (hi - lo).toNat ∧ s = .int .i64 lo ∧ t = .int .i64 hi ∧ wr = w)
  case atStart => exact ⟨0, 140737488355328, by omega, u0, u1, by omega, by omega, rfl, rfl, rfl⟩
  case round =>
    obtain ⟨lo, hi, a1, a2, a3, a4, hm, rfl, rfl, rfl⟩ := hrel
    have HM := Lib.hid hm
    clear hm
    by_cases hlt : lo < hi
    · obtain ⟨m, hmm⟩ : ∃ m, lo + (hi - lo) / 2 = m := ⟨_, rfl⟩
      have hmb : lo ≤ m ∧ m < hi := by omega
      have lw := LS.out m wr (by omega) (by omega)
      by_cases hU : U ≤ m
      · rw [decide_eq_true hU] at lw
        have LW := Lib.hid lw
        clear lw
        go_wp2_with fail
        refine LW.out.mono ?_
        rintro e _ ⟨rfl, rfl⟩
        go_wp2_with fail
        go_roundg (m - lo).toNat
        case measure => have := HM.out; omega
        case rel => exact ⟨lo, m, a1, a2, hU, by omega, rfl, rfl, rfl, rfl⟩
      · rw [decide_eq_false hU] at lw
        have LW := Lib.hid lw
        clear lw
        go_wp2_with fail
        refine LW.out.mono ?_
        rintro e _ ⟨rfl, rfl⟩
        go_wp2_with fail
        go_roundg (hi - (m + 1)).toNat
        case measure => have := HM.out; omega
        case rel => exact ⟨m + 1, hi, by omega, by omega, a3, a4, rfl, by go_num, rfl, rfl⟩
    · obtain rfl : lo = U := by omega
      go_wp2_with fail
      go_ret
      exact ⟨rfl, rfl⟩
end Go.Proofs.Ytpligjkbnlfhgaa
