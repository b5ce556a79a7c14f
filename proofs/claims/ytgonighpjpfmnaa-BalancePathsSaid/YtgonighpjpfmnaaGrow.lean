/- wealth.Grow and the reference's: w num / den, rounded down, at most MaxFixed. -/
import Derived.Test.YtgonighpjpfmnaaDiv
import Derived.Test.YtgonighpjpfmnaaShelf
import Derived.Test.YtgonighpjpfmnaaWealth0
namespace Go.Proofs.Ytgonighpjpfmnaa
open Go.RowKit

theorem grow_quot {X N D : Nat} (hD : 0 < D) (h : D ≤ X * N / 18446744073709551616) : 2305843009213693952 ≤ (X : Int) * N / D := by
  have h1 : D * 18446744073709551616 ≤ X * N := (Nat.le_div_iff_mul_le (by omega)).1 h
  have h2 : 18446744073709551616 ≤ X * N / D := (Nat.le_div_iff_mul_le hD).2 (by omega)
  have e : (X : Int) * N / D = ((X * N / D : Nat) : Int) := by simp
  omega

theorem grow45 (x n d : Int) (w : World) (hx : x ≤ 9223372036854775807) (hn : n ≤ 9223372036854775807) : Calls Try.prog 45 #[.int .i64 x, .int .i64 n, .int .i64 d] w fun e w' => e = .returned (.int .i64 (growI x n d)) ∧ ∃ m, w' = w.drewN m := by
  by_cases hg : x < 0 ∨ 2305843009213693952 < x ∨ d < 1 ∨ 4611686018427387904 < d ∨ n < 0
  · have eg : growI x n d = 0 := by rw [growI, if_pos hg]
    rw [eg]
    go_enter Try.func45, Try.ntmps45
    go_wp2_with fail
    all_goals (go_ret; exact ⟨rfl, 0, rfl⟩)
  · obtain ⟨X, rfl⟩ := Int.eq_ofNat_of_zero_le (show 0 ≤ x by omega)
    obtain ⟨N, rfl⟩ := Int.eq_ofNat_of_zero_le (show 0 ≤ n by omega)
    obtain ⟨D, rfl⟩ := Int.eq_ofNat_of_zero_le (show 0 ≤ d by omega)
    have hD : 0 < D := by omega
    have c1 : IntKind.u64.wrap (X : Int) = X := IntWalk.u64_in _ (by omega)
    have c2 : IntKind.u64.wrap (N : Int) = N := IntWalk.u64_in _ (by omega)
    have c3 : IntKind.u64.wrap (D : Int) = D := IntWalk.u64_in _ (by omega)
    have h1 : decide ((X : Int) < 0) = false := by simp
    have h2 : decide (2305843009213693952 < (X : Int)) = false := by simp; omega
    have h3 : decide ((D : Int) < 1) = false := by simp; omega
    have h4 : decide (4611686018427387904 < (D : Int)) = false := by simp; omega
    have h5 : decide ((N : Int) < 0) = false := by simp
    have eg : growI X N D = min 2305843009213693952 ((X : Int) * N / D) := by rw [growI, if_neg hg]
    rw [eg]
    obtain ⟨G, hG⟩ : ∃ G, G = min 2305843009213693952 ((X : Int) * N / D) := ⟨_, rfl⟩
    rw [← hG]
    have HG := Lib.hid hG
    clear hG
    go_enter Try.func45, Try.ntmps45
    go_wp2_with fail
    refine (Try.bits_Mul64 X N (by omega) (by omega) w).mono ?_
    rintro e w1 ⟨rfl, hw⟩
    cases hw
    obtain ⟨hi, ehi⟩ : ∃ hi, hi = X * N / 18446744073709551616 := ⟨_, rfl⟩
    obtain ⟨lo, elo⟩ : ∃ lo, lo = X * N % 18446744073709551616 := ⟨_, rfl⟩
    have es : hi * 18446744073709551616 + lo = X * N := by omega
    have hlo : lo < 18446744073709551616 := by omega
    rw [← ehi, ← elo]
    by_cases hh : D ≤ hi
    · have hq := grow_quot (X := X) (N := N) hD (by omega)
      have h6 : decide ((D : Int) ≤ (hi : Int)) = true := by simp; omega
      have em : min 2305843009213693952 ((X : Int) * N / D) = 2305843009213693952 := by omega
      have e := HG.out
      rw [em] at e
      clear ehi elo es hq em HG
      go_wp2_with fail
      go_ret
      exact ⟨by rw [e]; rfl, 0, rfl⟩
    · have h6 : decide ((D : Int) ≤ (hi : Int)) = false := by simp; omega
      have hq : (X : Int) * N / D = ((X * N / D : Nat) : Int) := by simp
      have hqb : X * N / D < 18446744073709551616 := by
        rw [Nat.div_lt_iff_lt_mul hD]; omega
      have e := HG.out
      rw [hq] at e
      have e := Lib.hid e
      clear ehi elo hq HG
      go_wp2_with fail
      refine (div88 hi lo D w (by omega) (by omega) hlo).mono ?_
      rintro e w1 ⟨rfl, m, rfl⟩
      rw [es]
      clear es
      generalize X * N / D = q at *
      go_wp2_with fail
      go_ret
      refine ⟨?_, m, rfl⟩
      have eq := e.out
      simp
      omega
theorem grow46 (x n d : Int) (w : World) (hx : x ≤ 9223372036854775807) (hn : n ≤ 9223372036854775807) : Calls Try.prog 46 #[.int .i64 x, .int .i64 n, .int .i64 d] w fun e w' => e = .returned (.int .i64 (growI x n d)) ∧ ∃ m, w' = w.drewN m := by
  by_cases hg : x < 0 ∨ 2305843009213693952 < x ∨ d < 1 ∨ 4611686018427387904 < d ∨ n < 0
  · have eg : growI x n d = 0 := by rw [growI, if_pos hg]
    rw [eg]
    go_enter Try.func46, Try.ntmps46
    go_wp2_with fail
    all_goals (go_ret; exact ⟨rfl, 0, rfl⟩)
  · obtain ⟨X, rfl⟩ := Int.eq_ofNat_of_zero_le (show 0 ≤ x by omega)
    obtain ⟨N, rfl⟩ := Int.eq_ofNat_of_zero_le (show 0 ≤ n by omega)
    obtain ⟨D, rfl⟩ := Int.eq_ofNat_of_zero_le (show 0 ≤ d by omega)
    have hD : 0 < D := by omega
    have c1 : IntKind.u64.wrap (X : Int) = X := IntWalk.u64_in _ (by omega)
    have c2 : IntKind.u64.wrap (N : Int) = N := IntWalk.u64_in _ (by omega)
    have c3 : IntKind.u64.wrap (D : Int) = D := IntWalk.u64_in _ (by omega)
    have h1 : decide ((X : Int) < 0) = false := by simp
    have h2 : decide (2305843009213693952 < (X : Int)) = false := by simp; omega
    have h3 : decide ((D : Int) < 1) = false := by simp; omega
    have h4 : decide (4611686018427387904 < (D : Int)) = false := by simp; omega
    have h5 : decide ((N : Int) < 0) = false := by simp
    have eg : growI X N D = min 2305843009213693952 ((X : Int) * N / D) := by rw [growI, if_neg hg]
    rw [eg]
    obtain ⟨G, hG⟩ : ∃ G, G = min 2305843009213693952 ((X : Int) * N / D) := ⟨_, rfl⟩
    rw [← hG]
    have HG := Lib.hid hG
    clear hG
    go_enter Try.func46, Try.ntmps46
    go_wp2_with fail
    refine (Try.bits_Mul64 X N (by omega) (by omega) w).mono ?_
    rintro e w1 ⟨rfl, hw⟩
    cases hw
    obtain ⟨hi, ehi⟩ : ∃ hi, hi = X * N / 18446744073709551616 := ⟨_, rfl⟩
    obtain ⟨lo, elo⟩ : ∃ lo, lo = X * N % 18446744073709551616 := ⟨_, rfl⟩
    have es : hi * 18446744073709551616 + lo = X * N := by omega
    have hlo : lo < 18446744073709551616 := by omega
    rw [← ehi, ← elo]
    by_cases hh : D ≤ hi
    · have hq := grow_quot (X := X) (N := N) hD (by omega)
      have h6 : decide ((D : Int) ≤ (hi : Int)) = true := by simp; omega
      have em : min 2305843009213693952 ((X : Int) * N / D) = 2305843009213693952 := by omega
      have e := HG.out
      rw [em] at e
      clear ehi elo es hq em HG
      go_wp2_with fail
      go_ret
      exact ⟨by rw [e]; rfl, 0, rfl⟩
    · have h6 : decide ((D : Int) ≤ (hi : Int)) = false := by simp; omega
      have hq : (X : Int) * N / D = ((X * N / D : Nat) : Int) := by simp
      have hqb : X * N / D < 18446744073709551616 := by
        rw [Nat.div_lt_iff_lt_mul hD]; omega
      have e := HG.out
      rw [hq] at e
      have e := Lib.hid e
      clear ehi elo hq HG
      go_wp2_with fail
      refine (div88 hi lo D w (by omega) (by omega) hlo).mono ?_
      rintro e w1 ⟨rfl, m, rfl⟩
      rw [es]
      clear es
      generalize X * N / D = q at *
      go_wp2_with fail
      go_ret
      refine ⟨?_, m, rfl⟩
      have eq := e.out
      simp
      omega
end Go.Proofs.Ytgonighpjpfmnaa
