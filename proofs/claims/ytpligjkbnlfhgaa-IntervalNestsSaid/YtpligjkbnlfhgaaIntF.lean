/- Roots of ends: the program's. -/
import Derived.Test.YtpligjkbnlfhgaaIntA
import Derived.Deep.LoopGhost
namespace Go.Proofs.Ytpligjkbnlfhgaa
open Go.RowKit

set_option maxRecDepth 100000 in
set_option maxHeartbeats 2000000 in
theorem root22 (n : Int) (w : World) (h0 : 0 ≤ n) (h1 : n ≤ 2305843009213693952) :
    Calls Try.prog 22 #[.int .i64 n] w fun e w' => e = .returned (.tuple #[.int .i64 (rootI n), .bool (!decide (rootI n * rootI n = n * 4294967296))]) ∧ w = w' := by
  obtain ⟨X, rfl⟩ := Int.eq_ofNat_of_zero_le h0
  have hX : X ≤ 2305843009213693952 := by omega
  obtain ⟨hsq, hr0, hr1⟩ := rootI_sq h0 h1
  have mu := fun w => Try.bits_Mul64 X 4294967296 (by omega) (by omega) w
  have hT : rootB ((X : Int) * 4294967296) 48 0 = rootI X := rfl
  generalize rootI (X : Int) = T at *
  obtain ⟨N, hN⟩ : ∃ N, X * 4294967296 = N := ⟨_, rfl⟩
  have hNi : (X : Int) * 4294967296 = (N : Int) := by omega
  rw [hN] at mu
  rw [hNi] at hT hsq ⊢
  have hNb : N ≤ 9903520314283042199192993792 := by omega
  obtain ⟨nh, enh⟩ : ∃ h : Int, ((N / 18446744073709551616 : Nat) : Int) = h := ⟨_, rfl⟩
  obtain ⟨nl, enl⟩ : ∃ h : Int, ((N % 18446744073709551616 : Nat) : Int) = h := ⟨_, rfl⟩
  rw [enh, enl] at mu
  have MU := Lib.hid mu
  have HT := Lib.hid hT
  have HSQ := Lib.hid hsq
  have ENH := Lib.hid enh
  have ENL := Lib.hid enl
  have HNB := Lib.hid hNb
  have T2 := Int.eq_ofNat_of_zero_le hr0
  clear mu hT hsq enh enl hN hNi hNb
  go_enter Try.func22, Try.ntmps22
  go_wp2_with fail
  refine (MU.out w).mono ?_
  rintro e w1 ⟨rfl, hw⟩
  cases hw
  go_wp2_with fail
  go_loopg [6, 7] 48 (fun m s t wr => ∃ (k R : Nat), k ≤ 48 ∧ m = k ∧ s = .int .u64 (R : Int) ∧ t = .int .u64 ((2 ^ k / 2 : Nat) : Int) ∧ rootB (N : Int) k (R : Int) = T ∧ R + 2 ^ k ≤ 281474976710656 ∧ wr = w)
  case atStart => exact ⟨48, 0, by omega, rfl, rfl, rfl, HT.out, by decide, rfl⟩
  case round =>
    obtain ⟨k, R, hk, hm, rfl, rfl, hB, hR, rfl⟩ := hrel
    have HM := Lib.hid hm
    have HB := Lib.hid hB
    clear hm hB
    cases k with
    | zero =>
      have hRT : (R : Int) = T := HB.out
      have mr := fun w => Try.bits_Mul64 R R (by omega) (by omega) w
      obtain ⟨ph, eph⟩ : ∃ h : Int, ((R * R / 18446744073709551616 : Nat) : Int) = h := ⟨_, rfl⟩
      obtain ⟨pl, epl⟩ : ∃ h : Int, ((R * R % 18446744073709551616 : Nat) : Int) = h := ⟨_, rfl⟩
      rw [eph, epl] at mr
      have hTR : T * T = ((R * R : Nat) : Int) := by rw [← hRT, Int.natCast_mul]
      have hz : ((2 ^ 0 / 2 : Nat) : Int) = 0 := rfl
      have hcmp : (ph = nh ∧ pl = nl) ↔ T * T = N := by
        rw [hTR, ← eph, ← epl, ← ENH.out, ← ENL.out]; omega
      have MR := Lib.hid mr
      have HC := Lib.hid hcmp
      have HRT := Lib.hid hRT
      have hRb : (R : Int) ≤ 281474976710656 := by omega
      clear mr hcmp hTR eph epl hRT
      rw [hz]
      clear hz
      go_wp2_with fail
      refine (MR.out wr).mono ?_
      rintro e w1 ⟨rfl, hw⟩
      cases hw
      by_cases c1 : ph = nh
      · by_cases c2 : pl = nl
        · have hd := HC.out.1 ⟨c1, c2⟩
          have HD := Lib.hid hd
          have d1 : (ph == nh) = true := by simp [c1]
          have d2 : (ph != nh) = false := by simp [c1]
          have d3 : (pl != nl) = false := by simp [c2]
          clear c1 c2 hd
          go_wp2_with fail
          go_ret2
          exact ⟨by rw [HRT.out, HD.out]; simp, rfl⟩
        · have hd : ¬ (T * T = N) := fun h => c2 (HC.out.2 h).2
          have HD := Lib.hid hd
          have d2 : (ph != nh) = false := by simp [c1]
          have d3 : (pl != nl) = true := by simp [c2]
          clear c1 c2 hd
          go_wp2_with fail
          go_ret2
          exact ⟨by rw [HRT.out]; simp [HD.out], rfl⟩
      · have hd : ¬ (T * T = N) := fun h => c1 (HC.out.2 h).1
        have HD := Lib.hid hd
        have d2 : (ph != nh) = true := by simp [c1]
        clear c1 hd
        go_wp2_with fail
        go_ret2
        exact ⟨by rw [HRT.out]; simp [HD.out], rfl⟩
    | succ j =>
      obtain ⟨B, hBe⟩ : ∃ B, 2 ^ j = B := ⟨_, rfl⟩
      have hb1 : 2 ^ (j + 1) / 2 = B := by rw [Nat.pow_succ, hBe]; omega
      have hb2 : 2 ^ (j + 1) = 2 * B := by rw [Nat.pow_succ, hBe]; omega
      have hb3 : 1 ≤ B := by rw [← hBe]; exact Nat.one_le_two_pow
      rw [hb2] at hR
      rw [hb1]
      have hstep : rootB (N : Int) (j + 1) (R : Int) = rootB (N : Int) j (if (((R + B) * (R + B) : Nat) : Int) ≤ (N : Int) then ((R + B : Nat) : Int) else (R : Int)) := by
        rw [rootB]
        have e : ((R : Int) + (2 : Int) ^ j) = ((R + B : Nat) : Int) := by rw [← hBe]; push_cast; rfl
        rw [e, ← Int.natCast_mul]
      rw [HB.out] at hstep
      have mr := fun w => Try.bits_Mul64 (R + B) (R + B) (by omega) (by omega) w
      obtain ⟨ph, eph⟩ : ∃ h : Int, (((R + B) * (R + B) / 18446744073709551616 : Nat) : Int) = h := ⟨_, rfl⟩
      obtain ⟨pl, epl⟩ : ∃ h : Int, (((R + B) * (R + B) % 18446744073709551616 : Nat) : Int) = h := ⟨_, rfl⟩
      rw [eph, epl] at mr
      have hcmp : (ph < nh ∨ ph = nh ∧ pl ≤ nl) ↔ ((((R + B) * (R + B) : Nat) : Int) ≤ (N : Int)) := by
        rw [← eph, ← epl, ← ENH.out, ← ENL.out]; omega
      have hRB : ((R + B : Nat) : Int) = (R : Int) + (B : Int) := by omega
      rw [hRB] at mr
      have MR := Lib.hid mr
      have HC := Lib.hid hcmp
      have HS := Lib.hid hstep
      have HBE := Lib.hid hBe
      have HRB := Lib.hid hRB
      have hRb : (R : Int) + (B : Int) ≤ 281474976710656 := by omega
      have hBb : (0 : Int) < (B : Int) := by omega
      have hBn : 0 < B := by omega
      clear mr hcmp eph epl hstep hb1 hb2 hBe hRB
      by_cases hc : (((R + B) * (R + B) : Nat) : Int) ≤ (N : Int)
      · have hs := HS.out
        rw [if_pos hc] at hs
        have HS2 := Lib.hid hs
        rcases HC.out.2 hc with c1 | ⟨c1, c2⟩
        · clear hc hs
          go_wp2_with fail
          refine (MR.out wr).mono ?_
          rintro e w1 ⟨rfl, hw⟩
          cases hw
          go_wp2_with fail
          go_roundg j
          case measure => have := HM.out; omega
          case rel => exact ⟨j, R + B, by omega, rfl, by rw [HRB.out], by rw [HBE.out]; go_num, HS2.out.symm, by rw [HBE.out]; omega, rfl⟩
        · have d1 : ¬ ph < nh := by omega
          have d2 : (ph == nh) = true := by simp [c1]
          clear hc hs c1
          go_wp2_with fail
          refine (MR.out wr).mono ?_
          rintro e w1 ⟨rfl, hw⟩
          cases hw
          go_wp2_with fail
          go_roundg j
          case measure => have := HM.out; omega
          case rel => exact ⟨j, R + B, by omega, rfl, by rw [HRB.out], by rw [HBE.out]; go_num, HS2.out.symm, by rw [HBE.out]; omega, rfl⟩
      · have hs := HS.out
        rw [if_neg hc] at hs
        have HS2 := Lib.hid hs
        have hn := fun h => hc (HC.out.1 h)
        have d1 : ¬ ph < nh := fun h => hn (.inl h)
        by_cases c1 : ph = nh
        · have d2 : (ph == nh) = true := by simp [c1]
          have d3 : ¬ pl ≤ nl := fun h => hn (.inr ⟨c1, h⟩)
          clear hc hs c1 hn
          go_wp2_with fail
          refine (MR.out wr).mono ?_
          rintro e w1 ⟨rfl, hw⟩
          cases hw
          go_wp2_with fail
          go_roundg j
          case measure => have := HM.out; omega
          case rel => exact ⟨j, R, by omega, rfl, rfl, by rw [HBE.out]; go_num, HS2.out.symm, by rw [HBE.out]; omega, rfl⟩
        · have d2 : (ph == nh) = false := by simp [c1]
          clear hc hs c1 hn
          go_wp2_with fail
          refine (MR.out wr).mono ?_
          rintro e w1 ⟨rfl, hw⟩
          cases hw
          go_wp2_with fail
          go_roundg j
          case measure => have := HM.out; omega
          case rel => exact ⟨j, R, by omega, rfl, rfl, by rw [HBE.out]; go_num, HS2.out.symm, by rw [HBE.out]; omega, rfl⟩
end Go.Proofs.Ytpligjkbnlfhgaa
