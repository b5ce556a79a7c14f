/- Square roots of intervals, turned from another seat. No statement is proved here. -/
import Derived.Test.YtpligjkbnlfhgaaDoorIv2
import Derived.Deep.LoopGhost
namespace Go.Proofs.YtpligjkbnlfhgaaDoor
open Go.RowKit


set_option maxRecDepth 100000 in
set_option maxHeartbeats 2000000 in
theorem root22 (n : Int) (w : World) (h0 : 0 ≤ n) (h1 : n ≤ 2305843009213693952) :
    Calls Tryd.prog 106 #[.int .i64 n] w fun e w' => e = .returned (.tuple #[.int .i64 (rootI n), .bool (!decide (rootI n * rootI n = n * 4294967296))]) ∧ w = w' := by
  obtain ⟨X, rfl⟩ := Int.eq_ofNat_of_zero_le h0
  have hX : X ≤ 2305843009213693952 := by omega
  obtain ⟨hsq, hr0, hr1⟩ := rootI_sq h0 h1
  have mu := fun w => Tryd.bits_Mul64 X 4294967296 (by omega) (by omega) w
  have hT : rootB ((X : Int) * 4294967296) 48 0 = rootI X := rfl
  generalize rootI (X : Int) = T at *
  obtain ⟨N, hN⟩ : ∃ N, X * 4294967296 = N := ⟨_, rfl⟩
  have hNi : (X : Int) * 4294967296 = (N : Int) := by omega
  rw [hN] at mu
  rw [hNi] at hT hsq ⊢
  have hNb : N ≤ 9903520314283042199192993792 := by omega
  obtain ⟨nh, enh⟩ : ∃ h : Int, ((N / 18446744073709551616 : Nat) : Int) = h := ⟨_, rfl⟩
  obtain ⟨nl, enl⟩ : ∃ h : Int, ((N % 18446744073709551616 : Nat) : Int) = h := ⟨_, rfl⟩
  rw [enh, enl] at mu
  have MU := Lib.hid mu
  have HT := Lib.hid hT
  have HSQ := Lib.hid hsq
  have ENH := Lib.hid enh
  have ENL := Lib.hid enl
  have HNB := Lib.hid hNb
  have T2 := Int.eq_ofNat_of_zero_le hr0
  clear mu hT hsq enh enl hN hNi hNb
  go_enter Tryd.func106, Tryd.ntmps106
  go_wp2_with fail
  refine (MU.out w).mono ?_
  rintro e w1 ⟨rfl, hw⟩
  cases hw
  go_wp2_with fail
  go_loopg [6, 7] 48 (fun m s t wr => ∃ (k R : Nat), k ≤ 48 ∧ m = k ∧ s = .int .u64 (R : Int) ∧ t = .int .u64 ((2 ^ k / 2 : Nat) : Int) ∧ rootB (N : Int) k (R : Int) = T ∧ R + 2 ^ k ≤ 281474976710656 ∧ wr = w)
  case atStart => exact ⟨48, 0, by omega, rfl, rfl, rfl, HT.out, by decide, rfl⟩
  case round =>
    obtain ⟨k, R, hk, hm, rfl, rfl, hB, hR, rfl⟩ := hrel
    have HM := Lib.hid hm
    have HB := Lib.hid hB
    clear hm hB
    cases k with
    | zero =>
      have hRT : (R : Int) = T := HB.out
      have mr := fun w => Tryd.bits_Mul64 R R (by omega) (by omega) w
      obtain ⟨ph, eph⟩ : ∃ h : Int, ((R * R / 18446744073709551616 : Nat) : Int) = h := ⟨_, rfl⟩
      obtain ⟨pl, epl⟩ : ∃ h : Int, ((R * R % 18446744073709551616 : Nat) : Int) = h := ⟨_, rfl⟩
      rw [eph, epl] at mr
      have hTR : T * T = ((R * R : Nat) : Int) := by rw [← hRT, Int.natCast_mul]
      have hz : ((2 ^ 0 / 2 : Nat) : Int) = 0 := rfl
      have hcmp : (ph = nh ∧ pl = nl) ↔ T * T = N := by
        rw [hTR, ← eph, ← epl, ← ENH.out, ← ENL.out]; omega
      have MR := Lib.hid mr
      have HC := Lib.hid hcmp
      have HRT := Lib.hid hRT
      have hRb : (R : Int) ≤ 281474976710656 := by omega
      clear mr hcmp hTR eph epl hRT
      rw [hz]
      clear hz
      go_wp2_with fail
      refine (MR.out wr).mono ?_
      rintro e w1 ⟨rfl, hw⟩
      cases hw
      by_cases c1 : ph = nh
      · by_cases c2 : pl = nl
        · have hd := HC.out.1 ⟨c1, c2⟩
          have HD := Lib.hid hd
          have d1 : (ph == nh) = true := by simp [c1]
          have d2 : (ph != nh) = false := by simp [c1]
          have d3 : (pl != nl) = false := by simp [c2]
          clear c1 c2 hd
          go_wp2_with fail
          go_ret2
          exact ⟨by rw [HRT.out, HD.out]; simp, rfl⟩
        · have hd : ¬ (T * T = N) := fun h => c2 (HC.out.2 h).2
          have HD := Lib.hid hd
          have d2 : (ph != nh) = false := by simp [c1]
          have d3 : (pl != nl) = true := by simp [c2]
          clear c1 c2 hd
          go_wp2_with fail
          go_ret2
          exact ⟨by rw [HRT.out]; simp [HD.out], rfl⟩
      · have hd : ¬ (T * T = N) := fun h => c1 (HC.out.2 h).1
        have HD := Lib.hid hd
        have d2 : (ph != nh) = true := by simp [c1]
        clear c1 hd
        go_wp2_with fail
        go_ret2
        exact ⟨by rw [HRT.out]; simp [HD.out], rfl⟩
    | succ j =>
      obtain ⟨B, hBe⟩ : ∃ B, 2 ^ j = B := ⟨_, rfl⟩
      have hb1 : 2 ^ (j + 1) / 2 = B := by rw [Nat.pow_succ, hBe]; omega
      have hb2 : 2 ^ (j + 1) = 2 * B := by rw [Nat.pow_succ, hBe]; omega
      have hb3 : 1 ≤ B := by rw [← hBe]; exact Nat.one_le_two_pow
      rw [hb2] at hR
      rw [hb1]
      have hstep : rootB (N : Int) (j + 1) (R : Int) = rootB (N : Int) j (if (((R + B) * (R + B) : Nat) : Int) ≤ (N : Int) then ((R + B : Nat) : Int) else (R : Int)) := by
        rw [rootB]
        have e : ((R : Int) + (2 : Int) ^ j) = ((R + B : Nat) : Int) := by rw [← hBe]; push_cast; rfl
        rw [e, ← Int.natCast_mul]
      rw [HB.out] at hstep
      have mr := fun w => Tryd.bits_Mul64 (R + B) (R + B) (by omega) (by omega) w
      obtain ⟨ph, eph⟩ : ∃ h : Int, (((R + B) * (R + B) / 18446744073709551616 : Nat) : Int) = h := ⟨_, rfl⟩
      obtain ⟨pl, epl⟩ : ∃ h : Int, (((R + B) * (R + B) % 18446744073709551616 : Nat) : Int) = h := ⟨_, rfl⟩
      rw [eph, epl] at mr
      have hcmp : (ph < nh ∨ ph = nh ∧ pl ≤ nl) ↔ ((((R + B) * (R + B) : Nat) : Int) ≤ (N : Int)) := by
        rw [← eph, ← epl, ← ENH.out, ← ENL.out]; omega
      have hRB : ((R + B : Nat) : Int) = (R : Int) + (B : Int) := by omega
      rw [hRB] at mr
      have MR := Lib.hid mr
      have HC := Lib.hid hcmp
      have HS := Lib.hid hstep
      have HBE := Lib.hid hBe
      have HRB := Lib.hid hRB
      have hRb : (R : Int) + (B : Int) ≤ 281474976710656 := by omega
      have hBb : (0 : Int) < (B : Int) := by omega
      have hBn : 0 < B := by omega
      clear mr hcmp eph epl hstep hb1 hb2 hBe hRB
      by_cases hc : (((R + B) * (R + B) : Nat) : Int) ≤ (N : Int)
      · have hs := HS.out
        rw [if_pos hc] at hs
        have HS2 := Lib.hid hs
        rcases HC.out.2 hc with c1 | ⟨c1, c2⟩
        · clear hc hs
          go_wp2_with fail
          refine (MR.out wr).mono ?_
          rintro e w1 ⟨rfl, hw⟩
          cases hw
          go_wp2_with fail
          go_roundg j
          case measure => have := HM.out; omega
          case rel => exact ⟨j, R + B, by omega, rfl, by rw [HRB.out], by rw [HBE.out]; go_num, HS2.out.symm, by rw [HBE.out]; omega, rfl⟩
        · have d1 : ¬ ph < nh := by omega
          have d2 : (ph == nh) = true := by simp [c1]
          clear hc hs c1
          go_wp2_with fail
          refine (MR.out wr).mono ?_
          rintro e w1 ⟨rfl, hw⟩
          cases hw
          go_wp2_with fail
          go_roundg j
          case measure => have := HM.out; omega
          case rel => exact ⟨j, R + B, by omega, rfl, by rw [HRB.out], by rw [HBE.out]; go_num, HS2.out.symm, by rw [HBE.out]; omega, rfl⟩
      · have hs := HS.out
        rw [if_neg hc] at hs
        have HS2 := Lib.hid hs
        have hn := fun h => hc (HC.out.1 h)
        have d1 : ¬ ph < nh := fun h => hn (.inl h)
        by_cases c1 : ph = nh
        · have d2 : (ph == nh) = true := by simp [c1]
          have d3 : ¬ pl ≤ nl := fun h => hn (.inr ⟨c1, h⟩)
          clear hc hs c1 hn
          go_wp2_with fail
          refine (MR.out wr).mono ?_
          rintro e w1 ⟨rfl, hw⟩
          cases hw
          go_wp2_with fail
          go_roundg j
          case measure => have := HM.out; omega
          case rel => exact ⟨j, R, by omega, rfl, rfl, by rw [HBE.out]; go_num, HS2.out.symm, by rw [HBE.out]; omega, rfl⟩
        · have d2 : (ph == nh) = false := by simp [c1]
          clear hc hs c1 hn
          go_wp2_with fail
          refine (MR.out wr).mono ?_
          rintro e w1 ⟨rfl, hw⟩
          cases hw
          go_wp2_with fail
          go_roundg j
          case measure => have := HM.out; omega
          case rel => exact ⟨j, R, by omega, rfl, rfl, by rw [HBE.out]; go_num, HS2.out.symm, by rw [HBE.out]; omega, rfl⟩


/-- The root rounded up. -/
def rootU (n : Int) : Int := if rootI n * rootI n = n * 4294967296 then rootI n else rootI n + 1

theorem sq_mono {a b : Int} (h0 : 0 ≤ a) (h : a ≤ b) : a * a ≤ b * b := Int.mul_le_mul h h h0 (by omega)
theorem rootU_iff {n m : Int} (h0 : 0 ≤ n) (h1 : n ≤ 2305843009213693952) (hm : 0 ≤ m) : n * 4294967296 ≤ m * m ↔ rootU n ≤ m := by
  obtain ⟨⟨q0, q1, q2⟩, _, _⟩ := rootI_sq h0 h1
  unfold rootU
  constructor
  · intro h
    have : rootI n ≤ m := by
      refine Int.not_lt.1 fun hc => ?_
      have := sq_mono (a := m + 1) (b := rootI n) (by omega) (by omega)
      have e : (m + 1) * (m + 1) = m * m + m + m + 1 := by grind
      omega
    split
    · exact this
    · rename_i hne
      rcases Int.lt_or_le (rootI n) m with h3 | h3
      · omega
      · have : rootI n = m := by omega
        rw [this] at hne q1
        omega
  · intro h
    split at h
    · rename_i he
      have := sq_mono q0 h
      omega
    · have := sq_mono (a := rootI n + 1) (by omega) h
      omega
theorem rootU_bd {n : Int} (h0 : 0 ≤ n) (h1 : n ≤ 2305843009213693952) : 0 ≤ rootU n ∧ rootU n ≤ 140737488355328 := by
  obtain ⟨⟨q0, q1, q2⟩, _, _⟩ := rootI_sq h0 h1
  refine ⟨by unfold rootU; split <;> omega, (rootU_iff h0 h1 (by omega)).1 (by omega)⟩


theorem root_le {a b : Int} (h0 : 0 ≤ a) (h : a ≤ b) (h1 : b ≤ 2305843009213693952) : rootI a ≤ rootU b := by
  obtain ⟨⟨q0, q1, q2⟩, _, _⟩ := rootI_sq h0 (by omega)
  obtain ⟨u0, u1⟩ := rootU_bd (n := b) (by omega) h1
  have h2 := (rootU_iff (n := b) (m := rootU b) (by omega) h1 u0).2 (Int.le_refl _)
  refine Int.not_lt.1 fun hc => ?_
  have := sq_mono (a := rootU b + 1) (b := rootI a) (by omega) (by omega)
  have e : (rootU b + 1) * (rootU b + 1) = rootU b * rootU b + rootU b + rootU b + 1 := by grind
  omega

set_option maxRecDepth 100000 in
set_option maxHeartbeats 2000000 in
theorem sqrt12 (a b : Int) (w : World) : Calls Tryd.prog 58 #[.agg #[.int .i64 a, .int .i64 b]] w fun e w' => e = .returned (resV (sqrtI a b)) ∧ Below w.heap.size w w' := by
  obtain ⟨hb, g0, g1⟩ := allocs2 w (ivA a b) #[.int .i64 0, .int .i64 0] 69 69
  unfold ivA at *
  have hw1 : w.heap.size ≤ w.heap.size + 1 := by omega
  by_cases hok : inI a b = true ∧ 0 ≤ a
  · have hi1 := inI_iff.1 hok.1
    have r1 := fun w => root22 a w hok.2 (by omega)
    have r2 := fun w => root22 b w (by omega) (by omega)
    have hle := root_le hok.2 hi1.2.1 hi1.2.2
    obtain ⟨_, lo0, lo1⟩ := rootI_sq (n := a) hok.2 (by omega)
    obtain ⟨_, hi0, hi2⟩ := rootI_sq (n := b) (by omega) (by omega)
    obtain ⟨u0, u1⟩ := rootU_bd (n := b) (by omega) (by omega)
    have e1 : sqrtI a b = mkI (rootI a) (rootU b) := by
      rw [mkI, if_pos (inI_iff.2 (by omega)), sqrtI, if_pos hok]; rfl
    have hU : rootU b = if rootI b * rootI b = b * 4294967296 then rootI b else rootI b + 1 := rfl
    have md := fun w => made21 (rootI a) (rootU b) w
    rw [← e1] at md
    have e2 : sqrtI a b = some (rootI a, rootU b) := by rw [sqrtI, if_pos hok]; rfl
    rw [e2] at md
    change ∀ w, Calls Tryd.prog 99 #[.int .i64 (rootI a), .int .i64 (rootU b)] w (fun e w' => e = .returned (.tuple #[.agg #[.int .i64 (rootI a), .int .i64 (rootU b)], .bool true]) ∧ Below w.heap.size w w') at md
    have E2 := Lib.hid e2
    generalize rootI a = lo at *
    generalize hX : decide (rootI b * rootI b = b * 4294967296) = X at *
    have hU2 : rootU b = if X = true then rootI b else rootI b + 1 := by rw [hU, ← hX]; simp
    generalize rootU b = U at *
    generalize rootI b = T at *
    have HV := Lib.hid hok.1
    have R1 := Lib.hid r1
    have R2 := Lib.hid r2
    have MD := Lib.hid md
    have HU2 := Lib.hid hU2
    have ha0 := hok.2
    clear hok r1 r2 md e1 e2 hU hX hU2
    cases X
    all_goals
      go_enter Tryd.func58, Tryd.ntmps58
      go_wp2_with fail
      generalize ((w.alloc (.cells #[.int .i64 a, .int .i64 b] 69)).alloc (.cells #[.int .i64 0, .int .i64 0] 69)) = W at *
      generalize w.heap.size + 1 = G1 at *
      refine (valid15 a b W).mono ?_
      rintro e w1 ⟨rfl, hb1⟩
      rw [HV.out]
      replace g0 := (hb1.block _ (lt_of_blk g0)).trans g0
      replace g1 := (hb1.block _ (lt_of_blk g1)).trans g1
      have y0 := cell_of_block g0 0
      have y1 := cell_of_block g0 1
      simp only [List.getElem?_toArray, List.getElem?_cons_zero, List.getElem?_cons_succ] at y0 y1
      replace hb := below_trans' hb hb.size hb1
      clear hb1
      go_wp2_with fail
      refine (R1.out w1).mono ?_
      rintro e _ ⟨rfl, rfl⟩
      go_wp2_with fail
      refine (R2.out w1).mono ?_
      rintro e _ ⟨rfl, rfl⟩
      have hu := HU2.out
      simp only [if_true, Bool.false_eq_true, if_false] at hu
      subst hu
      go_wp2_with fail
      refine (MD.out w1).mono ?_
      rintro e w2 ⟨rfl, hb1⟩
      replace g1 := (hb1.block _ (lt_of_blk g1)).trans g1
      have x0 := cell_of_block g1 0
      have x1 := cell_of_block g1 1
      have f0 := free_of_block g1 0
      have f1 := free_of_block g1 1
      simp only [List.getElem?_toArray, List.getElem?_cons_zero, List.getElem?_cons_succ] at x0 x1
      replace hb := below_trans' hb hb.size hb1
      clear hb1 y0 y1
      go_wp2_with fail
      first
        | (have k := block_set (block_set g1 0 (.int .i64 lo)) 1 (.int .i64 (T + 1))
           have t0 := cell_of_block k 0
           have t1 := cell_of_block k 1
           simp only [List.getElem?_toArray, List.getElem?_cons_zero, List.getElem?_cons_succ, List.setIfInBounds_toArray, List.set_cons_zero, List.set_cons_succ] at t0 t1
           exact bodyPost_ret (v := resV (some (lo, T + 1))) (by simp [results, Tryd.results58, go_sem, t0, t1, resV]) rfl ⟨by rw [E2.out], (hb.setCell hw1 _).setCell hw1 _⟩)
        | (have k := block_set (block_set g1 0 (.int .i64 lo)) 1 (.int .i64 U)
           have t0 := cell_of_block k 0
           have t1 := cell_of_block k 1
           simp only [List.getElem?_toArray, List.getElem?_cons_zero, List.getElem?_cons_succ, List.setIfInBounds_toArray, List.set_cons_zero, List.set_cons_succ] at t0 t1
           exact bodyPost_ret (v := resV (some (lo, U))) (by simp [results, Tryd.results58, go_sem, t0, t1, resV]) rfl ⟨by rw [E2.out], (hb.setCell hw1 _).setCell hw1 _⟩)
  · have e1 : sqrtI a b = none := by rw [sqrtI, if_neg hok]
    have E1 := Lib.hid e1
    clear e1
    cases hv : inI a b with
    | false =>
      go_enter Tryd.func58, Tryd.ntmps58
      go_wp2_with fail
      generalize ((w.alloc (.cells #[.int .i64 a, .int .i64 b] 69)).alloc (.cells #[.int .i64 0, .int .i64 0] 69)) = W at *
      generalize w.heap.size + 1 = G1 at *
      refine (valid15 a b W).mono ?_
      rintro e w1 ⟨rfl, hb1⟩
      rw [hv]
      replace g0 := (hb1.block _ (lt_of_blk g0)).trans g0
      replace g1 := (hb1.block _ (lt_of_blk g1)).trans g1
      have y0 := cell_of_block g0 0
      have y1 := cell_of_block g0 1
      have x0 := cell_of_block g1 0
      have x1 := cell_of_block g1 1
      have f0 := free_of_block g1 0
      have f1 := free_of_block g1 1
      simp only [List.getElem?_toArray, List.getElem?_cons_zero, List.getElem?_cons_succ] at y0 y1 x0 x1
      replace hb := below_trans' hb hb.size hb1
      clear hb1 g0
      go_wp2_with fail
      have k := block_set (block_set g1 0 (.int .i64 0)) 1 (.int .i64 0)
      have t0 := cell_of_block k 0
      have t1 := cell_of_block k 1
      simp only [List.getElem?_toArray, List.getElem?_cons_zero, List.getElem?_cons_succ, List.setIfInBounds_toArray, List.set_cons_zero, List.set_cons_succ] at t0 t1
      exact bodyPost_ret (v := .tuple #[.agg #[.int .i64 0, .int .i64 0], .bool false]) (by simp [results, Tryd.results58, go_sem, t0, t1]) rfl ⟨by rw [E1.out]; rfl, (hb.setCell hw1 _).setCell hw1 _⟩
    | true =>
      have ha : a < 0 := by
        refine Decidable.byContradiction fun h => hok ⟨hv, by omega⟩
      go_enter Tryd.func58, Tryd.ntmps58
      go_wp2_with fail
      generalize ((w.alloc (.cells #[.int .i64 a, .int .i64 b] 69)).alloc (.cells #[.int .i64 0, .int .i64 0] 69)) = W at *
      generalize w.heap.size + 1 = G1 at *
      refine (valid15 a b W).mono ?_
      rintro e w1 ⟨rfl, hb1⟩
      rw [hv]
      replace g0 := (hb1.block _ (lt_of_blk g0)).trans g0
      replace g1 := (hb1.block _ (lt_of_blk g1)).trans g1
      have y0 := cell_of_block g0 0
      have y1 := cell_of_block g0 1
      have x0 := cell_of_block g1 0
      have x1 := cell_of_block g1 1
      have f0 := free_of_block g1 0
      have f1 := free_of_block g1 1
      simp only [List.getElem?_toArray, List.getElem?_cons_zero, List.getElem?_cons_succ] at y0 y1 x0 x1
      replace hb := below_trans' hb hb.size hb1
      clear hb1 g0
      go_wp2_with fail
      have k := block_set (block_set g1 0 (.int .i64 0)) 1 (.int .i64 0)
      have t0 := cell_of_block k 0
      have t1 := cell_of_block k 1
      simp only [List.getElem?_toArray, List.getElem?_cons_zero, List.getElem?_cons_succ, List.setIfInBounds_toArray, List.set_cons_zero, List.set_cons_succ] at t0 t1
      exact bodyPost_ret (v := .tuple #[.agg #[.int .i64 0, .int .i64 0], .bool false]) (by simp [results, Tryd.results58, go_sem, t0, t1]) rfl ⟨by rw [E1.out]; rfl, (hb.setCell hw1 _).setCell hw1 _⟩


theorem rootU_dec {n : Int} (h0 : 0 ≤ n) (h1 : n ≤ 2305843009213693952) : (if rootU n * rootU n = n * 4294967296 then rootU n else rootU n - 1) = rootI n := by
  obtain ⟨⟨q0, q1, q2⟩, _, _⟩ := rootI_sq h0 h1
  unfold rootU
  by_cases h : rootI n * rootI n = n * 4294967296
  · rw [if_pos h, if_pos h]
  · rw [if_neg h, if_neg (by omega)]; omega


set_option maxHeartbeats 1000000 in
theorem made6 (a b s : Int) (w : World) (hs : 0 ≤ s ∧ s ≤ 255) : Calls Tryd.prog 48 #[.int .i64 a, .int .i64 b, .int .u8 s] w fun e w' => ∃ lo hi, e = .returned (.agg #[.int .i64 lo, .int .i64 hi]) ∧ inI lo hi = true ∧ Below w.heap.size w w' := by
  have g0 := heap_alloc_new w (.cells #[.int .i64 0, .int .i64 0] 69)
  have hb0 : Below w.heap.size w (w.alloc (.cells #[.int .i64 0, .int .i64 0] 69)) := (Below.refl _ _).alloc (Nat.le_refl _) _
  have hw : w.heap.size ≤ w.heap.size := Nat.le_refl _
  by_cases h2 : 200 ≤ s
  · go_enter Tryd.func48, Tryd.ntmps48
    go_wp2_with fail
    generalize a / 2 ^ (3 + s % 50).toNat = A at *
    generalize b / 2 ^ (3 + s % 50).toNat = B at *
    obtain ⟨P, hP⟩ : ∃ P, max (-2305843009213693952) (min A 2305843009213693952) = P := ⟨_, rfl⟩
    rw [hP]
    obtain ⟨Q, hQ⟩ : ∃ Q, min 2305843009213693952 (P + s - 200) = Q := ⟨_, rfl⟩
    rw [hQ]
    try rw [show max (-2305843009213693952) (max (min A 2305843009213693952) Q) = max P Q by omega]
    have k := heap_alloc_new w (.cells #[.int .i64 (min P Q), .int .i64 (max P Q)] 69)
    have t0 := cell_of_block k 0
    have t1 := cell_of_block k 1
    simp only [List.getElem?_toArray, List.getElem?_cons_zero, List.getElem?_cons_succ] at t0 t1
    exact bodyPost_ret (v := .agg #[.int .i64 (min P Q), .int .i64 (max P Q)]) (by simp [results, Tryd.results48, go_sem, t0, t1]) rfl ⟨_, _, rfl, inI_iff.2 (by omega), (Below.refl _ _).alloc (Nat.le_refl _) _⟩
  · go_enter Tryd.func48, Tryd.ntmps48
    go_wp2_with fail
    generalize a / 2 ^ (3 + s % 50).toNat = A at *
    generalize b / 2 ^ (3 + s % 50).toNat = B at *
    obtain ⟨P, hP⟩ : ∃ P, max (-2305843009213693952) (min A 2305843009213693952) = P := ⟨_, rfl⟩
    rw [hP]
    obtain ⟨Q, hQ⟩ : ∃ Q, max (-2305843009213693952) (min B 2305843009213693952) = Q := ⟨_, rfl⟩
    rw [hQ]
    try rw [show max (-2305843009213693952) (max (min A 2305843009213693952) Q) = max P Q by omega]
    have k := heap_alloc_new w (.cells #[.int .i64 (min P Q), .int .i64 (max P Q)] 69)
    have t0 := cell_of_block k 0
    have t1 := cell_of_block k 1
    simp only [List.getElem?_toArray, List.getElem?_cons_zero, List.getElem?_cons_succ] at t0 t1
    exact bodyPost_ret (v := .agg #[.int .i64 (min P Q), .int .i64 (max P Q)]) (by simp [results, Tryd.results48, go_sem, t0, t1]) rfl ⟨_, _, rfl, inI_iff.2 (by omega), (Below.refl _ _).alloc (Nat.le_refl _) _⟩
end Go.Proofs.YtpligjkbnlfhgaaDoor
