/- The recursion of flagstonelaw42.reaches: its weight times the threshold is at most the wealth times all weights (Ville's inequality). -/
import Derived.Test.YtgonighpjpfmnaaBal3
namespace Go.Proofs.Ytgonighpjpfmnaa
open Go.RowKit

theorem balW_bd {x : Int} {n m : Nat} {c v : Nat → Int} {arm : Int} (h0 : 0 ≤ x) (h1 : x ≤ 2305843009213693952) : 0 ≤ balW x n m c v arm ∧ balW x n m c v arm ≤ 2305843009213693952 := by
  unfold balW
  split
  · exact ⟨growI_nonneg _ _ _, growI_le _ _ _⟩
  · exact ⟨h0, h1⟩

theorem balC_len (x : Int) (n m : Nat) (c v : Nat → Int) (arm : Int) : (balC x n m c v arm).length = n := by
  unfold balC
  split <;> simp

/-- The weighted sum of the wealths behind a step. -/
def balU (x : Int) (m : Nat) (c v : Nat → Int) : Nat → Int
  | 0 => 0
  | i + 1 => balU x m c v i + v i * balW x m m c v (i + 1)

theorem balU_fair {x : Int} {m : Nat} {c v : Nat → Int} (h0 : 0 ≤ x) (h1 : x ≤ 2305843009213693952) (hm1 : 1 ≤ m) (hm : m ≤ 8) : balU x m c v m ≤ sumI v m * x := by
  cases hC : okC c v m with
  | true =>
    have hh := okC_iff.1 hC
    have e : ∀ i, i ≤ m → balU x m c v i = balT x c v (sumI v m) (sumI c m + m) i := fun i => by
      induction i with
      | zero => intro _; rfl
      | succ i ih =>
        intro hi
        have ho : okB x m m c v ((i : Int) + 1) = true := by
          rw [okB_ok ⟨h0, h1, rfl, hm1, hm, by omega, by omega⟩]; exact hC
        simp only [balU, balT]
        rw [ih (by omega), balW, if_pos ho, show ((i : Int) + 1 - 1).toNat = i by omega]
    rw [e m (Nat.le_refl _)]
    have hs := sum_bd hC hm m (Nat.le_refl _)
    exact bal_fair h0 (by omega) (by omega) (fun i hi => by have := hh i hi; omega) rfl
  | false =>
    have e : ∀ i, i ≤ m → balU x m c v i = sumI v i * x := fun i => by
      induction i with
      | zero => intro _; simp [balU, sumI]
      | succ i ih =>
        intro hi
        have ho : okB x m m c v ((i : Int) + 1) = false := by
          rw [okB_ok ⟨h0, h1, rfl, hm1, hm, by omega, by omega⟩]; exact hC
        simp only [balU, sumI]
        rw [ih (by omega), balW, if_neg (by rw [ho]; decide), Int.add_mul]
    rw [e m (Nat.le_refl _)]
    exact Int.le_refl _

theorem pow_pos' {S : Int} (hS : 1 ≤ S) : ∀ k : Nat, 1 ≤ S ^ k
  | 0 => by simp
  | k + 1 => by
    rw [Int.pow_succ]
    have := Int.mul_le_mul (pow_pos' hS k) hS (by omega) (by have := pow_pos' hS k; omega)
    omega

theorem pow_mono' {S : Int} (hS : 1 ≤ S) (k : Nat) : S ^ k ≤ S ^ (k + 1) := by
  rw [Int.pow_succ]
  have := Int.mul_le_mul_of_nonneg_left hS (show 0 ≤ S ^ k by have := pow_pos' hS k; omega)
  omega

theorem pow_le' {S : Int} (hS : 1 ≤ S) (k : Nat) : ∀ j : Nat, S ^ k ≤ S ^ (k + j)
  | 0 => Int.le_refl _
  | j + 1 => Int.le_trans (pow_le' hS k j) (pow_mono' hS (k + j))

/-- One more summand. -/
theorem ville_step {T thr U P r a b s : Int} (h1 : T * thr ≤ U * P) (h2 : r * thr ≤ b * P) (ha : 0 ≤ a) (h3 : T ≤ s * P) (h4 : r ≤ P) : (T + a * r) * thr ≤ (U + a * b) * P ∧ T + a * r ≤ (s + a) * P := by
  have e1 : a * (r * thr) ≤ a * (b * P) := Int.mul_le_mul_of_nonneg_left h2 ha
  have e2 : a * r ≤ a * P := Int.mul_le_mul_of_nonneg_left h4 ha
  have e3 : (T + a * r) * thr = T * thr + a * (r * thr) := by rw [Int.add_mul, Int.mul_assoc]
  have e4 : (U + a * b) * P = U * P + a * (b * P) := by rw [Int.add_mul, Int.mul_assoc]
  have e5 : (s + a) * P = s * P + a * P := Int.add_mul _ _ _
  omega

def ReachesAt (A2 : Option Addr) (m c2 : Nat) (v : Nat → Int) (thr : Int) (k : Nat) : Prop :=
  ∀ (x : Int) (A1 : Option Addr) (c1 : Nat) (c : Nat → Int) (w : World), 0 ≤ x → x ≤ 2305843009213693952 → RowsAt w w.heap.size 1 A1 m (fun i => [.int .i64 (c i)]) → RowsAt w w.heap.size 1 A2 m (fun i => [.int .i64 (v i)]) →
    Calls Try.prog 55 #[.int .i64 x, .slice A1 m c1, .slice A2 m c2, .int .i64 k, .int .i64 thr] w fun e w' => ∃ r, e = .returned (.int .i64 r) ∧ (0 ≤ r ∧ r ≤ sumI v m ^ k ∧ r * thr ≤ x * sumI v m ^ k) ∧ Below w.heap.size w w'

set_option maxRecDepth 100000 in
set_option maxHeartbeats 2000000 in
theorem reachesStep (A2 : Option Addr) (m c2 : Nat) (v : Nat → Int) (thr : Int) (hm1 : 1 ≤ m) (hm : m ≤ 3) (hv : ∀ i, i < m → 1 ≤ v i ∧ v i ≤ 9) (k : Nat) (hk : k ≤ 7) (hP : sumI v m ^ k ≤ 1000000000)
    (IH : ∀ j, k = j + 1 → ReachesAt A2 m c2 v thr j) : ReachesAt A2 m c2 v thr k := by
  intro x A1 c1 c w hx hx2 h1 h2
  have hsb := fun j (hj : j ≤ m) => sumI_bd (f := v) (n := m) (a := 1) (b := 9) hv j hj
  have HSB := Lib.hid hsb
  have HV := Lib.hid hv
  have HIH := Lib.hid IH
  have hSm := hsb m (Nat.le_refl _)
  clear hsb hv IH
  go_enter Try.func55, Try.ntmps55
  go_wp2_with fail
  go_loopg [12, 11] m (fun mm i s wr => ∃ j : Nat, j ≤ m ∧ mm = m - j ∧ i = .int .i64 j ∧ s = .int .i64 (sumI v j) ∧ w = wr)
  case atStart => exact ⟨0, by omega, by omega, rfl, rfl, rfl⟩
  case round =>
    obtain ⟨j, hj, hmj, rfl, rfl, rfl⟩ := hrel
    have HMJ := Lib.hid hmj
    clear hmj
    by_cases hjm : j < m
    · obtain ⟨b, off, rfl, _, hc⟩ := h2 (by omega)
      have v0 := hc j hjm 0 _ rfl
      simp only [Nat.add_zero, Nat.mul_one] at v0
      have k1 := HSB.out j (by omega)
      have k2 := HV.out j hjm
      have e3 : sumI v (j + 1) = sumI v j + v j := rfl
      have E3 := Lib.hid e3
      clear hc h2 e3
      go_wp2_with fail
      go_roundg (m - (j + 1))
      case measure => have := HMJ.out; omega
      case rel => exact ⟨j + 1, by omega, rfl, by go_num, by rw [E3.out], rfl⟩
    · obtain rfl : j = m := by omega
      obtain ⟨S, hS⟩ : ∃ S, sumI v j = S := ⟨_, rfl⟩
      rw [hS] at hSm hP
      rw [hS]
      have HS := Lib.hid hS
      clear hS
      have hS1 : 1 ≤ S := by omega
      by_cases hxt : thr ≤ x
      · go_wp2_with fail
        go_loopg [14, 13] k (fun mm i p wr => ∃ q : Nat, q ≤ k ∧ mm = k - q ∧ i = .int .i64 q ∧ p = .int .i64 (S ^ q) ∧ w = wr)
        case atStart => exact ⟨0, by omega, by omega, rfl, by simp, rfl⟩
        case round =>
          obtain ⟨q, hq, hmq, rfl, rfl, rfl⟩ := hrel
          have HMQ := Lib.hid hmq
          clear hmq
          by_cases hqk : q < k
          · have hdk : decide ((q : Int) < k) = true := by simp; omega
            have p1 := pow_pos' hS1 q
            have p2 : S ^ q * S ≤ 1000000000 := by
              rw [← Int.pow_succ]
              have := pow_le' hS1 (q + 1) (k - (q + 1))
              rw [show q + 1 + (k - (q + 1)) = k by omega] at this
              exact Int.le_trans this hP
            have p3 : 0 ≤ S ^ q * S := Int.mul_nonneg (by omega) (by omega)
            have p4 : IntKind.i64.wrap (S ^ q * S) = S ^ q * S := IntWalk.i64_in _ (by omega)
            have e5 : S ^ (q + 1) = S ^ q * S := Int.pow_succ _ _
            have E5 := Lib.hid e5
            clear e5
            generalize S ^ q = Y at *
            go_wp2_with fail
            go_roundg (k - (q + 1))
            case measure => have := HMQ.out; omega
            case rel => exact ⟨q + 1, by omega, rfl, by go_num, by rw [E5.out], rfl⟩
          · have hdk : decide ((q : Int) < k) = false := by simp; omega
            obtain rfl : q = k := by omega
            have hp := pow_pos' hS1 q
            have hfin : S ^ q * thr ≤ x * S ^ q := by
              rw [Int.mul_comm]
              exact Int.mul_le_mul_of_nonneg_right hxt (by omega)
            go_wp2_with fail
            go_ret
            exact ⟨_, rfl, ⟨by omega, by rw [HS.out]; exact Int.le_refl _, by rw [HS.out]; exact hfin⟩, Below.refl _ _⟩
      · cases k with
        | zero =>
          go_wp2_with fail
          go_ret
          exact ⟨0, rfl, ⟨by omega, by simp, by simp; omega⟩, Below.refl _ _⟩
        | succ k =>
          have IH := HIH.out k rfl
          have hne : (((k : Int) + 1) == 0) = false := by simp; omega
          have hPk : 1 ≤ S ^ k := pow_pos' hS1 k
          have hPk2 : S ^ k ≤ 1000000000 := Int.le_trans (pow_mono' hS1 k) hP
          have hPs : S ^ (k + 1) = S ^ k * S := Int.pow_succ _ _
          rw [hPs] at hP
          have hfair := balU_fair (c := c) (v := v) hx hx2 hm1 (by omega)
          rw [HS.out] at hfair
          have HFair := Lib.hid hfair
          have HPs := Lib.hid hPs
          have IH := Lib.hid IH
          clear hPs hfair HIH
          generalize hPe : S ^ k = P at *
          have HPe := Lib.hid hPe
          clear hPe
          go_wp2_with fail
          go_loopg [16, 15] j (fun mm i s wr => ∃ (q : Nat) (T : Int), q ≤ j ∧ mm = j - q ∧ i = .int .i64 q ∧ s = .int .i64 T ∧ 0 ≤ T ∧ T ≤ sumI v q * P ∧ T * thr ≤ balU x j c v q * P ∧ Below w.heap.size w wr)
          case atStart => exact ⟨0, 0, by omega, by omega, rfl, rfl, by omega, by simp [sumI], by simp [balU], Below.refl _ _⟩
          case round =>
            obtain ⟨q, T, hq, hmq, rfl, rfl, hT0, hT1, hT2, hbr⟩ := hrel
            have HMQ := Lib.hid hmq
            have HT1 := Lib.hid hT1
            have HT2 := Lib.hid hT2
            clear hmq hT1 hT2
            by_cases hqj : q < j
            · have hdq : decide ((q : Int) < j) = true := by simp; omega
              have h1r := (h1.below hbr (Nat.le_refl _)).more hbr.size
              have h2r := (h2.below hbr (Nat.le_refl _)).more hbr.size
              have hwb := balW_bd (n := j) (m := j) (c := c) (v := v) (arm := (q : Int) + 1) hx hx2
              have hst := step52 x A1 A2 j j c1 c2 c v ((q : Int) + 1) wr (by omega) (by omega) h1r h2r
              have hU : balU x j c v (q + 1) = balU x j c v q + v q * balW x j j c v ((q : Int) + 1) := rfl
              have hSu : sumI v (q + 1) = sumI v q + v q := rfl
              have HU := Lib.hid hU
              have HSu := Lib.hid hSu
              have hvq := HV.out q hqj
              have hlc := balC_len x j j c v ((q : Int) + 1)
              generalize balW x j j c v ((q : Int) + 1) = y at *
              generalize balC x j j c v ((q : Int) + 1) = C at *
              have hst := Lib.hid hst
              clear hU hSu
              go_wp2_with fail
              refine hst.out.mono ?_
              rintro e w2 ⟨o, rfl, hown, hb2⟩
              obtain ⟨A3, cp, rfl, hcp⟩ := Own.shape hown
              have h3 := Own.rows (c := intC) intC_len 0 hown
              rw [hlc] at h3
              rw [hlc]
              have hbw := below_trans' hbr hbr.size hb2
              have h2w := (h2.below hbw (Nat.le_refl _)).more hbw.size
              clear hown hb2 h1r h2r hst hbr
              obtain ⟨b, off, hA, _, hc⟩ := h2w (by omega)
              have v0 := hc q hqj 0 _ rfl
              simp only [Nat.add_zero, Nat.mul_one] at v0
              cases hA
              clear hc
              go_upto_region 20 with fail
              have h3x : ∀ z : Beh LeW w2.drew, RowsAt z.w z.w.heap.size 1 A3 j (fun i => [.int .i64 (C.getD i 0)]) := fun z => (h3.below (Below.trans (Below.refl _ w2).drew z.h) (Nat.le_refl _)).more z.h.size
              have h2x : ∀ z : Beh LeW w2.drew, RowsAt z.w z.w.heap.size 1 (some ⟨b, off, none⟩) j (fun i => [.int .i64 (v i)]) := fun z => (h2w.below (Below.trans (Below.refl _ w2).drew z.h) (Nat.le_refl _)).more z.h.size
              have q0 : ∀ z : Beh LeW w2.drew, z.w.cell? ⟨b, off + q, none⟩ = some (.int .i64 (v q)) := fun z => by
                obtain ⟨b1, o1, hA, _, hc⟩ := h2x z (by omega)
                cases hA
                have := hc q hqj 0 _ rfl
                simpa using this
              refine wp_region_looseM (R := LeW) 12 75 [0] [(11, [], some (fun u _ => ∃ r, u = .int .i64 r ∧ 0 ≤ r ∧ r ≤ P ∧ r * thr ≤ y * P))] (by kernel_rfl) (by kernel_rfl) (by kernel_rfl) (by kernel_rfl) (fun _ _ _ _ _ _ h => h) rfl LeW.refl (fun _ _ _ => LeW.trans) ?_
              simp only [Late, List.take_succ_cons, List.drop_succ_cons, List.take_zero, List.drop_zero, Nat.sub_zero]
              repeat (go_big_quiet_step (fail))
              refine wpQuiet_nil ?_
              refine late_gen Try.func55 (by kernel_rfl) (by kernel_rfl) (fun _ _ _ _ h => h) (fun z => (IH.out y A3 cp (fun i => C.getD i 0) z.w hwb.1 hwb.2 (h3x z) (h2x z)).mono fun e w' ⟨r, he, hr, hb⟩ => ⟨_, he, hb, r, rfl, by rw [HS.out, HPe.out] at hr; exact hr⟩) rfl (by simp only [Act.put, List.setIfInBounds_toArray, List.set_cons_succ, List.set_cons_zero]; rfl) ?_
              refine wpQuiet_nil ?_
              intro z
              simp only [List.nil_append, allGens, Option.getD_some]
              rintro u ⟨r, rfl, hr0, hr1, hr2⟩
              simp only [Act.put, List.setIfInBounds_toArray, List.set_cons_succ, List.set_cons_zero]
              have hbz : Below w.heap.size w z.w := below_trans' hbw hbw.size (Below.trans (Below.refl _ w2).drew z.h)
              clear h3x h2x q0 h2w h3 hbw v0
              generalize z.w = w9 at *
              have hvs := ville_step HT2.out hr2 (show 0 ≤ v q by omega) HT1.out hr1
              rw [← HU.out, ← HSu.out] at hvs
              obtain ⟨hv1, hv2⟩ := hvs
              have hT1' := HT1.out
              have hsq := HSB.out q (by omega)
              have hsp : sumI v q * P ≤ 27 * P := Int.mul_le_mul_of_nonneg_right (by omega) (by omega)
              have m1 := mul_le4 (a := r) (b := v q) (A := 1000000000) (B := 9) (by omega) (by omega) (by omega) (by omega) (by omega)
              have m2 : 0 ≤ v q * r := Int.mul_nonneg (by omega) hr0
              have m3 : IntKind.i64.wrap (v q * r) = v q * r := IntWalk.i64_in _ (by omega)
              have HV1 := Lib.hid hv1
              have HV2 := Lib.hid hv2
              clear hv1 hv2 hr2
              go_wp2_with fail
              go_roundg (j - (q + 1))
              case measure => have := HMQ.out; omega
              case rel => exact ⟨q + 1, T + v q * r, by omega, rfl, by go_num, rfl, by omega, HV2.out, HV1.out, hbz⟩
            · have hdq : decide ((q : Int) < j) = false := by simp; omega
              obtain rfl : q = j := by omega
              have hfin1 : T ≤ S * P := by have := HT1.out; rw [HS.out] at this; exact this
              have hfin2 : T * thr ≤ x * (P * S) := by
                have h5 := HT2.out
                have h6 : balU x q c v q * P ≤ S * x * P := Int.mul_le_mul_of_nonneg_right HFair.out (by omega)
                have h7 : x * (P * S) = S * x * P := by grind
                omega
              go_wp2_with fail
              go_ret
              exact ⟨T, rfl, ⟨hT0, by rw [HS.out, HPs.out, Int.mul_comm]; exact hfin1, by rw [HS.out, HPs.out]; exact hfin2⟩, hbr⟩

theorem reaches55 (A2 : Option Addr) (m c2 : Nat) (v : Nat → Int) (thr : Int) (hm1 : 1 ≤ m) (hm : m ≤ 3) (hv : ∀ i, i < m → 1 ≤ v i ∧ v i ≤ 9) : ∀ k : Nat, k ≤ 7 → sumI v m ^ k ≤ 1000000000 → ReachesAt A2 m c2 v thr k
  | 0, h1, h2 => reachesStep A2 m c2 v thr hm1 hm hv 0 h1 h2 (fun j hj => by omega)
  | k + 1, h1, h2 => reachesStep A2 m c2 v thr hm1 hm hv (k + 1) h1 h2 (fun j hj => by
      obtain rfl : k = j := by omega
      have hS : 1 ≤ sumI v m := by have := sumI_bd (f := v) (n := m) (a := 1) (b := 9) hv m (Nat.le_refl _); omega
      exact reaches55 A2 m c2 v thr hm1 hm hv k (by omega) (Int.le_trans (pow_mono' hS k) h2))
end Go.Proofs.Ytgonighpjpfmnaa
