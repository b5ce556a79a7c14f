/- Plain: what the reference of chapter 38 computes, as fractions with known sizes. No statement is proved here. -/
import Derived.Test.YtpligjkbnlfhgaaGreatDoorEst1
namespace Go.Proofs.YtpligjkbnlfhgaaGreatDoor

theorem q_one : ((1 : Int) : Rat) = 1 := rfl
/-- The numbers less their mean, times their count. -/
def ctr (f : Nat → Int) (n : Nat) (i : Nat) : Int := n * f i - sumF f n
/-- Partial sums of products of such numbers. -/
def scI (f g : Nat → Int) (n k : Nat) : Int := sumF (fun i => ctr f n i * ctr g n i) k
def scQ (f g : Nat → Int) (n k : Nat) : Rat := frQ (scI f g n k) (n * n)
section
variable {f g : Nat → Int} {n : Nat}
theorem ctr_bd (h : Fit f n) {i : Nat} (hi : i < n) : -1073741824 ≤ ctr f n i ∧ ctr f n i ≤ 1073741824 := by
  have a := sum_fit h
  have b := mulI_bd (x := (n : Int)) (a := 512) (b := 1048576) (by decide) (by have := h.1; omega) (h.2 i hi)
  unfold ctr
  omega
theorem ctr_q (hn : (n : Int) ≠ 0) (i : Nat) : frQ (f i) 1 - meanQ f n = frQ (ctr f n i) n := by
  have h := cast_ne hn
  unfold meanQ ctr frQ
  simp only [Rat.intCast_sub, Rat.intCast_mul, q_one]
  grind
theorem scQ_zero : scQ f g n 0 = frQ 0 1 := by
  unfold scQ scI sumF frQ
  have e0 : ((0 : Int) : Rat) = 0 := rfl
  rw [e0]; grind
theorem scQ_succ (hn : (n : Int) ≠ 0) (k : Nat) : scQ f g n (k + 1) = scQ f g n k + (frQ (f k) 1 - meanQ f n) * (frQ (g k) 1 - meanQ g n) := by
  have h := cast_ne hn
  rw [ctr_q hn, ctr_q hn]
  unfold scQ scI
  rw [sumF]
  unfold frQ
  simp only [Rat.intCast_add, Rat.intCast_mul]
  grind
theorem nn_nat (h : n ≤ 512) : (n : Int) * (n : Int) ≤ 262144 := by
  have b : (n : Int) * (n : Int) ≤ 512 * 512 := Int.mul_le_mul (by omega) (by omega) (by omega) (by omega)
  omega
theorem ctr_E2 (h : Fit f n) (h1 : 1 ≤ n) {i : Nat} (hi : i < n) : E2 30 9 (frQ (f i) 1 - meanQ f n) := by
  rw [ctr_q (by omega)]
  exact E2.of_int (by omega) (abs_of (by have := ctr_bd h hi; simpa using this)) (by have := h.1; simp; omega)
theorem scQ_E2 (h : Fit f n) (k : Fit g n) (h1 : 1 ≤ n) {j : Nat} (hj : j ≤ n) : E2 69 18 (scQ f g n j) := by
  have hs := sumF_bd (f := fun i => ctr f n i * ctr g n i) (n := j) (c := 1073741824 * 1073741824) fun i hi => mulI_bd (by decide) (ctr_bd h (by omega)) (ctr_bd k (by omega))
  have hn := n_le (c := 1073741824 * 1073741824) (Nat.le_trans hj h.1) (by decide)
  have h5 := nn_nat h.1
  have h6 : 0 ≤ (n : Int) * (n : Int) := Int.mul_nonneg (by omega) (by omega)
  exact E2.of_int (Int.mul_ne_zero (by omega) (by omega)) (abs_of ⟨by unfold scI; simp; omega, by unfold scI; simp; omega⟩) (abs_of ⟨by simp; omega, by simp; omega⟩)
theorem prod_E2 (h : Fit f n) (k : Fit g n) (h1 : 1 ≤ n) {i : Nat} (hi : i < n) : E2 60 18 ((frQ (f i) 1 - meanQ f n) * (frQ (g i) 1 - meanQ g n)) :=
  (ctr_E2 h h1 hi).mul (ctr_E2 k h1 hi)
theorem sum_sub (u v : Nat → Int) : ∀ m : Nat, sumF (fun i => u i - v i) m = sumF u m - sumF v m
  | 0 => rfl
  | m + 1 => by rw [sumF, sumF, sumF, sum_sub u v m]; omega
theorem scI_all : scI f g n n = n * covI f g n := by
  unfold scI ctr covI dotF
  have e : (fun i => ((n : Int) * f i - sumF f n) * (n * g i - sumF g n)) = fun i => ((n : Int) * n) * (f i * g i) + ((-(n * sumF g n)) * f i + ((-(n * sumF f n)) * g i + sumF f n * sumF g n)) := by
    funext i; grind
  rw [e, sumF_add, sumF_add, sumF_add, sumF_mul, sumF_mul, sumF_mul, sumF_const]
  grind
theorem cov_ref (h2 : 2 ≤ n) : scQ f g n n / frQ (n - 1) 1 = covQ f g n := by
  have h := cast_ne (d := (n : Int)) (by omega)
  have h' := cast_ne (d := (n : Int) - 1) (by omega)
  unfold scQ covQ
  rw [scI_all]
  unfold frQ
  simp only [Rat.intCast_mul, Rat.intCast_sub, q_one] at h' ⊢
  grind
theorem n1_ne (h2 : 2 ≤ n) : frQ ((n : Int) - 1) 1 ≠ 0 := fr_ne (by omega) (by decide)
theorem n1_E2 (h : n ≤ 512) (h2 : 2 ≤ n) : E2 9 0 (frQ ((n : Int) - 1) 1) := num_E2 (by simp; omega)

/-! ### Adjusted -/
def restQ (f g : Nat → Int) (n i : Nat) : Rat := frQ (f i) 1 - tQ f g n * frQ (g i) 1
def midQ (f g : Nat → Int) (n k : Nat) : Rat := frQ (sumF f k) 1 - tQ f g n * frQ (sumF g k) 1
def dQ (f g : Nat → Int) (n i : Nat) : Rat := restQ f g n i - midQ f g n n / frQ n 1
def sq2Q (f g : Nat → Int) (n k : Nat) : Rat := scQ f f n k - frQ 2 1 * (tQ f g n * scQ f g n k) + tQ f g n * tQ f g n * scQ g g n k
theorem mid_zero : midQ f g n 0 = frQ 0 1 := by
  unfold midQ sumF
  rw [fr0]; grind
theorem mid_succ (k : Nat) : midQ f g n (k + 1) = midQ f g n k + restQ f g n k := by
  unfold midQ restQ
  rw [sumF, sumF]
  unfold frQ
  simp only [Rat.intCast_add, q_one]
  grind
theorem rest_E2 (h : Fit f n) (k : Fit g n) (h2 : 2 ≤ n) {i : Nat} (hi : i < n) : E2 20 0 (frQ (g i) 1) ∧ E2 97 77 (tQ f g n * frQ (g i) 1) ∧ E2 98 77 (restQ f g n i) := by
  have a : E2 20 0 (frQ (f i) 1) := num_E2 (abs_of (by simpa using h.2 i hi))
  have b : E2 20 0 (frQ (g i) 1) := num_E2 (abs_of (by simpa using k.2 i hi))
  have c := (t_E2 h k h2).mul b
  exact ⟨b, c, (a.sub c (e := 97) (by omega) (by omega)).mono (by omega) (by omega)⟩
theorem part_fit (h : Fit f n) {k : Nat} (hk : k ≤ n) : Fit f k := ⟨Nat.le_trans hk h.1, fun i hi => h.2 i (by omega)⟩
theorem mid_E2 (h : Fit f n) (k : Fit g n) (h2 : 2 ≤ n) {j : Nat} (hj : j ≤ n) : E2 107 77 (midQ f g n j) := by
  have a : E2 29 0 (frQ (sumF f j) 1) := num_E2 (abs_of (by simpa using sum_fit (part_fit h hj)))
  have b : E2 29 0 (frQ (sumF g j) 1) := num_E2 (abs_of (by simpa using sum_fit (part_fit k hj)))
  exact (a.sub ((t_E2 h k h2).mul b) (e := 106) (by omega) (by omega)).mono (by omega) (by omega)
theorem middle_E2 (h : Fit f n) (k : Fit g n) (h2 : 2 ≤ n) : E2 107 86 (midQ f g n n / frQ n 1) :=
  (mid_E2 h k h2 (Nat.le_refl n)).div (n_E2 h.1) (fr_ne (by omega) (by decide))
theorem d_q (h1 : 1 ≤ n) (i : Nat) : dQ f g n i = (frQ (f i) 1 - meanQ f n) - tQ f g n * (frQ (g i) 1 - meanQ g n) := by
  have h := cast_ne (d := (n : Int)) (by omega)
  unfold dQ restQ midQ meanQ frQ
  simp only [q_one]
  grind
theorem d_E2 (h : Fit f n) (k : Fit g n) (h2 : 2 ≤ n) {i : Nat} (hi : i < n) : E2 117 95 (dQ f g n i) ∧ E2 234 190 (dQ f g n i * dQ f g n i) := by
  have a := ctr_E2 h (by omega) hi
  have b := (t_E2 h k h2).mul (ctr_E2 k (by omega) hi)
  have c : E2 117 95 (dQ f g n i) := by
    rw [d_q (by omega)]
    exact a.sub b (e := 116) (by omega) (by omega)
  exact ⟨c, c.mul c⟩
theorem sq2_zero : sq2Q f g n 0 = frQ 0 1 := by
  unfold sq2Q
  rw [scQ_zero, scQ_zero, scQ_zero, fr0]; grind
theorem sq2_succ (h1 : 1 ≤ n) (k : Nat) : sq2Q f g n (k + 1) = sq2Q f g n k + dQ f g n k * dQ f g n k := by
  rw [d_q h1]
  unfold sq2Q
  rw [scQ_succ (by omega), scQ_succ (by omega), scQ_succ (by omega), fr2]
  grind
theorem sq2_E2 (h : Fit f n) (k : Fit g n) (h2 : 2 ≤ n) {j : Nat} (hj : j ≤ n) : E2 339 285 (sq2Q f g n j) := by
  have t := t_E2 h k h2
  have b := (num_E2 (x := 2) (a := 1) (by decide)).mul (t.mul (scQ_E2 h k (by omega) hj))
  have c := (scQ_E2 h h (by omega) hj).sub (b.mono (c := 147) (d := 95) (by omega) (by omega)) (e := 165) (by omega) (by omega)
  have d := (t.mul t).mul (scQ_E2 k k (by omega) hj)
  exact (c.add d (e := 338) (by omega) (by omega)).mono (by omega) (by omega)
theorem adj_ref (h2 : 2 ≤ n) : sq2Q f g n n / frQ (n * (n - 1)) 1 = adjV f g n := by
  have h := cast_ne (d := (n : Int)) (by omega)
  have h' := cast_ne (d := (n : Int) - 1) (by omega)
  unfold sq2Q adjV
  rw [fr2]
  generalize tQ f g n = t
  unfold scQ covQ
  rw [scI_all, scI_all, scI_all]
  unfold frQ
  simp only [Rat.intCast_mul, Rat.intCast_sub, q_one] at h' ⊢
  grind
theorem t_ref : (if covQ g g n = 0 then frQ 0 1 else covQ f g n / covQ g g n) = tQ f g n := rfl
end
end Go.Proofs.YtpligjkbnlfhgaaGreatDoor
