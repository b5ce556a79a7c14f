/- Estimates of lists of numbers: sizes, and the laws of chapter 38. Plain: no program. -/
import Derived.Test.YtpligjkbnlfhgaaGreatDoorEst0
namespace Go.Proofs.YtpligjkbnlfhgaaGreatDoor

/-- A list of numbers that fits. -/
def Fit (f : Nat → Int) (n : Nat) : Prop := n ≤ 512 ∧ ∀ i, i < n → -1048576 ≤ f i ∧ f i ≤ 1048576
theorem mulI_bd {x y a b : Int} (ha : 0 ≤ a) (h1 : -a ≤ x ∧ x ≤ a) (h2 : -b ≤ y ∧ y ≤ b) : -(a * b) ≤ x * y ∧ x * y ≤ a * b := by
  have hb : 0 ≤ b := by omega
  have h : (x * y).natAbs ≤ (a * b).natAbs := by
    rw [Int.natAbs_mul, Int.natAbs_mul]
    exact Nat.mul_le_mul (by omega) (by omega)
  have := Int.mul_nonneg ha hb
  omega
theorem n_le {n m : Nat} {c : Int} (h : n ≤ m) (hc : 0 ≤ c) : (n : Int) * c ≤ (m : Int) * c := Int.mul_le_mul_of_nonneg_right (by omega) hc
theorem sum_fit {f : Nat → Int} {n : Nat} (h : Fit f n) : -536870912 ≤ sumF f n ∧ sumF f n ≤ 536870912 := by
  have a := sumF_bd (c := 1048576) h.2
  have b := n_le (c := 1048576) h.1 (by omega)
  omega
theorem dot_fit {f g : Nat → Int} {n : Nat} (h : Fit f n) (k : Fit g n) : -562949953421312 ≤ dotF f g n ∧ dotF f g n ≤ 562949953421312 := by
  have a := sumF_bd (f := fun i => f i * g i) (n := n) (c := 1048576 * 1048576) fun i hi => mulI_bd (by omega) (h.2 i hi) (k.2 i hi)
  have b := n_le (c := 1048576 * 1048576) h.1 (by omega)
  unfold dotF; omega
theorem cov_fit {f g : Nat → Int} {n : Nat} (h : Fit f n) (k : Fit g n) : -576460752303423488 ≤ covI f g n ∧ covI f g n ≤ 576460752303423488 ∧
    -288230376151711744 ≤ (n : Int) * dotF f g n ∧ (n : Int) * dotF f g n ≤ 288230376151711744 ∧ -288230376151711744 ≤ sumF f n * sumF g n ∧ sumF f n * sumF g n ≤ 288230376151711744 := by
  have a := mulI_bd (a := 512) (x := (n : Int)) (by omega) ⟨by omega, by have := h.1; omega⟩ (dot_fit h k)
  have b := mulI_bd (by omega) (sum_fit h) (sum_fit k)
  unfold covI; omega
theorem nn_fit {n : Nat} (h : n ≤ 512) (h2 : 2 ≤ n) : 2 ≤ (n : Int) * ((n : Int) - 1) ∧ (n : Int) * ((n : Int) - 1) ≤ 262144 := by
  have a := mulI_bd (a := 512) (x := (n : Int)) (y := (n : Int) - 1) (b := 512) (by omega) ⟨by omega, by omega⟩ ⟨by omega, by omega⟩
  have b : 2 * 1 ≤ (n : Int) * ((n : Int) - 1) := Int.mul_le_mul (by omega) (by omega) (by omega) (by omega)
  omega
theorem abs_of {x : Int} {m : Nat} (h : -(m : Int) ≤ x ∧ x ≤ m) : x.natAbs ≤ m := by omega

section
variable {f g : Nat → Int} {n : Nat}
theorem mean_E2 (h : Fit f n) (h1 : 1 ≤ n) : E2 29 9 (meanQ f n) := E2.of_int (by omega) (abs_of (by have := sum_fit h; simpa using this)) (by have := h.1; simp; omega)
theorem cov_E2 (h : Fit f n) (k : Fit g n) (h2 : 2 ≤ n) : E2 59 18 (covQ f g n) := by
  have a := nn_fit h.1 h2
  have b := cov_fit h k
  exact E2.of_int (by omega) (abs_of ⟨by simpa using b.1, by simpa using b.2.1⟩) (abs_of ⟨by simp; omega, by simpa using a.2⟩)
theorem num_E2 {x : Int} {a : Nat} (h : x.natAbs ≤ 2 ^ a) : E2 a 0 (frQ x 1) := E2.of_int (by decide) h (by decide)
theorem n_E2 (h : n ≤ 512) : E2 9 0 (frQ n 1) := num_E2 (by simpa using h)
theorem fr_ne {a b : Int} (ha : a ≠ 0) (hb : b ≠ 0) : frQ a b ≠ 0 := by
  have h1 := cast_ne ha
  have h2 := cast_ne hb
  unfold frQ
  intro h
  have e : (a : Rat) / (b : Rat) * (b : Rat) = (a : Rat) := Rat.div_mul_cancel h2
  rw [h, Rat.zero_mul] at e
  exact h1 e.symm
theorem var_E2 (h : Fit f n) (h2 : 2 ≤ n) : E2 59 27 (varQ f n) := (cov_E2 h h h2).div (n_E2 h.1) (fr_ne (by omega) (by decide))
theorem t_E2 (h : Fit f n) (k : Fit g n) (h2 : 2 ≤ n) : E2 77 77 (tQ f g n) := by
  unfold tQ
  split
  · exact (num_E2 (a := 0) (by decide)).mono (by omega) (by omega)
  · next hz => exact (cov_E2 h k h2).div (cov_E2 k k h2) hz
theorem adjM_E2 {c : Rat} (h : Fit f n) (k : Fit g n) (h2 : 2 ≤ n) (hc : E2 167 167 c) : E2 197 176 (frQ (sumF g n) n - c) ∧ E2 274 253 (tQ f g n * (frQ (sumF g n) n - c)) ∧ E2 284 262 (adjM f g n c) := by
  have a := (mean_E2 k (by omega)).sub hc (e := 196) (by omega) (by omega)
  have b := (t_E2 h k h2).mul a
  exact ⟨a, b, (mean_E2 h (by omega)).sub b (e := 283) (by omega) (by omega)⟩
theorem adjV_E2 (h : Fit f n) (k : Fit g n) (h2 : 2 ≤ n) : E2 136 95 (tQ f g n * covQ f g n) ∧ E2 137 95 (frQ 2 1 * (tQ f g n * covQ f g n)) ∧ E2 156 113 (covQ f f n - frQ 2 1 * (tQ f g n * covQ f g n)) ∧
    E2 154 154 (tQ f g n * tQ f g n) ∧ E2 213 172 (tQ f g n * tQ f g n * covQ g g n) ∧ E2 329 285 (covQ f f n - frQ 2 1 * (tQ f g n * covQ f g n) + tQ f g n * tQ f g n * covQ g g n) ∧ E2 329 294 (adjV f g n) := by
  have t := t_E2 h k h2
  have a := t.mul (cov_E2 h k h2)
  have b := (num_E2 (x := 2) (a := 1) (by decide)).mul a
  have c := (cov_E2 h h h2).sub (b.mono (c := 137) (d := 95) (by omega) (by omega)) (e := 155) (by omega) (by omega)
  have d := t.mul t
  have e := d.mul (cov_E2 k k h2)
  have s := c.add e (e := 328) (by omega) (by omega)
  exact ⟨a, b.mono (by omega) (by omega), c, d, e, s, s.div (n_E2 h.1) (fr_ne (by omega) (by decide))⟩
theorem sq_E2 {A B : Int} {k : Nat} (h : Fit f n) (g' : Fit g n) (hk : k ≤ n) (hA : -536870912 ≤ A ∧ A ≤ 536870912) (hB : -536870912 ≤ B ∧ B ≤ 536870912) (hB0 : B ≠ 0) : E2 109 58 (sqQ A B f g k) := by
  have bb := mulI_bd (by omega) hB hB
  have hs := sumF_bd (f := fun i => (B * f i - A * g i) * (B * f i - A * g i)) (n := k) (c := 1125899906842624 * 1125899906842624) fun i hi => by
    have a := mulI_bd (by omega) hB (h.2 i (by omega))
    have b := mulI_bd (by omega) hA (g'.2 i (by omega))
    exact mulI_bd (by omega) ⟨by omega, by omega⟩ ⟨by omega, by omega⟩
  have hn := n_le (c := 1125899906842624 * 1125899906842624) (Nat.le_trans hk h.1) (by omega)
  exact E2.of_int (Int.mul_ne_zero hB0 hB0) (abs_of ⟨by unfold sqS; simp; omega, by unfold sqS; simp; omega⟩) (abs_of ⟨by simp; omega, by simp; omega⟩)
end

/-! ### The laws -/
theorem fr0 : frQ 0 1 = 0 := by
  unfold frQ
  have e : ((1 : Int) : Rat) = 1 := rfl
  have e0 : ((0 : Int) : Rat) = 0 := rfl
  rw [e, e0]; grind
theorem fr2 : frQ 2 1 = 2 := by
  unfold frQ
  have e : ((1 : Int) : Rat) = 1 := rfl
  have e0 : ((2 : Int) : Rat) = 2 := rfl
  rw [e, e0]; grind
section
variable {f g : Nat → Int} {n : Nat}
theorem nn_ne (h2 : 2 ≤ n) : (n : Int) * ((n : Int) - 1) ≠ 0 := by
  have b : 2 * 1 ≤ (n : Int) * ((n : Int) - 1) := Int.mul_le_mul (by omega) (by omega) (by omega) (by omega)
  omega
theorem mean_shift (c : Int) (h1 : 1 ≤ n) : meanQ (fun i => f i + c) n = meanQ f n + frQ c 1 := by
  unfold meanQ frQ
  rw [sumF_add, sumF_const]
  have h := cast_ne (d := (n : Int)) (by omega)
  simp only [Rat.intCast_add, Rat.intCast_mul]
  have e : ((1 : Int) : Rat) = 1 := rfl
  rw [e]
  grind
theorem mean_scale (k : Int) : meanQ (fun i => f i * k) n = meanQ f n * frQ k 1 := by
  unfold meanQ frQ
  rw [show (fun i => f i * k) = fun i => k * f i from funext fun i => Int.mul_comm _ _, sumF_mul]
  simp only [Rat.intCast_mul]
  have e : ((1 : Int) : Rat) = 1 := rfl
  rw [e]
  grind
theorem cov_shift (c : Int) : covQ (fun i => f i + c) (fun i => f i + c) n = covQ f f n := by
  have e : (fun i => f i + c) = fun i => 1 * f i + c := funext fun i => by rw [Int.one_mul]
  unfold covQ
  rw [e, covI_lin, covI_comm, covI_lin, Int.one_mul, Int.one_mul]
theorem cov_lin (k c : Int) : covQ f (fun i => k * g i + c) n = frQ k 1 * covQ f g n := by
  unfold covQ frQ
  rw [covI_lin]
  simp only [Rat.intCast_mul]
  have e : ((1 : Int) : Rat) = 1 := rfl
  rw [e]
  grind
theorem covQ_comm : covQ f g n = covQ g f n := by unfold covQ; rw [covI_comm]
theorem cov_add (h : Nat → Int) : covQ f g n + covQ f h n = covQ f (fun i => g i + h i) n := by unfold covQ; rw [covI_add, fr_add]
theorem var_scale (k : Int) : varQ (fun i => f i * k) n = varQ f n * frQ (k * k) 1 := by
  have e : (fun i => f i * k) = fun i => k * f i + 0 := funext fun i => by rw [Int.mul_comm]; omega
  unfold varQ
  rw [e, cov_lin, covQ_comm, cov_lin]
  unfold frQ
  simp only [Rat.intCast_mul]
  have e : ((1 : Int) : Rat) = 1 := rfl
  rw [e]
  grind
theorem frQ_nonneg {a b : Int} (ha : 0 ≤ a) (hb : 0 < b) : 0 ≤ frQ a b := by
  have h1 : (0 : Rat) ≤ (a : Rat) := (Rat.intCast_le_intCast (a := 0) (b := a)).2 ha
  have h2 : (0 : Rat) < (b : Rat) := (Rat.intCast_lt_intCast (a := 0) (b := b)).2 hb
  unfold frQ
  have e : (a : Rat) / (b : Rat) * (b : Rat) = (a : Rat) := Rat.div_mul_cancel (by grind)
  refine Rat.le_of_mul_le_mul_right ?_ h2
  rw [e, Rat.zero_mul]; exact h1
theorem cov_nonneg (h2 : 2 ≤ n) : 0 ≤ covQ f f n := frQ_nonneg (covI_nonneg f n) (by have b : 2 * 1 ≤ (n : Int) * ((n : Int) - 1) := Int.mul_le_mul (by omega) (by omega) (by omega) (by omega); omega)
theorem var_mul (h2 : 2 ≤ n) : varQ f n * frQ n 1 = covQ f f n := Rat.div_mul_cancel (fr_ne (by omega) (by decide))
theorem n_pos (h2 : 2 ≤ n) : 0 < frQ n 1 := by
  unfold frQ
  have h2 : (0 : Rat) < ((n : Int) : Rat) := (Rat.intCast_lt_intCast (a := 0) (b := (n : Int))).2 (by omega)
  have e : ((1 : Int) : Rat) = 1 := rfl
  rw [e]
  grind
theorem sq_nonnegQ (x : Rat) : 0 ≤ x * x := by
  rcases Rat.le_total (a := 0) (b := x) with h | h
  · exact Rat.mul_nonneg h h
  · have := Rat.mul_nonneg (a := -x) (b := -x) (by grind) (by grind)
    grind
theorem adj_le (h2 : 2 ≤ n) : adjV f g n ≤ varQ f n := by
  have hn := n_pos h2
  unfold adjV varQ
  have e1 := Rat.div_mul_cancel (a := covQ f f n - frQ 2 1 * (tQ f g n * covQ f g n) + tQ f g n * tQ f g n * covQ g g n) (b := frQ n 1) (by grind)
  have e2 := Rat.div_mul_cancel (a := covQ f f n) (b := frQ n 1) (by grind)
  refine Rat.le_of_mul_le_mul_right ?_ hn
  rw [e1, e2]
  have h2' := fr2
  have h0 := fr0
  rw [h2']
  by_cases hz : covQ g g n = 0
  · have ht : tQ f g n = 0 := by unfold tQ; rw [if_pos hz, h0]
    rw [ht]; grind
  · have ht : tQ f g n = covQ f g n / covQ g g n := by unfold tQ; rw [if_neg hz]
    have hg := cov_nonneg (f := g) h2
    have hq := Rat.div_mul_cancel (a := covQ f g n) (b := covQ g g n) hz
    rw [← ht] at hq
    have hs := Rat.mul_nonneg (sq_nonnegQ (tQ f g n)) hg
    rw [← hq]
    grind
theorem adj_center : adjM f g n (meanQ g n) = meanQ f n := by
  unfold adjM meanQ
  grind
theorem cov_ll (k c : Int) : covQ (fun i => k * g i + c) (fun i => k * g i + c) n = frQ k 1 * (frQ k 1 * covQ g g n) := by rw [cov_lin, covQ_comm, cov_lin]
theorem fr1_ne {k : Int} (hk : k ≠ 0) : frQ k 1 ≠ 0 := fr_ne hk (by decide)
theorem t_scaled {k c : Int} (hk : k ≠ 0) : tQ f (fun i => k * g i + c) n * frQ k 1 = tQ f g n := by
  have hk' := fr1_ne hk
  have h0 := fr0
  unfold tQ
  rw [cov_ll, cov_lin, h0]
  by_cases hz : covQ g g n = 0
  · rw [if_pos (by rw [hz]; grind), if_pos hz]; grind
  · have h1 : frQ k 1 * (frQ k 1 * covQ g g n) ≠ 0 := fun e => by
      rcases Rat.mul_eq_zero.1 e with e | e
      · exact hk' e
      · rcases Rat.mul_eq_zero.1 e with e | e
        · exact hk' e
        · exact hz e
    rw [if_neg h1, if_neg hz]
    grind
theorem sum_lin (k c : Int) : sumF (fun i => k * g i + c) n = k * sumF g n + n * c := by rw [sumF_add, sumF_mul, sumF_const]
theorem mean_lin (k c : Int) (h1 : 1 ≤ n) : frQ (sumF (fun i => k * g i + c) n) n = frQ k 1 * frQ (sumF g n) n + frQ c 1 := by
  unfold frQ
  rw [sum_lin]
  have h := cast_ne (d := (n : Int)) (by omega)
  simp only [Rat.intCast_add, Rat.intCast_mul]
  have e : ((1 : Int) : Rat) = 1 := rfl
  rw [e]
  grind
/-- The covariate's scale does not matter. -/
theorem adj_scaled {k c : Int} (hk : k ≠ 0) (h1 : 1 ≤ n) : adjM f (fun i => k * g i + c) n (frQ c 1) = adjM f g n (frQ 0 1) ∧ adjV f (fun i => k * g i + c) n = adjV f g n := by
  have ht := t_scaled (f := f) (g := g) (n := n) (c := c) hk
  have h0 := fr0
  constructor
  · unfold adjM
    rw [mean_lin k c h1, h0, ← ht]
    grind
  · unfold adjV
    rw [cov_ll, cov_lin, ← ht]
    congr 1
    grind
/-- A covariate that explains all. -/
theorem adj_all {k c : Int} (h1 : 1 ≤ n) (hz : covQ g g n ≠ 0) : adjM (fun i => k * g i + c) g n (frQ 0 1) = frQ c 1 ∧ adjV (fun i => k * g i + c) g n = 0 := by
  have h0 := fr0
  have h2' := fr2
  have e : covQ (fun i => k * g i + c) g n = frQ k 1 * covQ g g n := by rw [covQ_comm, cov_lin]
  have ht : tQ (fun i => k * g i + c) g n = frQ k 1 := by
    unfold tQ
    rw [if_neg hz, e]
    exact Rat.mul_div_cancel hz
  constructor
  · unfold adjM
    rw [ht, mean_lin k c h1, h0]
    grind
  · unfold adjV
    rw [ht, e, cov_ll, h2']
    rw [show frQ k 1 * (frQ k 1 * covQ g g n) - 2 * (frQ k 1 * (frQ k 1 * covQ g g n)) + frQ k 1 * frQ k 1 * covQ g g n = 0 by grind]
    grind
end
end Go.Proofs.YtpligjkbnlfhgaaGreatDoor
