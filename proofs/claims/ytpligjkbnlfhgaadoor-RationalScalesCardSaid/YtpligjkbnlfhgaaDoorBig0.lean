/- Natural numbers as digits to a base, the least first. Plain: no program. -/
namespace Go.Proofs.YtpligjkbnlfhgaaDoor

/-- The number whose digits are f 0 .. f (n - 1). -/
def nv (B : Nat) (f : Nat → Nat) : Nat → Nat
  | 0 => 0
  | n + 1 => nv B f n + f n * B ^ n

theorem nv_congr {B : Nat} {f g : Nat → Nat} : ∀ {n : Nat}, (∀ i, i < n → f i = g i) → nv B f n = nv B g n
  | 0, _ => rfl
  | n + 1, h => by rw [nv, nv, nv_congr (fun i hi => h i (by omega)), h n (by omega)]

theorem nv_lt {B : Nat} {f : Nat → Nat} : ∀ {n : Nat}, (∀ i, i < n → f i < B) → nv B f n < B ^ n
  | 0, _ => by simp [nv]
  | n + 1, h => by
    have ih := nv_lt (B := B) (f := f) (n := n) (fun i hi => h i (by omega))
    have h1 : (f n + 1) * B ^ n ≤ B * B ^ n := Nat.mul_le_mul_right _ (h n (by omega))
    rw [Nat.add_mul, Nat.one_mul] at h1
    rw [nv, Nat.pow_succ, Nat.mul_comm (B ^ n) B]
    omega

theorem nv_zeros {B : Nat} {f : Nat → Nat} {n : Nat} : ∀ {m : Nat}, n ≤ m → (∀ i, n ≤ i → i < m → f i = 0) → nv B f m = nv B f n
  | 0, h, _ => by rw [show n = 0 by omega]
  | m + 1, h, h0 => by
    by_cases e : n = m + 1
    · rw [e]
    · rw [nv, nv_zeros (m := m) (by omega) (fun i h1 h2 => h0 i h1 (by omega)), h0 m (by omega) (by omega)]; simp

theorem nv_ge {B : Nat} {f : Nat → Nat} {n : Nat} (h : f n ≠ 0) : B ^ n ≤ nv B f (n + 1) := by
  rw [nv]
  have : 1 * B ^ n ≤ f n * B ^ n := Nat.mul_le_mul_right _ (by omega)
  omega

theorem nv_le {B : Nat} {f : Nat → Nat} {n m : Nat} (h : n ≤ m) : nv B f n ≤ nv B f m := by
  induction m with
  | zero => rw [show n = 0 by omega]; exact Nat.le_refl _
  | succ m ih =>
    by_cases e : n = m + 1
    · rw [e]; exact Nat.le_refl _
    · rw [nv]; have := ih (by omega); omega

/-- One digit turned. -/
def updN (f : Nat → Nat) (j x : Nat) : Nat → Nat := fun i => if i = j then x else f i
theorem updN_same (f : Nat → Nat) (j x : Nat) : updN f j x j = x := by simp [updN]
theorem updN_other (f : Nat → Nat) {j x i : Nat} (h : i ≠ j) : updN f j x i = f i := by simp [updN, h]
theorem nv_upd {B : Nat} {f : Nat → Nat} {j x : Nat} : ∀ {n : Nat}, j < n → nv B (updN f j x) n + f j * B ^ j = nv B f n + x * B ^ j
  | 0, h => by omega
  | n + 1, h => by
    by_cases e : j = n
    · subst e
      rw [nv, nv, updN_same, nv_congr (g := f) (fun i hi => updN_other f (by omega))]
      omega
    · have ih := nv_upd (B := B) (f := f) (x := x) (n := n) (show j < n by omega)
      rw [nv, nv, updN_other f (Ne.symm e)]
      omega
theorem nv_upd_out {B : Nat} {f : Nat → Nat} {j x n : Nat} (h : n ≤ j) : nv B (updN f j x) n = nv B f n := nv_congr fun i hi => updN_other f (by omega)

theorem nv_split {B : Nat} {f : Nat → Nat} {k : Nat} : ∀ {n : Nat}, nv B f (k + n) = nv B f k + B ^ k * nv B (fun i => f (k + i)) n
  | 0 => by simp [nv]
  | n + 1 => by
    rw [← Nat.add_assoc, nv, nv_split (n := n), nv, Nat.mul_add, Nat.pow_add]
    have : f (k + n) * (B ^ k * B ^ n) = B ^ k * (f (k + n) * B ^ n) := by rw [Nat.mul_left_comm]
    omega

/-- Digits below the base, and no zero at the end. -/
def Dig (B : Nat) (f : Nat → Nat) (n : Nat) : Prop := (∀ i, i < n → f i < B) ∧ (n ≠ 0 → f (n - 1) ≠ 0)

theorem Dig.lt {B : Nat} {f : Nat → Nat} {n : Nat} (h : Dig B f n) : nv B f n < B ^ n := nv_lt h.1
theorem Dig.ge {B : Nat} {f : Nat → Nat} {n : Nat} (h : Dig B f n) (hn : n ≠ 0) : B ^ (n - 1) ≤ nv B f n := by
  have := nv_ge (B := B) (f := f) (n := n - 1) (h.2 hn)
  rwa [show n - 1 + 1 = n by omega] at this
theorem Dig.zero {B : Nat} {f : Nat → Nat} {n : Nat} (hB : 0 < B) (h : Dig B f n) : nv B f n = 0 ↔ n = 0 := by
  constructor
  · intro h0
    by_cases e : n = 0
    · exact e
    · have h1 := h.ge e
      have h2 : 0 < B ^ (n - 1) := Nat.pow_pos hB
      omega
  · rintro rfl; rfl

theorem pow_le {B : Nat} (hB : 0 < B) {a b : Nat} (h : a ≤ b) : B ^ a ≤ B ^ b := Nat.pow_le_pow_right hB h
theorem len_le {B : Nat} {f : Nat → Nat} {n k : Nat} (hB : 1 < B) (h : Dig B f n) (hv : nv B f n < B ^ k) : n ≤ k := by
  by_cases e : n = 0
  · omega
  · have h1 := h.ge e
    refine Decidable.byContradiction fun hc => ?_
    have := pow_le (B := B) (by omega) (show k ≤ n - 1 by omega)
    omega
theorem len_gt {B : Nat} {f : Nat → Nat} {n k : Nat} (hB : 1 < B) (h : Dig B f n) (hv : B ^ k ≤ nv B f n) : k < n := by
  refine Decidable.byContradiction fun hc => ?_
  have h1 := h.lt
  have := pow_le (B := B) (by omega) (show n ≤ k by omega)
  omega

theorem mod_top {a b q : Nat} (h : a < b) : (a + q * b) % b = a ∧ (a + q * b) / b = q := by
  have hb : 0 < b := by omega
  constructor
  · rw [Nat.add_mul_mod_self_right, Nat.mod_eq_of_lt h]
  · rw [Nat.add_mul_div_right _ _ hb, Nat.div_eq_of_lt h]; omega

theorem nv_inj {B : Nat} {f g : Nat → Nat} : ∀ {n : Nat}, (∀ i, i < n → f i < B) → (∀ i, i < n → g i < B) → nv B f n = nv B g n → ∀ i, i < n → f i = g i
  | 0, _, _, _, _, hi => by omega
  | n + 1, hf, hg, h, i, hi => by
    have h1 := nv_lt (B := B) (f := f) (n := n) (fun i hi => hf i (by omega))
    have h2 := nv_lt (B := B) (f := g) (n := n) (fun i hi => hg i (by omega))
    rw [nv, nv] at h
    have e1 := mod_top (q := f n) h1
    have e2 := mod_top (q := g n) h2
    rw [h] at e1
    have ef : f n = g n := e1.2.symm.trans e2.2
    by_cases e : i = n
    · subst e; exact ef
    · exact nv_inj (fun i hi => hf i (by omega)) (fun i hi => hg i (by omega)) (e1.1.symm.trans e2.1) i (by omega)

theorem Dig.len_eq {B : Nat} {f g : Nat → Nat} {n m : Nat} (hB : 1 < B) (hf : Dig B f n) (hg : Dig B g m) (h : nv B f n = nv B g m) : n = m := by
  have h1 : n ≤ m := len_le hB hf (by rw [h]; exact hg.lt)
  have h2 : m ≤ n := len_le hB hg (by rw [← h]; exact hf.lt)
  omega

/-! ### Comparison -/
/-- Comparison from the top: the digits from i on agree. -/
theorem cmp_top {B : Nat} {f g : Nat → Nat} {n i : Nat} (hi : i < n) (hf : ∀ j, j < n → f j < B) (_hg : ∀ j, j < n → g j < B) (he : ∀ j, i < j → j < n → f j = g j) (hlt : f i < g i) : nv B f n < nv B g n := by
  have e1 := nv_split (B := B) (f := f) (k := i + 1) (n := n - (i + 1))
  have e2 := nv_split (B := B) (f := g) (k := i + 1) (n := n - (i + 1))
  rw [show i + 1 + (n - (i + 1)) = n by omega] at e1 e2
  have e3 : nv B (fun j => f (i + 1 + j)) (n - (i + 1)) = nv B (fun j => g (i + 1 + j)) (n - (i + 1)) := nv_congr fun j hj => he _ (by omega) (by omega)
  have h1 := nv_lt (B := B) (f := f) (n := i) (fun j hj => hf j (by omega))
  have h2 : (f i + 1) * B ^ i ≤ g i * B ^ i := Nat.mul_le_mul_right _ hlt
  rw [Nat.add_mul, Nat.one_mul] at h2
  rw [e1, e2, e3, nv, nv]
  omega

theorem cmp_len {B : Nat} {f g : Nat → Nat} {n m : Nat} (hB : 1 < B) (hf : Dig B f n) (hg : Dig B g m) (h : n < m) : nv B f n < nv B g m := by
  have h1 := hf.lt
  have h2 := hg.ge (by omega)
  have := pow_le (B := B) (by omega) (show n ≤ m - 1 by omega)
  omega

/-- A digit behind the end is zero. -/
def ext (f : Nat → Nat) (n : Nat) : Nat → Nat := fun i => if i < n then f i else 0
theorem ext_lt {f : Nat → Nat} {n i : Nat} (h : i < n) : ext f n i = f i := by simp [ext, h]
theorem ext_ge {f : Nat → Nat} {n i : Nat} (h : n ≤ i) : ext f n i = 0 := by simp [ext]; omega
theorem nv_ext {B : Nat} {f : Nat → Nat} {n m : Nat} (h : n ≤ m) : nv B (ext f n) m = nv B f n := by
  rw [nv_zeros h (fun i h1 _ => ext_ge h1)]
  exact nv_congr fun i hi => ext_lt hi
theorem nv_ext_le {B : Nat} {f : Nat → Nat} {n m : Nat} (h : m ≤ n) : nv B (ext f n) m = nv B f m := nv_congr fun i hi => ext_lt (by omega)

end Go.Proofs.YtpligjkbnlfhgaaDoor
