/- Plain: digits, decimal texts, fractions and their texts. No statement is proved here. -/

namespace Go.Proofs.YtpligjkbnlfhgaaGreatDoor

/-- The number whose digits are f 0 .. f (n - 1). -/
def nv (B : Nat) (f : Nat → Nat) : Nat → Nat
  | 0 => 0
  | n + 1 => nv B f n + f n * B ^ n

theorem nv_congr {B : Nat} {f g : Nat → Nat} : ∀ {n : Nat}, (∀ i, i < n → f i = g i) → nv B f n = nv B g n
  | 0, _ => rfl
  | n + 1, h => by rw [nv, nv, nv_congr (fun i hi => h i (by omega)), h n (by omega)]

theorem nv_lt {B : Nat} {f : Nat → Nat} : ∀ {n : Nat}, (∀ i, i < n → f i < B) → nv B f n < B ^ n
  | 0, _ => by simp [nv]
  | n + 1, h => by
    have ih := nv_lt (B := B) (f := f) (n := n) (fun i hi => h i (by omega))
    have h1 : (f n + 1) * B ^ n ≤ B * B ^ n := Nat.mul_le_mul_right _ (h n (by omega))
    rw [Nat.add_mul, Nat.one_mul] at h1
    rw [nv, Nat.pow_succ, Nat.mul_comm (B ^ n) B]
    omega

theorem nv_zeros {B : Nat} {f : Nat → Nat} {n : Nat} : ∀ {m : Nat}, n ≤ m → (∀ i, n ≤ i → i < m → f i = 0) → nv B f m = nv B f n
  | 0, h, _ => by rw [show n = 0 by omega]
  | m + 1, h, h0 => by
    by_cases e : n = m + 1
    · rw [e]
    · rw [nv, nv_zeros (m := m) (by omega) (fun i h1 h2 => h0 i h1 (by omega)), h0 m (by omega) (by omega)]; simp

theorem nv_ge {B : Nat} {f : Nat → Nat} {n : Nat} (h : f n ≠ 0) : B ^ n ≤ nv B f (n + 1) := by
  rw [nv]
  have : 1 * B ^ n ≤ f n * B ^ n := Nat.mul_le_mul_right _ (by omega)
  omega

theorem nv_le {B : Nat} {f : Nat → Nat} {n m : Nat} (h : n ≤ m) : nv B f n ≤ nv B f m := by
  induction m with
  | zero => rw [show n = 0 by omega]; exact Nat.le_refl _
  | succ m ih =>
    by_cases e : n = m + 1
    · rw [e]; exact Nat.le_refl _
    · rw [nv]; have := ih (by omega); omega

/-- One digit turned. -/
def updN (f : Nat → Nat) (j x : Nat) : Nat → Nat := fun i => if i = j then x else f i
theorem updN_same (f : Nat → Nat) (j x : Nat) : updN f j x j = x := by simp [updN]
theorem updN_other (f : Nat → Nat) {j x i : Nat} (h : i ≠ j) : updN f j x i = f i := by simp [updN, h]
theorem nv_upd {B : Nat} {f : Nat → Nat} {j x : Nat} : ∀ {n : Nat}, j < n → nv B (updN f j x) n + f j * B ^ j = nv B f n + x * B ^ j
  | 0, h => by omega
  | n + 1, h => by
    by_cases e : j = n
    · subst e
      rw [nv, nv, updN_same, nv_congr (g := f) (fun i hi => updN_other f (by omega))]
      omega
    · have ih := nv_upd (B := B) (f := f) (x := x) (n := n) (show j < n by omega)
      rw [nv, nv, updN_other f (Ne.symm e)]
      omega
theorem nv_upd_out {B : Nat} {f : Nat → Nat} {j x n : Nat} (h : n ≤ j) : nv B (updN f j x) n = nv B f n := nv_congr fun i hi => updN_other f (by omega)

theorem nv_split {B : Nat} {f : Nat → Nat} {k : Nat} : ∀ {n : Nat}, nv B f (k + n) = nv B f k + B ^ k * nv B (fun i => f (k + i)) n
  | 0 => by simp [nv]
  | n + 1 => by
    rw [← Nat.add_assoc, nv, nv_split (n := n), nv, Nat.mul_add, Nat.pow_add]
    have : f (k + n) * (B ^ k * B ^ n) = B ^ k * (f (k + n) * B ^ n) := by rw [Nat.mul_left_comm]
    omega

/-- Digits below the base, and no zero at the end. -/
def Dig (B : Nat) (f : Nat → Nat) (n : Nat) : Prop := (∀ i, i < n → f i < B) ∧ (n ≠ 0 → f (n - 1) ≠ 0)

theorem Dig.lt {B : Nat} {f : Nat → Nat} {n : Nat} (h : Dig B f n) : nv B f n < B ^ n := nv_lt h.1
theorem Dig.ge {B : Nat} {f : Nat → Nat} {n : Nat} (h : Dig B f n) (hn : n ≠ 0) : B ^ (n - 1) ≤ nv B f n := by
  have := nv_ge (B := B) (f := f) (n := n - 1) (h.2 hn)
  rwa [show n - 1 + 1 = n by omega] at this
theorem Dig.zero {B : Nat} {f : Nat → Nat} {n : Nat} (hB : 0 < B) (h : Dig B f n) : nv B f n = 0 ↔ n = 0 := by
  constructor
  · intro h0
    by_cases e : n = 0
    · exact e
    · have h1 := h.ge e
      have h2 : 0 < B ^ (n - 1) := Nat.pow_pos hB
      omega
  · rintro rfl; rfl

theorem pow_le {B : Nat} (hB : 0 < B) {a b : Nat} (h : a ≤ b) : B ^ a ≤ B ^ b := Nat.pow_le_pow_right hB h
theorem len_le {B : Nat} {f : Nat → Nat} {n k : Nat} (hB : 1 < B) (h : Dig B f n) (hv : nv B f n < B ^ k) : n ≤ k := by
  by_cases e : n = 0
  · omega
  · have h1 := h.ge e
    refine Decidable.byContradiction fun hc => ?_
    have := pow_le (B := B) (by omega) (show k ≤ n - 1 by omega)
    omega
theorem len_gt {B : Nat} {f : Nat → Nat} {n k : Nat} (hB : 1 < B) (h : Dig B f n) (hv : B ^ k ≤ nv B f n) : k < n := by
  refine Decidable.byContradiction fun hc => ?_
  have h1 := h.lt
  have := pow_le (B := B) (by omega) (show n ≤ k by omega)
  omega

theorem mod_top {a b q : Nat} (h : a < b) : (a + q * b) % b = a ∧ (a + q * b) / b = q := by
  have hb : 0 < b := by omega
  constructor
  · rw [Nat.add_mul_mod_self_right, Nat.mod_eq_of_lt h]
  · rw [Nat.add_mul_div_right _ _ hb, Nat.div_eq_of_lt h]; omega

theorem nv_inj {B : Nat} {f g : Nat → Nat} : ∀ {n : Nat}, (∀ i, i < n → f i < B) → (∀ i, i < n → g i < B) → nv B f n = nv B g n → ∀ i, i < n → f i = g i
  | 0, _, _, _, _, hi => by omega
  | n + 1, hf, hg, h, i, hi => by
    have h1 := nv_lt (B := B) (f := f) (n := n) (fun i hi => hf i (by omega))
    have h2 := nv_lt (B := B) (f := g) (n := n) (fun i hi => hg i (by omega))
    rw [nv, nv] at h
    have e1 := mod_top (q := f n) h1
    have e2 := mod_top (q := g n) h2
    rw [h] at e1
    have ef : f n = g n := e1.2.symm.trans e2.2
    by_cases e : i = n
    · subst e; exact ef
    · exact nv_inj (fun i hi => hf i (by omega)) (fun i hi => hg i (by omega)) (e1.1.symm.trans e2.1) i (by omega)

theorem Dig.len_eq {B : Nat} {f g : Nat → Nat} {n m : Nat} (hB : 1 < B) (hf : Dig B f n) (hg : Dig B g m) (h : nv B f n = nv B g m) : n = m := by
  have h1 : n ≤ m := len_le hB hf (by rw [h]; exact hg.lt)
  have h2 : m ≤ n := len_le hB hg (by rw [← h]; exact hf.lt)
  omega

/-! ### Comparison -/
/-- Comparison from the top: the digits from i on agree. -/
theorem cmp_top {B : Nat} {f g : Nat → Nat} {n i : Nat} (hi : i < n) (hf : ∀ j, j < n → f j < B) (_hg : ∀ j, j < n → g j < B) (he : ∀ j, i < j → j < n → f j = g j) (hlt : f i < g i) : nv B f n < nv B g n := by
  have e1 := nv_split (B := B) (f := f) (k := i + 1) (n := n - (i + 1))
  have e2 := nv_split (B := B) (f := g) (k := i + 1) (n := n - (i + 1))
  rw [show i + 1 + (n - (i + 1)) = n by omega] at e1 e2
  have e3 : nv B (fun j => f (i + 1 + j)) (n - (i + 1)) = nv B (fun j => g (i + 1 + j)) (n - (i + 1)) := nv_congr fun j hj => he _ (by omega) (by omega)
  have h1 := nv_lt (B := B) (f := f) (n := i) (fun j hj => hf j (by omega))
  have h2 : (f i + 1) * B ^ i ≤ g i * B ^ i := Nat.mul_le_mul_right _ hlt
  rw [Nat.add_mul, Nat.one_mul] at h2
  rw [e1, e2, e3, nv, nv]
  omega

theorem cmp_len {B : Nat} {f g : Nat → Nat} {n m : Nat} (hB : 1 < B) (hf : Dig B f n) (hg : Dig B g m) (h : n < m) : nv B f n < nv B g m := by
  have h1 := hf.lt
  have h2 := hg.ge (by omega)
  have := pow_le (B := B) (by omega) (show n ≤ m - 1 by omega)
  omega

/-- A digit behind the end is zero. -/
def ext (f : Nat → Nat) (n : Nat) : Nat → Nat := fun i => if i < n then f i else 0
theorem ext_lt {f : Nat → Nat} {n i : Nat} (h : i < n) : ext f n i = f i := by simp [ext, h]
theorem ext_ge {f : Nat → Nat} {n i : Nat} (h : n ≤ i) : ext f n i = 0 := by simp [ext]; omega
theorem nv_ext {B : Nat} {f : Nat → Nat} {n m : Nat} (h : n ≤ m) : nv B (ext f n) m = nv B f n := by
  rw [nv_zeros h (fun i h1 _ => ext_ge h1)]
  exact nv_congr fun i hi => ext_lt hi
theorem nv_ext_le {B : Nat} {f : Nat → Nat} {n m : Nat} (h : m ≤ n) : nv B (ext f n) m = nv B f m := nv_congr fun i hi => ext_lt (by omega)

/-- The first estimate is not too small. -/
theorem kn_init {B b v1 v2 v' top x0 x' : Nat} (hx' : x' < b) (hx0 : x0 < B) (hv1 : 0 < v1) : (top * B + x0) * b + x' < (top / v1 + 1) * ((v1 * B + v2) * b + v') := by
  have h1 : top + 1 ≤ (top / v1 + 1) * v1 := by
    have := Nat.div_add_mod top v1
    have := Nat.mod_lt top hv1
    rw [Nat.add_mul, Nat.one_mul, Nat.mul_comm (top / v1) v1]
    omega
  generalize top / v1 = q at *
  have h2 : (top + 1) * (B * b) ≤ (q + 1) * v1 * (B * b) := Nat.mul_le_mul_right _ h1
  have h3 : (x0 + 1) * b ≤ B * b := Nat.mul_le_mul_right _ hx0
  have e1 : (top * B + x0) * b = top * (B * b) + x0 * b := by rw [Nat.add_mul, Nat.mul_assoc]
  have e2 : (top + 1) * (B * b) = top * (B * b) + B * b := by rw [Nat.add_mul, Nat.one_mul]
  have e3 : (x0 + 1) * b = x0 * b + b := by rw [Nat.add_mul, Nat.one_mul]
  have e4 : (q + 1) * ((v1 * B + v2) * b + v') = (q + 1) * v1 * (B * b) + (q + 1) * (v2 * b + v') := by
    rw [Nat.add_mul (v1 * B) v2 b, Nat.add_assoc, Nat.mul_add (q + 1), Nat.mul_assoc v1 B b, Nat.mul_assoc (q + 1) v1 (B * b)]
  omega

/-- Where the test says so, the estimate is too great. -/
theorem kn_down {B b v1 v2 v' top x0 x' q r : Nat} (hx' : x' < b) (hq : q * v1 + r = top) (hX : (top * B + x0) * b + x' < ((v1 * B + v2) * b + v') * B) (h : B ≤ q ∨ r * B + x0 < q * v2) :
    (top * B + x0) * b + x' < q * ((v1 * B + v2) * b + v') := by
  rcases h with h | h
  · have := Nat.mul_le_mul_left ((v1 * B + v2) * b + v') h
    rw [Nat.mul_comm q]
    omega
  · have h1 : (r * B + x0 + 1) * b ≤ q * v2 * b := Nat.mul_le_mul_right _ h
    have e1 : (top * B + x0) * b = q * v1 * B * b + (r * B + x0) * b := by rw [← hq]; grind
    have e2 : (r * B + x0 + 1) * b = (r * B + x0) * b + b := by rw [Nat.add_mul, Nat.one_mul]
    have e3 : q * ((v1 * B + v2) * b + v') = q * v1 * B * b + q * v2 * b + q * v' := by grind
    omega

/-- Behind the test the estimate is too great by one at most. -/
theorem kn_exit {B b v1 v2 v' top x0 x' q r : Nat} (hv' : v' < b) (hv1 : 0 < v1) (hv2 : v2 < B) (hqB : q ≤ B) (hq : q * v1 + r = top) (h : B ≤ r ∨ q * v2 ≤ r * B + x0) :
    q * ((v1 * B + v2) * b + v') ≤ (top * B + x0) * b + x' + ((v1 * B + v2) * b + v') := by
  have h1 : q * v2 ≤ r * B + x0 := by
    rcases h with h | h
    · have a1 : q * v2 ≤ B * B := Nat.mul_le_mul hqB (by omega)
      have a2 : B * B ≤ r * B := Nat.mul_le_mul_right _ h
      omega
    · exact h
  have h2 : q * v2 * b ≤ (r * B + x0) * b := Nat.mul_le_mul_right _ h1
  have h3 : q * v' ≤ B * b := Nat.mul_le_mul hqB (by omega)
  have h4 : 1 * (B * b) ≤ v1 * (B * b) := Nat.mul_le_mul_right _ hv1
  have e1 : (top * B + x0) * b = q * v1 * B * b + (r * B + x0) * b := by rw [← hq]; grind
  have e3 : q * ((v1 * B + v2) * b + v') = q * v1 * B * b + q * v2 * b + q * v' := by grind
  have e4 : (v1 * B + v2) * b = v1 * (B * b) + v2 * b := by grind
  omega

/-- The estimate itself is bounded. -/
theorem kn_bd {B v1 top : Nat} (h1 : B ≤ 2 * v1) (ht : top < (v1 + 1) * B) : top / v1 ≤ B + 2 := by
  have h2 : top ≤ v1 * (B + 2) := by
    rw [Nat.add_mul, Nat.one_mul] at ht
    rw [Nat.mul_add]
    omega
  exact Nat.div_le_of_le_mul h2

/-- What the digit leaves. -/
theorem kn_digit {X V q : Nat} (h1 : X < (q + 1) * V) (h2 : q * V ≤ X + V) : (q * V ≤ X ∧ X - q * V < V) ∨ (X < q * V ∧ 1 ≤ q ∧ (q - 1) * V ≤ X ∧ X - (q - 1) * V < V) := by
  rw [Nat.add_mul, Nat.one_mul] at h1
  by_cases h : q * V ≤ X
  · exact .inl ⟨h, by omega⟩
  · have hq : 1 ≤ q := by
      rcases Nat.eq_zero_or_pos q with h0 | h0
      · subst h0; simp at h
      · exact h0
    obtain ⟨p, rfl⟩ : ∃ p, q = p + 1 := ⟨q - 1, by omega⟩
    rw [Nat.add_mul, Nat.one_mul] at *
    refine .inr ⟨by omega, by omega, ?_, ?_⟩ <;> simp only [Nat.add_sub_cancel] <;> omega

/-- A sum's digit and carry (also a product's): d is what comes together at place P. -/
theorem carry_step {B P O A c d e : Nat} (h : O + c * P = A) (hd : d = e + c) : O + d % B * P + d / B * (P * B) = A + e * P := by
  have h1 := Nat.div_add_mod d B
  have h2 : d * P = d / B * (P * B) + d % B * P := by
    have : (B * (d / B) + d % B) * P = d / B * (P * B) + d % B * P := by grind
    rwa [h1] at this
  have h3 : d * P = e * P + c * P := by rw [hd, Nat.add_mul]
  omega

theorem carry_lt {B d : Nat} (m : Nat) (h : d < m * B) : d / B < m := Nat.div_lt_of_lt_mul (by rw [Nat.mul_comm]; exact h)

/-- A difference's digit and borrow. -/
theorem borrow_step {B P O A b c c' o x y : Nat} (h : O + b = A + c * P) (ho : o + c + y = x + B * c') : O + o * P + (b + y * P) = A + x * P + c' * (P * B) := by
  have h1 : (o + c + y) * P = (x + B * c') * P := by rw [ho]
  have e1 : (o + c + y) * P = o * P + c * P + y * P := by grind
  have e2 : (x + B * c') * P = x * P + c' * (P * B) := by grind
  omega

/-- A division by one digit: from the top. -/
theorem small_step {B P T L r d x : Nat} (h : T = L * d + r * (P * B)) : T + x * P = (L + (r * B + x) / d * P) * d + (r * B + x) % d * P := by
  have h1 := Nat.div_add_mod (r * B + x) d
  have h2 : (r * B + x) * P = (r * B + x) / d * P * d + (r * B + x) % d * P := by
    have : (d * ((r * B + x) / d) + (r * B + x) % d) * P = (r * B + x) / d * P * d + (r * B + x) % d * P := by grind
    rwa [h1] at this
  have e1 : (r * B + x) * P = r * (P * B) + x * P := by grind
  have e2 : (L + (r * B + x) / d * P) * d = L * d + (r * B + x) / d * P * d := by grind
  omega

/-- The digits of a list. -/
def dl (L : List Nat) : Nat → Nat := fun i => L.getD i 0
theorem dl_snoc (L : List Nat) (x : Nat) : dl (L ++ [x]) = updN (dl L) L.length x := by
  funext j
  unfold dl
  by_cases h : j = L.length
  · subst h
    rw [updN_same, List.getD_eq_getElem?_getD, List.getElem?_append_right (Nat.le_refl _)]; simp
  · rw [updN_other _ h, List.getD_eq_getElem?_getD, List.getD_eq_getElem?_getD]
    by_cases h2 : j < L.length
    · rw [List.getElem?_append_left h2]
    · rw [List.getElem?_eq_none (by simp; omega), List.getElem?_eq_none (by omega)]

/-- The first k digits are set; the next one is set to x. -/
theorem nv_next {B : Nat} {f : Nat → Nat} {k x : Nat} : nv B (updN f k x) (k + 1) = nv B f k + x * B ^ k := by
  rw [nv, updN_same, nv_upd_out (Nat.le_refl k)]
theorem upd_lt {B : Nat} {f : Nat → Nat} {k x : Nat} (h : ∀ j, j < k → f j < B) (hx : x < B) : ∀ j, j < k + 1 → updN f k x j < B := fun j hj => by
  by_cases e : j = k
  · subst e; rw [updN_same]; exact hx
  · rw [updN_other _ e]; exact h j (by omega)
theorem upd_lt_at {B : Nat} {f : Nat → Nat} {n k x : Nat} (h : ∀ j, j < n → f j < B) (hx : x < B) : ∀ j, j < n → updN f k x j < B := fun j hj => by
  by_cases e : j = k
  · subst e; rw [updN_same]; exact hx
  · rw [updN_other _ e]; exact h j hj

/-! ### Sums -/
structure AddI (B : Nat) (f g o : Nat → Nat) (k c : Nat) : Prop where
  eq : nv B o k + c * B ^ k = nv B f k + nv B g k
  lt : ∀ j, j < k → o j < B
  c1 : c ≤ 1
theorem AddI.zero {B : Nat} {f g o : Nat → Nat} : AddI B f g o 0 0 := ⟨by simp [nv], fun j hj => by omega, by omega⟩
theorem AddI.step {B : Nat} {f g o : Nat → Nat} {k c : Nat} (hB : 1 < B) (h : AddI B f g o k c) (hf : f k < B) (hg : g k < B) : AddI B f g (updN o k ((f k + g k + c) % B)) (k + 1) ((f k + g k + c) / B) := by
  have hc := h.c1
  refine ⟨?_, upd_lt h.lt (Nat.mod_lt _ (by omega)), ?_⟩
  · have := carry_step (B := B) h.eq (d := f k + g k + c) (e := f k + g k) rfl
    rw [nv_next, nv, nv, Nat.pow_succ]
    have e : (f k + g k) * B ^ k = f k * B ^ k + g k * B ^ k := Nat.add_mul _ _ _
    omega
  · have := carry_lt (B := B) (d := f k + g k + c) 2 (by omega)
    omega
theorem AddI.last {B : Nat} {f g o : Nat → Nat} {k c : Nat} (hB : 1 < B) (h : AddI B f g o k c) : nv B (updN o k c) (k + 1) = nv B f k + nv B g k ∧ ∀ j, j < k + 1 → updN o k c j < B := by
  have hc := h.c1
  exact ⟨by rw [nv_next]; exact h.eq, upd_lt h.lt (by omega)⟩

/-! ### Differences -/
structure SubI (B : Nat) (f g o : Nat → Nat) (k c : Nat) : Prop where
  eq : nv B o k + nv B g k = nv B f k + c * B ^ k
  lt : ∀ j, j < k → o j < B
  c1 : c ≤ 1
theorem SubI.zero {B : Nat} {f g o : Nat → Nat} : SubI B f g o 0 0 := ⟨by simp [nv], fun j hj => by omega, by omega⟩
theorem SubI.step {B : Nat} {f g o : Nat → Nat} {k c c' x : Nat} (h : SubI B f g o k c) (hx : x < B) (hc : c' ≤ 1) (he : x + c + g k = f k + B * c') : SubI B f g (updN o k x) (k + 1) c' := by
  refine ⟨?_, upd_lt h.lt hx, hc⟩
  have := borrow_step h.eq he
  rw [nv_next, nv, nv, Nat.pow_succ]
  omega
theorem SubI.done {B : Nat} {f g o : Nat → Nat} {k c : Nat} (hB : 0 < B) (h : SubI B f g o k c) (hle : nv B g k ≤ nv B f k) : c = 0 ∧ nv B o k = nv B f k - nv B g k := by
  have h1 := nv_lt h.lt
  have h2 := h.eq
  have h3 := h.c1
  have hp : 0 < B ^ k := Nat.pow_pos hB
  rcases Nat.eq_zero_or_pos c with h0 | h0
  · subst h0
    rw [Nat.zero_mul] at h2
    exact ⟨rfl, by omega⟩
  · have : c = 1 := by omega
    subst this
    rw [Nat.one_mul] at h2
    omega

/-! ### Products -/
/-- Row i, place k: the whole of out, the carry. -/
structure MulI (B : Nat) (f g o : Nat → Nat) (n m i k c : Nat) : Prop where
  eq : nv B o (n + m) + c * B ^ (i + k) = nv B f i * nv B g m + f i * nv B g k * B ^ i
  lt : ∀ j, j < n + m → o j < B
  zero : ∀ j, i + m ≤ j → j < n + m → o j = 0
  c1 : c < B
structure MulO (B : Nat) (f g o : Nat → Nat) (n m i : Nat) : Prop where
  eq : nv B o (n + m) = nv B f i * nv B g m
  lt : ∀ j, j < n + m → o j < B
  zero : ∀ j, i + m ≤ j → j < n + m → o j = 0
theorem nv_zero {B : Nat} : ∀ {n : Nat} {f : Nat → Nat}, (∀ i, i < n → f i = 0) → nv B f n = 0
  | 0, _, _ => rfl
  | n + 1, f, h => by rw [nv, nv_zero (n := n) (fun i hi => h i (by omega)), h n (by omega)]; simp
theorem MulO.start {B : Nat} {f g o : Nat → Nat} {n m : Nat} (hB : 0 < B) (h : ∀ j, j < n + m → o j = 0) : MulO B f g o n m 0 :=
  ⟨by rw [nv_zero h]; simp [nv], fun j hj => by rw [h j hj]; exact hB, fun j _ hj => h j hj⟩
theorem MulO.enter {B : Nat} {f g o : Nat → Nat} {n m i : Nat} (hB : 0 < B) (h : MulO B f g o n m i) : MulI B f g o n m i 0 0 :=
  ⟨by rw [h.eq]; simp [nv], h.lt, h.zero, hB⟩
theorem MulI.step {B : Nat} {f g o : Nat → Nat} {n m i k c : Nat} (hB : 1 < B) (h : MulI B f g o n m i k c) (hi : i < n) (hk : k < m) (hf : f i < B) (hg : g k < B) :
    MulI B f g (updN o (i + k) ((o (i + k) + f i * g k + c) % B)) n m i (k + 1) ((o (i + k) + f i * g k + c) / B) ∧ o (i + k) + f i * g k + c < B * B := by
  have hc := h.c1
  have ho := h.lt (i + k) (by omega)
  have hp : f i * g k ≤ (B - 1) * (B - 1) := Nat.mul_le_mul (by omega) (by omega)
  have hb : o (i + k) + f i * g k + c < B * B := by
    obtain ⟨b, rfl⟩ : ∃ b, B = b + 1 := ⟨B - 1, by omega⟩
    simp only [Nat.add_sub_cancel] at hp
    have : (b + 1) * (b + 1) = b * b + b + b + 1 := by grind
    omega
  refine ⟨⟨?_, upd_lt_at h.lt (Nat.mod_lt _ (by omega)), fun j h1 h2 => ?_, carry_lt B hb⟩, hb⟩
  · have h1 := nv_upd (B := B) (f := o) (x := (o (i + k) + f i * g k + c) % B) (show i + k < n + m by omega)
    have h2 := carry_step (B := B) (P := B ^ (i + k)) (O := nv B o (n + m)) (c := c) rfl (d := o (i + k) + f i * g k + c) (e := o (i + k) + f i * g k) rfl
    have h3 := h.eq
    rw [← Nat.add_assoc, Nat.pow_succ]
    have e1 : (o (i + k) + f i * g k) * B ^ (i + k) = o (i + k) * B ^ (i + k) + f i * g k * B ^ (i + k) := Nat.add_mul _ _ _
    have e2 : f i * nv B g (k + 1) * B ^ i = f i * nv B g k * B ^ i + f i * g k * B ^ (i + k) := by
      rw [nv, Nat.pow_add]; grind
    omega
  · rw [updN_other _ (by omega)]; exact h.zero j h1 h2
theorem MulI.last {B : Nat} {f g o : Nat → Nat} {n m i c : Nat} (h : MulI B f g o n m i m c) (hi : i < n) : MulO B f g (updN o (i + m) c) n m (i + 1) := by
  refine ⟨?_, upd_lt_at h.lt h.c1, fun j h1 h2 => ?_⟩
  · have h1 := nv_upd (B := B) (f := o) (x := c) (show i + m < n + m by omega)
    rw [h.zero (i + m) (by omega) (by omega)] at h1
    have h3 := h.eq
    have e2 : nv B f (i + 1) * nv B g m = nv B f i * nv B g m + f i * nv B g m * B ^ i := by rw [nv]; grind
    omega
  · rw [updN_other _ (by omega)]; exact h.zero j (by omega) h2

/-! ### Division by one digit -/
structure SmlI (B : Nat) (f o : Nat → Nat) (n d i r : Nat) : Prop where
  eq : nv B f n = nv B f i + (nv B o n * d + r * B ^ i)
  lt : ∀ j, j < n → o j < B
  zero : ∀ j, j < i → o j = 0
  r1 : r < d
theorem SmlI.start {B : Nat} {f o : Nat → Nat} {n d : Nat} (hB : 0 < B) (hd : 0 < d) (h : ∀ j, j < n → o j = 0) : SmlI B f o n d n 0 :=
  ⟨by rw [nv_zero h]; simp, fun j hj => by rw [h j hj]; exact hB, h, hd⟩
theorem SmlI.step {B : Nat} {f o : Nat → Nat} {n d i r : Nat} (_hB : 0 < B) (h : SmlI B f o n d (i + 1) r) (hi : i < n) (hf : f i < B) :
    SmlI B f (updN o i ((r * B + f i) / d)) n d i ((r * B + f i) % d) ∧ (r * B + f i) / d < B := by
  have hr := h.r1
  have hq : (r * B + f i) / d < B := by
    refine Nat.div_lt_of_lt_mul ?_
    have : (r + 1) * B ≤ d * B := Nat.mul_le_mul_right _ hr
    rw [Nat.add_mul, Nat.one_mul] at this
    omega
  refine ⟨⟨?_, upd_lt_at h.lt hq, fun j hj => ?_, Nat.mod_lt _ (by omega)⟩, hq⟩
  · have h1 := nv_upd (B := B) (f := o) (x := (r * B + f i) / d) hi
    rw [h.zero i (by omega)] at h1
    have h2 := small_step (B := B) (P := B ^ i) (T := nv B o n * d + r * (B ^ i * B)) (L := nv B o n) (r := r) (d := d) (x := f i) rfl
    have h3 := h.eq
    rw [nv, Nat.pow_succ] at h3
    have e : nv B (updN o i ((r * B + f i) / d)) n = nv B o n + (r * B + f i) / d * B ^ i := by omega
    rw [e]
    omega
  · rw [updN_other _ (by omega)]; exact h.zero j (by omega)
theorem SmlI.done {B : Nat} {f o : Nat → Nat} {n d r : Nat} (h : SmlI B f o n d 0 r) : nv B o n = nv B f n / d ∧ r = nv B f n % d := by
  have h1 := h.eq
  have hr := h.r1
  simp only [nv, Nat.pow_zero, Nat.mul_one, Nat.zero_add] at h1
  have := mod_top (a := r) (b := d) (q := nv B o n) hr
  rw [h1, Nat.add_comm]
  exact ⟨this.2.symm, this.1.symm⟩

/-! ### Digits of a number -/
structure NatI (B : Nat) (o : Nat → Nat) (k n N : Nat) : Prop where
  eq : nv B o k + n * B ^ k = N
  lt : ∀ j, j < k → o j < B
  top : n = 0 → k ≠ 0 → o (k - 1) ≠ 0
theorem NatI.start {B N : Nat} {o : Nat → Nat} : NatI B o 0 N N := ⟨by simp [nv], fun j hj => by omega, fun _ h => absurd rfl h⟩
theorem NatI.step {B k n N : Nat} {o : Nat → Nat} (hB : 1 < B) (h : NatI B o k n N) (hn : 0 < n) : NatI B (updN o k (n % B)) (k + 1) (n / B) N := by
  refine ⟨?_, upd_lt h.lt (Nat.mod_lt _ (by omega)), fun h0 _ => ?_⟩
  · rw [nv_next, Nat.pow_succ]
    have h1 := Nat.div_add_mod n B
    have h2 : n * B ^ k = n / B * (B ^ k * B) + n % B * B ^ k := by
      have : (B * (n / B) + n % B) * B ^ k = n / B * (B ^ k * B) + n % B * B ^ k := by grind
      rwa [h1] at this
    have := h.eq
    omega
  · rw [Nat.add_sub_cancel, updN_same]
    have h1 := Nat.div_add_mod n B
    rw [h0, Nat.mul_zero, Nat.zero_add] at h1
    omega
theorem NatI.done {B k N : Nat} {o : Nat → Nat} (h : NatI B o k 0 N) : Dig B o k ∧ nv B o k = N :=
  ⟨⟨h.lt, h.top rfl⟩, by have := h.eq; omega⟩

/-! ### Comparison -/
def cmpI (a b : Nat) : Int := if a < b then -1 else if b < a then 1 else 0
theorem cmpI_lt {a b : Nat} (h : a < b) : cmpI a b = -1 := by simp [cmpI, h]
theorem cmpI_gt {a b : Nat} (h : b < a) : cmpI a b = 1 := by unfold cmpI; rw [if_neg (by omega), if_pos h]
theorem cmpI_eq {a b : Nat} (h : a = b) : cmpI a b = 0 := by subst h; simp [cmpI]

/-- The digits without the zeros at the end. -/
theorem trim_dig {B : Nat} {f : Nat → Nat} {n m : Nat} (hf : ∀ i, i < n → f i < B) (hm : m ≤ n) (hz : ∀ i, m ≤ i → i < n → f i = 0) (ht : m ≠ 0 → f (m - 1) ≠ 0) : Dig B f m ∧ nv B f m = nv B f n :=
  ⟨⟨fun i hi => hf i (by omega), ht⟩, (nv_zeros hm hz).symm⟩

/-- The digits from place k on. -/
def offN (f : Nat → Nat) (k : Nat) : Nat → Nat := fun j => f (k + j)

/-! ### A multiple is taken away -/
structure RedI (B : Nat) (a v : Nat → Nat) (n q : Nat) (o : Nat → Nat) (i c b : Nat) : Prop where
  eq : nv B o i + q * nv B (ext v n) i = nv B a i + (b + c) * B ^ i
  lt : ∀ j, j < i → o j < B
  cle : c * B ^ i ≤ q * nv B (ext v n) i
  b1 : b ≤ 1
theorem ext_bd {B : Nat} {v : Nat → Nat} {n : Nat} (hB : 0 < B) (hv : ∀ j, j < n → v j < B) (i : Nat) : ext v n i < B := by
  unfold ext; split
  · exact hv i (by assumption)
  · exact hB
theorem RedI.start {B : Nat} {a v o : Nat → Nat} {n q : Nat} : RedI B a v n q o 0 0 0 := ⟨by simp [nv], fun j hj => by omega, by simp, by omega⟩
theorem RedI.c_lt {B : Nat} {a v o : Nat → Nat} {n q i c b : Nat} (hB : 0 < B) (hv : ∀ j, j < n → v j < B) (hq : q ≤ B) (h : RedI B a v n q o i c b) : c < B := by
  have h1 := nv_lt (B := B) (f := ext v n) (n := i) fun j _ => ext_bd hB hv j
  have hp : 0 < B ^ i := Nat.pow_pos hB
  have h2 : q * nv B (ext v n) i ≤ B * nv B (ext v n) i := Nat.mul_le_mul_right _ hq
  have h3 : B * nv B (ext v n) i < B * B ^ i := Nat.mul_lt_mul_of_pos_left h1 hB
  have h4 := h.cle
  exact Nat.lt_of_mul_lt_mul_right (a := B ^ i) (by omega)
theorem RedI.step {B : Nat} {a v o : Nat → Nat} {n q i c b x b' : Nat} (_hB : 0 < B) (h : RedI B a v n q o i c b) (hx : x < B) (hb : b' ≤ 1) (he : x + (c + q * ext v n i) % B + b = a i + B * b') :
    RedI B a v n q (updN o i x) (i + 1) ((c + q * ext v n i) / B) b' := by
  have h1 := Nat.div_add_mod (c + q * ext v n i) B
  have h0 := h.eq
  have hc := h.cle
  refine ⟨?_, upd_lt h.lt hx, ?_, hb⟩
  · rw [nv_next, nv, nv, Nat.pow_succ, Nat.mul_add]
    generalize ext v n = w at *
    generalize hp : c + q * w i = p at *
    have e1 : q * (w i * B ^ i) = q * w i * B ^ i := (Nat.mul_assoc _ _ _).symm
    have e2 : (x + p % B + b) * B ^ i = (a i + B * b') * B ^ i := by rw [he]
    have e3 : (B * (p / B) + p % B) * B ^ i = (c + q * w i) * B ^ i := by rw [h1, hp]
    have e4 : (x + p % B + b) * B ^ i = x * B ^ i + p % B * B ^ i + b * B ^ i := by grind
    have e5 : (a i + B * b') * B ^ i = a i * B ^ i + b' * (B ^ i * B) := by grind
    have e6 : (B * (p / B) + p % B) * B ^ i = p / B * (B ^ i * B) + p % B * B ^ i := by grind
    have e7 : (c + q * w i) * B ^ i = c * B ^ i + q * w i * B ^ i := by grind
    have e8 : (b + c) * B ^ i = b * B ^ i + c * B ^ i := by grind
    have e9 : (b' + p / B) * (B ^ i * B) = b' * (B ^ i * B) + p / B * (B ^ i * B) := by grind
    omega
  · rw [nv, Nat.pow_succ, Nat.mul_add]
    generalize ext v n = w at *
    generalize hp : c + q * w i = p at *
    have e1 : q * (w i * B ^ i) = q * w i * B ^ i := (Nat.mul_assoc _ _ _).symm
    have e3 : p * B ^ i = c * B ^ i + q * w i * B ^ i := by rw [← hp]; grind
    have e6 : p * B ^ i = p / B * (B ^ i * B) + p % B * B ^ i := by
      have : (B * (p / B) + p % B) * B ^ i = p / B * (B ^ i * B) + p % B * B ^ i := by grind
      rwa [h1] at this
    omega
/-- At the end: a borrow is left exactly where the multiple is greater. -/
theorem RedI.done {B : Nat} {a v o : Nat → Nat} {n q c b : Nat} (hB : 0 < B) (hv : ∀ j, j < n → v j < B) (hq : q ≤ B) (h : RedI B a v n q o (n + 1) c b) :
    nv B o (n + 1) + q * nv B v n = nv B a (n + 1) + b * B ^ (n + 1) := by
  have h1 := nv_lt (B := B) (f := v) (n := n) hv
  have h4 := h.cle
  have h0 := h.eq
  rw [nv_ext (Nat.le_succ n)] at h0 h4
  have h2 : q * nv B v n ≤ B * nv B v n := Nat.mul_le_mul_right _ hq
  have h3 : B * nv B v n < B * B ^ n := Nat.mul_lt_mul_of_pos_left h1 hB
  have hc : c = 0 := by
    rcases Nat.eq_zero_or_pos c with h | h
    · exact h
    · have h5 : 1 * B ^ (n + 1) ≤ c * B ^ (n + 1) := Nat.mul_le_mul_right _ h
      rw [Nat.pow_succ] at h5 h4
      have : B ^ n * B = B * B ^ n := Nat.mul_comm _ _
      omega
  subst hc
  rwa [Nat.add_zero] at h0

/-! ### The outer loop -/
structure DvO (B : Nat) (R O v : Nat → Nat) (U L n m t : Nat) : Prop where
  eq : nv B O m * nv B v n + nv B R L = U
  lt : nv B R L < nv B v n * B ^ t
  Rd : ∀ j, j < L → R j < B
  Od : ∀ j, j < m → O j < B
  zero : ∀ j, j < t → O j = 0
theorem nv_low {B : Nat} {R : Nat → Nat} {L p : Nat} (hp : p ≤ L) (h : nv B R L < B ^ p) : nv B R L = nv B R p := by
  have e := nv_split (B := B) (f := R) (k := p) (n := L - p)
  rw [show p + (L - p) = L by omega] at e
  rcases Nat.eq_zero_or_pos (nv B (fun i => R (p + i)) (L - p)) with h0 | h0
  · rw [h0, Nat.mul_zero, Nat.add_zero] at e; exact e
  · have : B ^ p * 1 ≤ B ^ p * nv B (fun i => R (p + i)) (L - p) := Nat.mul_le_mul_left _ h0
    omega
/-- The part that is looked at, and what it is worth. -/
theorem DvO.part {B : Nat} {R O v : Nat → Nat} {U L n m k : Nat} (hB : 1 < B) (h : DvO B R O v U L n m (k + 1)) (hv : ∀ j, j < n → v j < B) (hL : k + n + 1 ≤ L) :
    nv B R L = nv B R k + B ^ k * nv B (offN R k) (n + 1) ∧ nv B (offN R k) (n + 1) < nv B v n * B := by
  have h1 := nv_lt (B := B) (f := v) (n := n) hv
  have hp : 0 < B ^ (k + 1) := Nat.pow_pos (by omega)
  have h2 : nv B v n * B ^ (k + 1) < B ^ n * B ^ (k + 1) := Nat.mul_lt_mul_of_pos_right h1 hp
  have h3 := h.lt
  have e0 : B ^ n * B ^ (k + 1) = B ^ (k + n + 1) := by rw [← Nat.pow_add]; congr 1; omega
  have e1 := nv_low hL (show nv B R L < B ^ (k + n + 1) by omega)
  have e2 := nv_split (B := B) (f := R) (k := k) (n := n + 1)
  rw [← Nat.add_assoc] at e2
  have e3 : nv B R L = nv B R k + B ^ k * nv B (offN R k) (n + 1) := by rw [e1, e2]; rfl
  refine ⟨e3, ?_⟩
  refine Nat.lt_of_mul_lt_mul_left (a := B ^ k) ?_
  have e4 : B ^ k * (nv B v n * B) = nv B v n * B ^ (k + 1) := by rw [Nat.pow_succ]; grind
  omega
theorem DvO.step {B : Nat} {R R' O v : Nat → Nat} {U L n m k q : Nat} (hB : 1 < B) (h : DvO B R O v U L n m (k + 1)) (hv : ∀ j, j < n → v j < B) (hL : k + n + 1 ≤ L) (hm : k < m)
    (hlo : ∀ j, j < k → R' j = R j) (hhi : ∀ j, k + n + 1 ≤ j → j < L → R' j = R j) (hd : ∀ j, j < L → R' j < B)
    (hX : nv B (offN R' k) (n + 1) + q * nv B v n = nv B (offN R k) (n + 1)) (hlt : nv B (offN R' k) (n + 1) < nv B v n) : q < B ∧ DvO B R' (updN O k q) v U L n m k := by
  obtain ⟨e1, e2⟩ := h.part hB hv hL
  have hV : 0 < nv B v n := by omega
  have hq : q < B := by
    refine Nat.lt_of_mul_lt_mul_right (a := nv B v n) ?_
    have : B * nv B v n = nv B v n * B := Nat.mul_comm _ _
    omega
  have hhz : ∀ j, k + n + 1 ≤ j → j < L → R j = 0 := by
    have h3 := nv_split (B := B) (f := R) (k := k + n + 1) (n := L - (k + n + 1))
    have h4 := nv_split (B := B) (f := R) (k := k) (n := n + 1)
    rw [← Nat.add_assoc] at h4
    rw [show k + n + 1 + (L - (k + n + 1)) = L by omega] at h3
    have h5 : B ^ (k + n + 1) * nv B (fun i => R (k + n + 1 + i)) (L - (k + n + 1)) = 0 := by
      have h6 : nv B (offN R k) (n + 1) = nv B (fun i => R (k + i)) (n + 1) := rfl
      rw [h6] at e1
      omega
    have hp : 0 < B ^ (k + n + 1) := Nat.pow_pos (by omega)
    have h6 : nv B (fun i => R (k + n + 1 + i)) (L - (k + n + 1)) = 0 := by
      rcases Nat.mul_eq_zero.1 h5 with h | h
      · omega
      · exact h
    intro j hj hjL
    have h7 := nv_inj (B := B) (f := fun i => R (k + n + 1 + i)) (g := fun _ => 0) (n := L - (k + n + 1)) (fun i hi => h.Rd _ (by omega)) (fun _ _ => by omega) (by rw [h6, nv_zero fun _ _ => rfl]) (j - (k + n + 1)) (by omega)
    rwa [show k + n + 1 + (j - (k + n + 1)) = j by omega] at h7
  have f1 : nv B R' L = nv B R k + B ^ k * nv B (offN R' k) (n + 1) := by
    rw [nv_zeros (n := k + n + 1) hL fun j h1 h2 => by rw [hhi j h1 h2]; exact hhz j h1 h2]
    have e2 := nv_split (B := B) (f := R') (k := k) (n := n + 1)
    rw [← Nat.add_assoc] at e2
    rw [e2, nv_congr hlo]
    rfl
  have hk := nv_lt (B := B) (f := R) (n := k) fun j hj => h.Rd j (by omega)
  have g1 := nv_upd (B := B) (f := O) (x := q) hm
  rw [h.zero k (by omega), Nat.zero_mul, Nat.add_zero] at g1
  refine ⟨hq, ⟨?_, ?_, hd, upd_lt_at h.Od hq, fun j hj => by rw [updN_other _ (by omega)]; exact h.zero j (by omega)⟩⟩
  · have h0 := h.eq
    rw [g1, f1, ← h0, e1]
    have e5 : B ^ k * nv B (offN R k) (n + 1) = B ^ k * nv B (offN R' k) (n + 1) + q * B ^ k * nv B v n := by rw [← hX]; grind
    have e6 : (nv B O m + q * B ^ k) * nv B v n = nv B O m * nv B v n + q * B ^ k * nv B v n := Nat.add_mul _ _ _
    omega
  · rw [f1]
    have : B ^ k * (nv B (offN R' k) (n + 1) + 1) ≤ B ^ k * nv B v n := Nat.mul_le_mul_left _ hlt
    rw [Nat.mul_add, Nat.mul_one, Nat.mul_comm (B ^ k) (nv B v n)] at this
    omega
theorem DvO.done {B : Nat} {R O v : Nat → Nat} {U L n m : Nat} (h : DvO B R O v U L n m 0) : nv B O m = U / nv B v n ∧ nv B R L = U % nv B v n := by
  have h1 := h.eq
  have h2 := h.lt
  rw [Nat.pow_zero, Nat.mul_one] at h2
  have := mod_top (a := nv B R L) (b := nv B v n) (q := nv B O m) h2
  rw [← h1, Nat.add_comm]
  exact ⟨this.2.symm, this.1.symm⟩
theorem DvO.start {B : Nat} {u R O v : Nat → Nat} {l n : Nat} (hB : 1 < B) (hn : n ≤ l) (hv0 : n ≠ 0) (hvt : v (n - 1) ≠ 0) (hu : ∀ j, j < l → u j < B) (hR : ∀ j, j < l → R j = u j) (hR0 : R l = 0) (hO : ∀ j, j < l - n + 1 → O j = 0) :
    DvO B R O v (nv B u l) (l + 1) n (l - n + 1) (l - n + 1) := by
  have e : nv B R (l + 1) = nv B u l := by rw [nv, hR0, Nat.zero_mul, Nat.add_zero]; exact nv_congr hR
  have h1 := nv_lt hu
  have h2 := nv_ge (B := B) (f := v) (n := n - 1) hvt
  rw [show n - 1 + 1 = n by omega] at h2
  refine ⟨by rw [nv_zero hO, e]; simp, ?_, fun j hj => ?_, fun j hj => by rw [hO j hj]; omega, hO⟩
  · rw [e]
    have h3 : B ^ (n - 1) * B ^ (l - n + 1) ≤ nv B v n * B ^ (l - n + 1) := Nat.mul_le_mul_right _ h2
    rw [← Nat.pow_add, show n - 1 + (l - n + 1) = l by omega] at h3
    omega
  · by_cases h : j = l
    · rw [h, hR0]; omega
    · rw [hR j (by omega)]; exact hu j (by omega)

/-! ### The divisor's scale -/
theorem scale_half {B b : Nat} (hB : B % 2 = 0) (hb : 0 < b) (hbB : b < B) : B ≤ 2 * (b * (B / (b + 1))) := by
  have h1 := Nat.div_add_mod B (b + 1)
  have h2 := Nat.mod_lt B (show 0 < b + 1 by omega)
  generalize hd : B / (b + 1) = d at *
  have e : (b + 1) * d = b * d + d := by rw [Nat.add_mul, Nat.one_mul]
  have hd0 : 0 < d := by
    rcases Nat.eq_zero_or_pos d with h | h
    · subst h; simp at e; omega
    · exact h
  by_cases h3 : d = 1
  · subst h3; omega
  · by_cases h4 : b = 1
    · subst h4; omega
    · have h5 : b + d ≤ b * d := by
        obtain ⟨x, rfl⟩ : ∃ x, b = x + 2 := ⟨b - 2, by omega⟩
        obtain ⟨y, rfl⟩ : ∃ y, d = y + 2 := ⟨d - 2, by omega⟩
        have : (x + 2) * (y + 2) = x * y + 2 * x + 2 * y + 4 := by grind
        omega
      omega
/-- The scaled divisor has as many digits, and its first one is at least half the base. -/
theorem scale_v {B : Nat} {b v : Nat → Nat} {n m : Nat} (hB : 1 < B) (he : B % 2 = 0) (hb : Dig B b n) (hn : n ≠ 0) (hv : Dig B v m) (h : nv B v m = nv B b n * (B / (b (n - 1) + 1))) :
    m = n ∧ B ≤ 2 * v (n - 1) ∧ 0 < B / (b (n - 1) + 1) ∧ B / (b (n - 1) + 1) < B := by
  have h1 := hb.2 hn
  have h2 := hb.1 (n - 1) (by omega)
  have h3 := scale_half he (show 0 < b (n - 1) by omega) h2
  have h4 : B / (b (n - 1) + 1) * (b (n - 1) + 1) ≤ B := Nat.div_mul_le_self _ _
  have h5 := Nat.div_lt_self (n := B) (k := b (n - 1) + 1) (by omega) (by omega)
  generalize B / (b (n - 1) + 1) = d at *
  have hd0 : 0 < d := by
    rcases Nat.eq_zero_or_pos d with h | h
    · subst h; omega
    · exact h
  have e1 : nv B b n = nv B b (n - 1) + b (n - 1) * B ^ (n - 1) := by
    obtain ⟨k, rfl⟩ : ∃ k, n = k + 1 := ⟨n - 1, by omega⟩
    rw [nv, Nat.add_sub_cancel]
  have l1 := nv_lt (B := B) (f := b) (n := n - 1) fun j hj => hb.1 j (by omega)
  have hpw : B ^ n = B * B ^ (n - 1) := by
    obtain ⟨k, rfl⟩ : ∃ k, n = k + 1 := ⟨n - 1, by omega⟩
    rw [Nat.pow_succ, Nat.add_sub_cancel, Nat.mul_comm]
  have hlt : nv B v m < B ^ n := by
    rw [h, hpw]
    have a1 : (nv B b n + 1) * d ≤ (b (n - 1) + 1) * B ^ (n - 1) * d := Nat.mul_le_mul_right _ (by rw [Nat.add_mul, Nat.one_mul]; omega)
    have a2 : d * (b (n - 1) + 1) * B ^ (n - 1) ≤ B * B ^ (n - 1) := Nat.mul_le_mul_right _ h4
    have a3 : (b (n - 1) + 1) * B ^ (n - 1) * d = d * (b (n - 1) + 1) * B ^ (n - 1) := by grind
    rw [Nat.add_mul, Nat.one_mul] at a1
    omega
  have hge : B ^ (n - 1) ≤ nv B v m := by
    rw [h]
    have a1 := hb.ge hn
    have a2 : nv B b n * 1 ≤ nv B b n * d := Nat.mul_le_mul_left _ hd0
    omega
  have hm : m = n := by
    have a1 := len_le hB hv hlt
    have a2 := len_gt hB hv hge
    omega
  subst hm
  refine ⟨rfl, ?_, hd0, h5⟩
  have e2 : nv B v m = nv B v (m - 1) + v (m - 1) * B ^ (m - 1) := by
    obtain ⟨k, rfl⟩ : ∃ k, m = k + 1 := ⟨m - 1, by omega⟩
    rw [nv, Nat.add_sub_cancel]
  have l2 := nv_lt (B := B) (f := v) (n := m - 1) fun j hj => hv.1 j (by omega)
  have h6 : b (m - 1) * d ≤ v (m - 1) := by
    have a1 : b (m - 1) * d * B ^ (m - 1) ≤ nv B v m := by
      rw [h, e1]
      have : (nv B b (m - 1) + b (m - 1) * B ^ (m - 1)) * d = nv B b (m - 1) * d + b (m - 1) * d * B ^ (m - 1) := by grind
      omega
    have a2 : b (m - 1) * d * B ^ (m - 1) < (v (m - 1) + 1) * B ^ (m - 1) := by rw [Nat.add_mul, Nat.one_mul]; omega
    have := Nat.lt_of_mul_lt_mul_right a2
    omega
  omega
theorem scaled_div {a b d : Nat} (hd : 0 < d) : a * d / (b * d) = a / b ∧ a * d % (b * d) / d = a % b := by
  refine ⟨Nat.mul_div_mul_right _ _ hd, ?_⟩
  rw [Nat.mul_mod_mul_right, Nat.mul_div_cancel _ hd]

/-! ### The estimate of a digit -/
/-- What the estimate keeps: X the part, V the divisor. -/
structure EstI (B : Nat) (top x0 v1 v2 X V q r : Nat) : Prop where
  eq : q * v1 + r = top
  up : X < (q + 1) * V
  qb : q ≤ B + 2
/-- The parts of X and V that the estimate looks at. -/
structure EstP (B : Nat) (top x0 v1 v2 X V : Nat) : Prop where
  ex : ∃ b x' v', X = (top * B + x0) * b + x' ∧ V = (v1 * B + v2) * b + v' ∧ x' < b ∧ v' < b
  lt : X < V * B
  x0B : x0 < B
  v1B : v1 < B
  v2B : v2 < B
  half : B ≤ 2 * v1
  tb : top < (v1 + 1) * B
theorem EstP.of {B : Nat} {R v : Nat → Nat} {n : Nat} (hB : 1 < B) (hn : 2 ≤ n) (hR : ∀ j, j < n + 1 → R j < B) (hv : ∀ j, j < n → v j < B) (hX : nv B R (n + 1) < nv B v n * B) (hh : B ≤ 2 * v (n - 1)) :
    EstP B (R n * B + R (n - 1)) (R (n - 2)) (v (n - 1)) (v (n - 2)) (nv B R (n + 1)) (nv B v n) := by
  obtain ⟨k, rfl⟩ : ∃ k, n = k + 2 := ⟨n - 2, by omega⟩
  simp only [show k + 2 - 1 = k + 1 by omega, Nat.add_sub_cancel] at *
  have lv := nv_lt (B := B) (f := v) (n := k) fun j hj => hv j (by omega)
  have lR := nv_lt (B := B) (f := R) (n := k) fun j hj => hR j (by omega)
  have eX : nv B R (k + 2 + 1) = ((R (k + 2) * B + R (k + 1)) * B + R k) * B ^ k + nv B R k := by
    rw [nv, nv, nv, Nat.pow_succ, Nat.pow_succ]; grind
  have eV : nv B v (k + 2) = (v (k + 1) * B + v k) * B ^ k + nv B v k := by
    rw [nv, nv, Nat.pow_succ]; grind
  refine ⟨⟨B ^ k, nv B R k, nv B v k, eX, eV, lR, lv⟩, hX, hR k (by omega), hv (k + 1) (by omega), hv k (by omega), hh, ?_⟩
  have h1 := hv k (by omega)
  have hp : 0 < B ^ k := Nat.pow_pos (by omega)
  refine Nat.lt_of_mul_lt_mul_right (a := B * B ^ k) ?_
  have a1 : nv B v (k + 2) < (v (k + 1) + 1) * B * B ^ k := by
    have : (v (k + 1) * B + v k + 1) * B ^ k ≤ (v (k + 1) + 1) * B * B ^ k := Nat.mul_le_mul_right _ (by rw [Nat.add_mul, Nat.one_mul]; omega)
    rw [Nat.add_mul (v (k + 1) * B + v k), Nat.one_mul] at this
    omega
  have a2 : nv B v (k + 2) * B < (v (k + 1) + 1) * B * B ^ k * B := Nat.mul_lt_mul_of_pos_right a1 (by omega)
  have a3 : (v (k + 1) + 1) * B * B ^ k * B = (v (k + 1) + 1) * B * (B * B ^ k) := by grind
  have a4 : (R (k + 2) * B + R (k + 1)) * (B * B ^ k) ≤ nv B R (k + 2 + 1) := by
    rw [eX]
    have : ((R (k + 2) * B + R (k + 1)) * B + R k) * B ^ k = (R (k + 2) * B + R (k + 1)) * (B * B ^ k) + R k * B ^ k := by grind
    omega
  omega
theorem EstI.start {B top x0 v1 v2 X V : Nat} (hP : EstP B top x0 v1 v2 X V) (hB : 1 < B) : EstI B top x0 v1 v2 X V (top / v1) (top % v1) ∧ top % v1 < B := by
  have hh := hP.half
  have hv1 : 0 < v1 := by omega
  obtain ⟨b, x', v', rfl, rfl, hx', hv'⟩ := hP.ex
  have := Nat.mod_lt top hv1
  have hb := hP.v1B
  exact ⟨⟨by rw [Nat.mul_comm]; exact Nat.div_add_mod _ _, kn_init hx' hP.x0B hv1, kn_bd hh hP.tb⟩, by omega⟩
theorem EstI.down {B top x0 v1 v2 X V q r : Nat} (hP : EstP B top x0 v1 v2 X V) (h : EstI B top x0 v1 v2 X V q r) (hc : B ≤ q ∨ r * B + x0 < q * v2) (hB : 1 < B) : 1 ≤ q ∧ EstI B top x0 v1 v2 X V (q - 1) (r + v1) := by
  obtain ⟨b, x', v', rfl, rfl, hx', hv'⟩ := hP.ex
  have hq : 1 ≤ q := by
    rcases hc with h | h
    · omega
    · rcases Nat.eq_zero_or_pos q with h0 | h0
      · subst h0; simp at h
      · exact h0
  have h1 := kn_down hx' h.eq hP.lt hc
  have h2 := h.eq
  have h3 := h.qb
  refine ⟨hq, ⟨?_, by rw [Nat.sub_add_cancel hq]; exact h1, by omega⟩⟩
  obtain ⟨p, rfl⟩ : ∃ p, q = p + 1 := ⟨q - 1, by omega⟩
  rw [Nat.add_mul, Nat.one_mul] at h2
  rw [Nat.add_sub_cancel]
  omega
/-- Behind the estimate. -/
structure EstD (B X V q : Nat) : Prop where
  qB : q ≤ B
  up : X < (q + 1) * V
  lo : q * V ≤ X + V
theorem EstI.done {B top x0 v1 v2 X V q r : Nat} (hP : EstP B top x0 v1 v2 X V) (h : EstI B top x0 v1 v2 X V q r) (hc : B ≤ r ∨ q < B ∧ q * v2 ≤ r * B + x0) : EstD B X V q := by
  have hh := hP.half
  have h2 := h.eq
  have h3 := hP.tb
  have hq : q ≤ B := by
    rcases hc with hc | hc
    · have : q * v1 < B * v1 := by rw [Nat.add_mul, Nat.one_mul, Nat.mul_comm v1 B] at h3; omega
      have := Nat.lt_of_mul_lt_mul_right this
      omega
    · omega
  have hup := h.up
  have hv1 : 0 < v1 := by
    have := hP.x0B
    omega
  obtain ⟨b, x', v', rfl, rfl, hx', hv'⟩ := hP.ex
  exact ⟨hq, hup, kn_exit hv' hv1 hP.v2B hq h2 (hc.imp id And.right)⟩

theorem fin_digits {B : Nat} {R R' : Nat → Nat} {L n k : Nat} (hR : ∀ j, j < L → R j < B) (hF : ∀ j, j < k ∨ k + (n + 1) ≤ j → R' j = R j) (hlt : ∀ j, j < n + 1 → offN R' k j < B) : ∀ j, j < L → R' j < B := fun j hj => by
  by_cases h : j < k ∨ k + (n + 1) ≤ j
  · rw [hF j h]; exact hR j hj
  · have := hlt (j - k) (by omega)
    unfold offN at this
    rwa [show k + (j - k) = j by omega] at this

/-- The estimate was right. -/
theorem DvO.fin_ok {B : Nat} {R R' O v : Nat → Nat} {U L n m k q c : Nat} (hB : 1 < B) (h : DvO B R O v U L n m (k + 1)) (hv : ∀ j, j < n → v j < B) (hL : k + n + 1 ≤ L) (hm : k < m)
    (hF : ∀ j, j < k ∨ k + (n + 1) ≤ j → R' j = R j) (hE : EstD B (nv B (offN R k) (n + 1)) (nv B v n) q) (hR : RedI B (offN R k) v n q (offN R' k) (n + 1) c 0) : q < B ∧ DvO B R' (updN O k q) v U L n m k := by
  have h1 := hR.done (by omega) hv hE.qB
  rw [Nat.zero_mul, Nat.add_zero] at h1
  have h2 := hE.up
  rw [Nat.add_mul, Nat.one_mul] at h2
  exact h.step hB hv hL hm (fun j hj => hF j (.inl hj)) (fun j h1 _ => hF j (.inr (by omega))) (fin_digits h.Rd hF hR.lt) h1 (by omega)

/-- The estimate was too great by one. -/
theorem DvO.fin_bad {B : Nat} {R R' R'' O v : Nat → Nat} {U L n m k q c b c2 : Nat} (hB : 1 < B) (h : DvO B R O v U L n m (k + 1)) (hv : ∀ j, j < n → v j < B) (hL : k + n + 1 ≤ L) (hm : k < m)
    (hF : ∀ j, j < k ∨ k + (n + 1) ≤ j → R' j = R j) (hE : EstD B (nv B (offN R k) (n + 1)) (nv B v n) q) (hR : RedI B (offN R k) v n q (offN R' k) (n + 1) c b) (hb : b ≠ 0)
    (hF2 : ∀ j, j < k ∨ k + (n + 1) ≤ j → R'' j = R' j) (hA : AddI B (offN R' k) (ext v n) (offN R'' k) (n + 1) c2) : 1 ≤ q ∧ q - 1 < B ∧ DvO B R'' (updN O k (q - 1)) v U L n m k := by
  have h1 := hR.done (by omega) hv hE.qB
  have hb1 := hR.b1
  obtain rfl : b = 1 := by omega
  rw [Nat.one_mul] at h1
  have l1 := nv_lt hR.lt
  have l2 := nv_lt hA.lt
  have h3 := hA.eq
  rw [nv_ext (Nat.le_succ n)] at h3
  have hup := hE.up
  have hlo := hE.lo
  have hc2 := hA.c1
  have hq : 1 ≤ q := by
    rcases Nat.eq_zero_or_pos q with h0 | h0
    · subst h0; rw [Nat.zero_mul] at h1; omega
    · exact h0
  have hcc : c2 = 1 := by
    rcases Nat.eq_zero_or_pos c2 with h0 | h0
    · subst h0; rw [Nat.zero_mul] at h3; omega
    · omega
  subst hcc
  rw [Nat.one_mul] at h3
  obtain ⟨p, rfl⟩ : ∃ p, q = p + 1 := ⟨q - 1, by omega⟩
  rw [Nat.add_sub_cancel]
  have e1 : (p + 1) * nv B v n = p * nv B v n + nv B v n := by rw [Nat.add_mul, Nat.one_mul]
  rw [e1] at h1 hlo
  have hF3 : ∀ j, j < k ∨ k + (n + 1) ≤ j → R'' j = R j := fun j hj => (hF2 j hj).trans (hF j hj)
  obtain ⟨g1, g2⟩ := h.step (R' := R'') (q := p) hB hv hL hm (fun j hj => hF3 j (.inl hj)) (fun j h1 _ => hF3 j (.inr (by omega))) (fin_digits h.Rd hF3 hA.lt) (by omega) (by omega)
  exact ⟨hq, g1, g2⟩

/-- The number whose decimal digits are d 0 .. d (n - 1), the greatest first. -/
def preV (d : Nat → Nat) : Nat → Nat
  | 0 => 0
  | n + 1 => preV d n * 10 + d n

theorem preV_congr {d e : Nat → Nat} : ∀ {n : Nat}, (∀ i, i < n → d i = e i) → preV d n = preV e n
  | 0, _ => rfl
  | n + 1, h => by rw [preV, preV, preV_congr (fun i hi => h i (by omega)), h n (by omega)]

theorem preV_split {d : Nat → Nat} {a : Nat} : ∀ b, preV d (a + b) = preV d a * 10 ^ b + preV (fun i => d (a + i)) b
  | 0 => by simp [preV]
  | b + 1 => by
    rw [← Nat.add_assoc, preV, preV_split b, preV, Nat.pow_succ]
    rw [Nat.add_mul, Nat.mul_assoc]
    omega

theorem preV_lt {d : Nat → Nat} : ∀ {n : Nat}, (∀ i, i < n → d i < 10) → preV d n < 10 ^ n
  | 0, _ => by simp [preV]
  | n + 1, h => by
    have ih := preV_lt (d := d) (n := n) fun i hi => h i (by omega)
    have := h n (by omega)
    rw [preV, Nat.pow_succ]
    omega

/-- The same digits, the least first. -/
theorem preV_nv {d : Nat → Nat} : ∀ n, preV d n = nv 10 (fun i => d (n - 1 - i)) n
  | 0 => rfl
  | n + 1 => by
    have h : preV d (1 + n) = preV d 1 * 10 ^ n + preV (fun i => d (1 + i)) n := preV_split n
    rw [Nat.add_comm 1 n] at h
    rw [h, preV_nv n, nv]
    have e1 : preV d 1 = d 0 := by simp [preV]
    have e2 : nv 10 (fun i => d (1 + (n - 1 - i))) n = nv 10 (fun i => d (n + 1 - 1 - i)) n := nv_congr fun i hi => by congr 1; omega
    rw [e1, e2, show n + 1 - 1 - n = 0 by omega]
    omega

/-- The bytes of a decimal text. -/
structure DecS (L : List UInt8) : Prop where
  dig : ∀ b ∈ L, 48 ≤ b.toNat ∧ b.toNat ≤ 57
  ne : L ≠ []
  lead : L.head? = some 48 → L.length = 1

def dgt (L : List UInt8) (i : Nat) : Nat := (L.getD i 48).toNat - 48
def decV (L : List UInt8) : Nat := preV (dgt L) L.length

theorem DecS.at {L : List UInt8} (h : DecS L) {i : Nat} (hi : i < L.length) : dgt L i < 10 ∧ L[i]? = some (UInt8.ofNat (48 + dgt L i)) := by
  have h1 := h.dig (L.getD i 48) (by rw [List.getD_eq_getElem?_getD, List.getElem?_eq_getElem hi]; simp)
  have e : L[i]? = some (L.getD i 48) := by rw [List.getD_eq_getElem?_getD, List.getElem?_eq_getElem hi]; rfl
  unfold dgt
  refine ⟨by omega, ?_⟩
  rw [e]
  congr 1
  rw [show 48 + ((L.getD i 48).toNat - 48) = (L.getD i 48).toNat by omega]
  simp

theorem DecS.pos {L : List UInt8} (h : DecS L) : 0 < L.length := List.length_pos_iff.2 h.ne

theorem DecS.head {L : List UInt8} (h : DecS L) (hl : 1 < L.length) : dgt L 0 ≠ 0 := fun h0 => by
  have h1 := (h.at h.pos).2
  rw [h0] at h1
  have : L.head? = some 48 := by rw [List.head?_eq_getElem?, h1]; rfl
  have := h.lead this
  omega

theorem DecS.lt {L : List UInt8} (h : DecS L) : decV L < 10 ^ L.length := preV_lt fun _ hi => (h.at hi).1

theorem DecS.ge {L : List UInt8} (h : DecS L) (hl : 1 < L.length) : 10 ^ (L.length - 1) ≤ decV L := by
  have e : decV L = preV (dgt L) (1 + (L.length - 1)) := by unfold decV; congr 1; omega
  rw [e, preV_split]
  have h0 := h.head hl
  have e1 : preV (dgt L) 1 = dgt L 0 := by simp [preV]
  rw [e1]
  have : 1 * 10 ^ (L.length - 1) ≤ dgt L 0 * 10 ^ (L.length - 1) := Nat.mul_le_mul_right _ (by omega)
  omega

/-- A number has one text. -/
theorem DecS.inj {L M : List UInt8} (hL : DecS L) (hM : DecS M) (h : decV L = decV M) : L = M := by
  have hlen : ∀ {L M : List UInt8}, DecS L → DecS M → decV L = decV M → L.length ≤ M.length := fun {L M} hL hM h => by
    refine Decidable.byContradiction fun hc => ?_
    have hp := hM.pos
    have h1 := hL.ge (by omega)
    have h2 := hM.lt
    have h3 : 10 ^ M.length ≤ 10 ^ (L.length - 1) := Nat.pow_le_pow_right (by omega) (by omega)
    omega
  have hle := Nat.le_antisymm (hlen hL hM h) (hlen hM hL h.symm)
  have hd : ∀ i, i < L.length → dgt L i = dgt M i := fun i hi => by
    unfold decV at h
    rw [preV_nv, preV_nv, ← hle] at h
    have := nv_inj (B := 10) (f := fun i => dgt L (L.length - 1 - i)) (g := fun i => dgt M (L.length - 1 - i)) (n := L.length) (fun i hi => (hL.at (by omega)).1) (fun i hi => (hM.at (by omega)).1) h (L.length - 1 - i) (by omega)
    rwa [show L.length - 1 - (L.length - 1 - i) = i by omega] at this
  apply List.ext_getElem?
  intro i
  by_cases hi : i < L.length
  · rw [(hL.at hi).2, (hM.at (by omega)).2, hd i hi]
  · rw [List.getElem?_eq_none (by omega), List.getElem?_eq_none (by omega)]

/-- The text has one digit more than its number's power. -/
theorem DecS.len_le {L : List UInt8} (h : DecS L) {k : Nat} (hk : 1 ≤ k) : L.length ≤ k ↔ decV L < 10 ^ k := by
  constructor
  · intro hl
    have h1 := h.lt
    have : 10 ^ L.length ≤ 10 ^ k := Nat.pow_le_pow_right (by omega) hl
    omega
  · intro hv
    refine Decidable.byContradiction fun hc => ?_
    have h1 := h.ge (by omega)
    have : 10 ^ k ≤ 10 ^ (L.length - 1) := Nat.pow_le_pow_right (by omega) (by omega)
    omega

theorem DecS.zero {L : List UInt8} (h : DecS L) : decV L = 0 ↔ L = [48] := by
  constructor
  · intro h0
    have h48 : DecS [48] := ⟨by simp, by simp, by simp⟩
    exact h.inj h48 (by rw [h0]; rfl)
  · rintro rfl; rfl

/-- Chunks of nine digits from the end. -/
def chunk (d : Nat → Nat) (n k : Nat) : Nat := preV (fun i => d (n - 9 * (k + 1) + i)) (n - 9 * k - (n - 9 * (k + 1)))

theorem chunk_lt {d : Nat → Nat} {n k : Nat} (h : ∀ i, i < n → d i < 10) : chunk d n k < 1000000000 := by
  have h1 := preV_lt (d := fun i => d (n - 9 * (k + 1) + i)) (n := n - 9 * k - (n - 9 * (k + 1))) fun i hi => h _ (by omega)
  have h2 : 10 ^ (n - 9 * k - (n - 9 * (k + 1))) ≤ 10 ^ 9 := Nat.pow_le_pow_right (by omega) (by omega)
  unfold chunk
  omega

/-- The last 9 k digits. -/
theorem chunk_sum {d : Nat → Nat} {n : Nat} : ∀ {k : Nat}, 9 * k ≤ n + 8 → nv 1000000000 (chunk d n) k = preV (fun i => d (n - 9 * k + i)) (n - (n - 9 * k))
  | 0, _ => by simp [nv, preV]
  | k + 1, h => by
    rw [nv, chunk_sum (k := k) (by omega)]
    have e : n - (n - 9 * (k + 1)) = (n - 9 * k - (n - 9 * (k + 1))) + (n - (n - 9 * k)) := by omega
    rw [e, preV_split, show n - (n - 9 * k) = 9 * k by omega, Nat.pow_mul]
    unfold chunk
    have e2 : preV (fun i => d (n - 9 * (k + 1) + (n - 9 * k - (n - 9 * (k + 1)) + i))) (9 * k) = preV (fun i => d (n - 9 * k + i)) (9 * k) := preV_congr fun i hi => by congr 1; omega
    rw [e2, show (10 ^ 9 : Nat) = 1000000000 from rfl]
    omega

theorem chunk_all {d : Nat → Nat} {n : Nat} : nv 1000000000 (chunk d n) ((n + 8) / 9) = preV d n := by
  have := Nat.div_add_mod (n + 8) 9
  have := Nat.mod_lt (n + 8) (show 0 < 9 by omega)
  rw [chunk_sum (by omega), show n - 9 * ((n + 8) / 9) = 0 by omega, Nat.sub_zero]
  exact preV_congr fun i _ => by congr 1; omega

/-- Nine decimal digits of a digit to the base 10^9, the least first. -/
theorem nine_digits {x : Nat} (hx : x < 1000000000) : nv 10 (fun k => x / 10 ^ k % 10) 9 = x := by
  simp only [nv]
  omega

/-- The decimal text of a number. -/
def decT (n : Nat) : List UInt8 := if h : n < 10 then [UInt8.ofNat (48 + n)] else decT (n / 10) ++ [UInt8.ofNat (48 + n % 10)]
termination_by n
decreasing_by omega

theorem ofNat_dig {d : Nat} (h : d < 10) : (UInt8.ofNat (48 + d)).toNat = 48 + d := by
  simp [UInt8.toNat_ofNat']; omega

theorem decV_snoc (L : List UInt8) (b : UInt8) : decV (L ++ [b]) = decV L * 10 + (b.toNat - 48) := by
  unfold decV
  rw [show (L ++ [b]).length = L.length + 1 by simp, preV]
  rw [preV_congr (e := dgt L) fun i hi => by unfold dgt; rw [List.getD_eq_getElem?_getD, List.getD_eq_getElem?_getD, List.getElem?_append_left hi]]
  congr 1
  unfold dgt
  rw [List.getD_eq_getElem?_getD, List.getElem?_append_right (Nat.le_refl _)]
  simp

theorem decT_spec (n : Nat) : DecS (decT n) ∧ decV (decT n) = n ∧ (n ≠ 0 → (decT n).head? ≠ some 48) := by
  induction n using Nat.strongRecOn with
  | _ n ih =>
    unfold decT
    split
    · rename_i h
      have hd := ofNat_dig h
      refine ⟨⟨fun b hb => ?_, by simp, by simp⟩, ?_, fun hn hh => ?_⟩
      · rw [List.mem_singleton] at hb; subst hb; omega
      · simp only [decV, List.length_singleton, preV, dgt, List.getD_cons_zero]; omega
      · simp only [List.head?_cons, Option.some.injEq] at hh
        have := congrArg UInt8.toNat hh
        rw [hd] at this
        have e : (48 : UInt8).toNat = 48 := rfl
        omega
    · rename_i h
      obtain ⟨h1, h2, h3⟩ := ih (n / 10) (by omega)
      have hd := ofNat_dig (d := n % 10) (by omega)
      have hne : (decT (n / 10) ++ [UInt8.ofNat (48 + n % 10)]).head? = (decT (n / 10)).head? := by
        cases e : decT (n / 10) with
        | nil => exact absurd e h1.ne
        | cons a l => rfl
      refine ⟨⟨fun b hb => ?_, by simp, fun hh => ?_⟩, ?_, fun _ => ?_⟩
      · rcases List.mem_append.1 hb with hb | hb
        · exact h1.dig b hb
        · rw [List.mem_singleton] at hb; subst hb; omega
      · rw [hne] at hh
        exact absurd hh (h3 (by omega))
      · rw [decV_snoc, h2, hd]; omega
      · rw [hne]; exact h3 (by omega)

theorem decT_eq {L : List UInt8} (h : DecS L) : decT (decV L) = L := (decT_spec _).1.inj h (decT_spec _).2.1

theorem decT_len (n : Nat) {k : Nat} (hk : 1 ≤ k) : (decT n).length ≤ k ↔ n < 10 ^ k := by
  have h := (decT_spec n).1.len_le hk
  rwa [(decT_spec n).2.1] at h

/-- A fraction of two texts. -/
abbrev Txt := List UInt8 × List UInt8
def signT (neg : Bool) (L : List UInt8) : List UInt8 := if neg = true then 45 :: L else L
def txt (x : Rat) : Txt := (signT (decide (x.num < 0)) (decT x.num.natAbs), decT x.den)
def fitsR (x : Rat) : Prop := x.num.natAbs < 10 ^ 400 ∧ x.den < 10 ^ 400
instance (x : Rat) : Decidable (fitsR x) := by unfold fitsR; infer_instance
/-- The text of a fraction, if there is room. -/
def wrR (x : Rat) : Option Txt := if fitsR x then some (txt x) else none

theorem signT_inj {b c : Bool} {L M : List UInt8} (hL : DecS L) (hM : DecS M) (h : signT b L = signT c M) : b = c ∧ L = M := by
  have h45 : ∀ {L : List UInt8}, DecS L → L.head? ≠ some 45 := fun {L} hL hh => by
    have := hL.dig 45 (List.mem_of_mem_head? hh)
    have e : (45 : UInt8).toNat = 45 := rfl
    omega
  cases b <;> cases c <;> simp only [signT, if_true, Bool.false_eq_true, if_false] at h
  · exact ⟨rfl, h⟩
  · exact absurd (by rw [h]; rfl) (h45 hL)
  · exact absurd (by rw [← h]; rfl) (h45 hM)
  · injection h with _ h; exact ⟨rfl, h⟩

theorem txt_inj {x y : Rat} (h : txt x = txt y) : x = y := by
  unfold txt at h
  simp only [Prod.mk.injEq] at h
  obtain ⟨h1, h2⟩ := h
  obtain ⟨h3, h4⟩ := signT_inj (decT_spec _).1 (decT_spec _).1 h1
  have e1 := congrArg decV h4
  have e2 := congrArg decV h2
  rw [(decT_spec _).2.1, (decT_spec _).2.1] at e1 e2
  refine Rat.ext ?_ e2
  rw [decide_eq_decide] at h3
  omega

open Classical in
/-- The value of a valid fraction. -/
noncomputable def rdR (t : Txt) : Option Rat := if h : ∃ x, fitsR x ∧ txt x = t then some h.choose else none

theorem rdR_some {t : Txt} {x : Rat} : rdR t = some x ↔ fitsR x ∧ txt x = t := by
  unfold rdR
  split
  · rename_i h
    rw [Option.some.injEq]
    constructor
    · rintro rfl; exact h.choose_spec
    · rintro ⟨_, h2⟩
      exact txt_inj (h.choose_spec.2.trans h2.symm)
  · rename_i h
    constructor
    · intro h'; cases h'
    · intro h'; exact absurd ⟨x, h'⟩ h

theorem rdR_none {t : Txt} : rdR t = none ↔ ∀ x, fitsR x → txt x ≠ t := by
  constructor
  · intro h x hx ht
    rw [rdR_some.2 ⟨hx, ht⟩] at h
    cases h
  · intro h
    cases e : rdR t with
    | none => rfl
    | some x => exact absurd (rdR_some.1 e).2 (h x (rdR_some.1 e).1)

theorem wrR_some {x : Rat} {t : Txt} : wrR x = some t ↔ fitsR x ∧ txt x = t := by
  unfold wrR
  split
  · rename_i h; simp [h]
  · rename_i h; simp [h]

theorem rd_wr {x : Rat} {t : Txt} (h : wrR x = some t) : rdR t = some x := rdR_some.2 (wrR_some.1 h)
theorem wr_rd {x : Rat} {t : Txt} (h : rdR t = some x) : wrR x = some t := wrR_some.2 (rdR_some.1 h)

/-- The value of a sign and two numbers. -/
def ratP (neg : Bool) (n d : Nat) : Rat := mkRat (if neg = true then -(n : Int) else n) d

theorem ratP_num {neg : Bool} {n d : Nat} (hd : d ≠ 0) : (ratP neg n d).num.natAbs = n / Nat.gcd n d ∧ (ratP neg n d).den = d / Nat.gcd n d ∧ (decide ((ratP neg n d).num < 0) = (neg && decide (n ≠ 0))) := by
  have hg : 0 < Nat.gcd n d := Nat.gcd_pos_of_pos_right _ (by omega)
  have e1 : (if neg = true then -(n : Int) else n).natAbs = n := by cases neg <;> simp
  have h1 : (ratP neg n d).num = (if neg = true then -(n : Int) else n) / (Nat.gcd d n : Nat) := by
    unfold ratP
    rw [Rat.num_mkRat, if_neg hd, e1]
  have h2 : (ratP neg n d).den = d / Nat.gcd d n := by
    unfold ratP
    rw [Rat.den_mkRat, if_neg hd, e1]
  rw [Nat.gcd_comm d n] at h1 h2
  obtain ⟨k, hk⟩ := Nat.gcd_dvd_left n d
  have hn : n / Nat.gcd n d = k := by
    conv => lhs; lhs; rw [hk]
    exact Nat.mul_div_cancel_left _ hg
  have hk0 : n = 0 ↔ k = 0 := by
    constructor
    · intro h
      rw [← hn, h]; simp
    · intro h
      rw [hk, h]; simp
  have e : (n : Int) = (Nat.gcd n d : Nat) * (k : Int) := by rw [← Int.natCast_mul, ← hk]
  have h3 : (ratP neg n d).num = if neg = true then -(k : Int) else k := by
    rw [h1]
    cases neg
    · simp only [Bool.false_eq_true, if_false]
      rw [e, Int.mul_ediv_cancel_left _ (by omega)]
    · simp only [if_true]
      rw [e, ← Int.mul_neg, Int.mul_ediv_cancel_left _ (by omega)]
  refine ⟨?_, h2, ?_⟩
  · rw [h3, hn]; cases neg <;> simp
  · rw [h3]
    cases neg
    · simp
    · by_cases h0 : n = 0
      · have := hk0.1 h0
        simp [h0, this]
      · have : k ≠ 0 := fun h => h0 (hk0.2 h)
        simp [h0]; omega

def sI (neg : Bool) (n : Nat) : Int := if neg = true then -(n : Int) else n
theorem ratP_def (neg : Bool) (n d : Nat) : ratP neg n d = mkRat (sI neg n) d := rfl
theorem sI_not (s : Bool) (n : Nat) : sI (!s) n = - sI s n := by cases s <;> simp [sI]
theorem sI_mul (s t : Bool) (n m : Nat) : sI (s != t) (n * m) = sI s n * sI t m := by cases s <;> cases t <;> simp [sI, Int.neg_mul, Int.mul_neg]
theorem sI_add (s : Bool) (n m : Nat) : sI s (n + m) = sI s n + sI s m := by cases s <;> simp [sI] <;> omega
theorem sI_sub {s : Bool} {n m : Nat} (h : m ≤ n) : sI s (n - m) = sI s n + sI (!s) m := by cases s <;> simp [sI] <;> omega
theorem sI_nat (s : Bool) (n m : Nat) : sI s (n * m) = sI s n * (m : Int) := by cases s <;> simp [sI, Int.neg_mul]
theorem sI_zero {s : Bool} {n : Nat} : sI s n = 0 ↔ n = 0 := by cases s <;> simp [sI]

theorem ratP_self (x : Rat) : ratP (decide (x.num < 0)) x.num.natAbs x.den = x := by
  rw [ratP_def]
  have e : sI (decide (x.num < 0)) x.num.natAbs = x.num := by unfold sI; simp only [decide_eq_true_eq]; split <;> omega
  rw [e]
  exact Rat.mkRat_self x

theorem ratP_add {s t : Bool} {n m c d : Nat} (hc : c ≠ 0) (hd : d ≠ 0) : ratP s n c + ratP t m d = mkRat (sI s (n * d) + sI t (m * c)) (c * d) := by
  rw [ratP_def, ratP_def, Rat.mkRat_add_mkRat _ _ hc hd, sI_nat, sI_nat]
theorem ratP_add_same {s : Bool} {n m c d : Nat} (hc : c ≠ 0) (hd : d ≠ 0) : ratP s n c + ratP s m d = ratP s (n * d + m * c) (c * d) := by
  rw [ratP_add hc hd, ratP_def, sI_add]
theorem ratP_add_ge {s : Bool} {n m c d : Nat} (hc : c ≠ 0) (hd : d ≠ 0) (h : m * c ≤ n * d) : ratP s n c + ratP (!s) m d = ratP s (n * d - m * c) (c * d) := by
  rw [ratP_add hc hd, ratP_def, sI_sub h]
theorem ratP_add_lt {s : Bool} {n m c d : Nat} (hc : c ≠ 0) (hd : d ≠ 0) (h : n * d ≤ m * c) : ratP s n c + ratP (!s) m d = ratP (!s) (m * c - n * d) (c * d) := by
  rw [ratP_add hc hd, ratP_def, sI_sub h, Bool.not_not, Int.add_comm]
theorem ratP_neg (s : Bool) (n d : Nat) : -(ratP s n d) = ratP (!s) n d := by
  rw [ratP_def, ratP_def, sI_not, Rat.neg_mkRat]
theorem ratP_mul (s t : Bool) (n m c d : Nat) : ratP s n c * ratP t m d = ratP (s != t) (n * m) (c * d) := by
  rw [ratP_def, ratP_def, ratP_def, sI_mul, Rat.mkRat_mul_mkRat]
theorem ratP_zero {s : Bool} {n d : Nat} (hd : d ≠ 0) : ratP s n d = 0 ↔ n = 0 := by
  rw [ratP_def, Rat.mkRat_eq_zero hd, sI_zero]
theorem ratP_mkRat (n : Int) {d : Nat} : mkRat n d = ratP (decide (n < 0)) n.natAbs d := by
  rw [ratP_def]
  congr 1
  unfold sI; simp only [decide_eq_true_eq]; split <;> omega
theorem ratP_inv {t : Bool} {m d : Nat} (hm : m ≠ 0) (hd : d ≠ 0) : ratP t m d * ratP t d m = 1 := by
  rw [ratP_mul, ratP_def]
  have : (t != t) = false := by cases t <;> rfl
  rw [this, Nat.mul_comm d m]
  have h : m * d ≠ 0 := Nat.mul_ne_zero hm hd
  have e : sI false (m * d) = ((m * d : Nat) : Int) := rfl
  rw [e]
  have := Rat.mkRat_mul_left (n := 1) (d := 1) h
  rwa [Int.mul_one, Nat.mul_one] at this
theorem ratP_div {s t : Bool} {n m c d : Nat} (hm : m ≠ 0) (hd : d ≠ 0) : ratP s n c / ratP t m d = ratP (s != t) (n * d) (c * m) := by
  have h1 := ratP_inv (t := t) hm hd
  have h0 : ratP t m d ≠ 0 := fun h => hm ((ratP_zero hd).1 h)
  rw [← ratP_mul]
  rw [Rat.div_def]
  congr 1
  have h2 : ratP t m d * (ratP t m d)⁻¹ = 1 := Rat.mul_inv_cancel _ h0
  have e : (ratP t m d)⁻¹ = (ratP t m d)⁻¹ * (ratP t m d * ratP t d m) := by rw [h1, Rat.mul_one]
  rw [e, ← Rat.mul_assoc, Rat.mul_comm (ratP t m d)⁻¹, h2, Rat.one_mul]

/-- The sign of a fraction. -/
def sgnR (x : Rat) : Int := if x.num = 0 then 0 else if x.num < 0 then -1 else 1

/-- Bounds of numerator and denominator. -/
structure bdR (n d : Nat) (x : Rat) : Prop where
  num : x.num.natAbs ≤ n
  den : x.den ≤ d
theorem bd_mkRat {a : Int} {n d : Nat} (hd : d ≠ 0) (ha : a.natAbs ≤ n) : bdR n d (mkRat a d) := by
  rw [ratP_mkRat]
  obtain ⟨h1, h2, _⟩ := ratP_num (neg := decide (a < 0)) (n := a.natAbs) hd
  refine ⟨?_, ?_⟩
  · rw [h1]; exact Nat.le_trans (Nat.div_le_self _ _) ha
  · rw [h2]; exact Nat.div_le_self _ _
theorem bd_ratP {s : Bool} {n d : Nat} (hd : d ≠ 0) : bdR n d (ratP s n d) := by
  obtain ⟨h1, h2, _⟩ := ratP_num (neg := s) (n := n) hd
  exact ⟨by rw [h1]; exact Nat.div_le_self _ _, by rw [h2]; exact Nat.div_le_self _ _⟩
theorem bdR.mono {n d m e : Nat} {x : Rat} (h : bdR n d x) (h1 : n ≤ m) (h2 : d ≤ e) : bdR m e x := ⟨Nat.le_trans h.num h1, Nat.le_trans h.den h2⟩
theorem bdR.neg {n d : Nat} {x : Rat} (h : bdR n d x) : bdR n d (-x) := ⟨by rw [Rat.neg_num, Int.natAbs_neg]; exact h.num, by rw [Rat.neg_den]; exact h.den⟩
theorem bdR.mul {n d m e : Nat} {x y : Rat} (h : bdR n d x) (g : bdR m e y) : bdR (n * m) (d * e) (x * y) := by
  rw [← ratP_self x, ← ratP_self y, ratP_mul]
  refine (bd_ratP (Nat.mul_ne_zero x.den_nz y.den_nz)).mono (Nat.mul_le_mul h.num g.num) (Nat.mul_le_mul h.den g.den)
theorem natAbs_sI (s : Bool) (n : Nat) : (sI s n).natAbs = n := by cases s <;> simp [sI]
theorem bdR.add {n d m e : Nat} {x y : Rat} (h : bdR n d x) (g : bdR m e y) : bdR (n * e + m * d) (d * e) (x + y) := by
  rw [← ratP_self x, ← ratP_self y, ratP_add x.den_nz y.den_nz]
  have h1 : x.num.natAbs * y.den ≤ n * e := Nat.mul_le_mul h.num g.den
  have h2 : y.num.natAbs * x.den ≤ m * d := Nat.mul_le_mul g.num h.den
  refine (bd_mkRat (n := x.num.natAbs * y.den + y.num.natAbs * x.den) (Nat.mul_ne_zero x.den_nz y.den_nz) ?_).mono (by omega) (Nat.mul_le_mul h.den g.den)
  have := Int.natAbs_add_le (sI (decide (x.num < 0)) (x.num.natAbs * y.den)) (sI (decide (y.num < 0)) (y.num.natAbs * x.den))
  rwa [natAbs_sI, natAbs_sI] at this
theorem bdR.sub {n d m e : Nat} {x y : Rat} (h : bdR n d x) (g : bdR m e y) : bdR (n * e + m * d) (d * e) (x - y) := by
  rw [Rat.sub_eq_add_neg]; exact h.add g.neg
theorem bdR.div {n d m e : Nat} {x y : Rat} (h : bdR n d x) (g : bdR m e y) (hy : y ≠ 0) : bdR (n * e) (d * m) (x / y) := by
  have h0 : y.num.natAbs ≠ 0 := fun h => hy (by
    have := (ratP_zero (s := decide (y.num < 0)) (n := y.num.natAbs) y.den_nz).2 h
    rwa [ratP_self] at this)
  rw [← ratP_self x, ← ratP_self y, ratP_div h0 y.den_nz]
  exact (bd_ratP (Nat.mul_ne_zero x.den_nz h0)).mono (Nat.mul_le_mul h.num g.den) (Nat.mul_le_mul h.den g.num)
theorem bdR.fits {n d : Nat} {x : Rat} (h : bdR n d x) (hn : n < 10 ^ 400) (hd : d < 10 ^ 400) : fitsR x := ⟨Nat.lt_of_le_of_lt h.num hn, Nat.lt_of_le_of_lt h.den hd⟩
theorem fitsR.bd {x : Rat} (h : fitsR x) : bdR (10 ^ 400) (10 ^ 400) x := ⟨Nat.le_of_lt h.1, Nat.le_of_lt h.2⟩

/-! ### Operations on texts -/
noncomputable def op2 (F : Rat → Rat → Option Rat) (a b : Txt) : Option Txt := match rdR a, rdR b with
  | some x, some y => (F x y).bind wrR
  | _, _ => none
noncomputable def addT := op2 fun x y => some (x + y)
noncomputable def subT := op2 fun x y => some (x - y)
noncomputable def mulT := op2 fun x y => some (x * y)
noncomputable def divT := op2 fun x y => if y = 0 then none else some (x / y)
noncomputable def cmpT (a b : Txt) : Int := match rdR a, rdR b with
  | some x, some y => sgnR (x - y)
  | _, _ => 0
def ofT (num den : Int) : Option Txt := if den = 0 then none else wrR (ratP (decide (num < 0) != decide (den < 0)) num.natAbs den.natAbs)

/-- The integers next to a fraction's multiple; none: out of range. -/
def scaleR (x : Rat) (u : Nat) : Option (Int × Int) :=
  let q := x.num.natAbs * u / x.den
  let up := if x.num.natAbs * u % x.den = 0 then q else q + 1
  if 2305843009213693952 < up then none else if x.num < 0 then some (-(up : Int), -(q : Int)) else some ((q : Int), (up : Int))
noncomputable def scaleT (a : Txt) (u : Int) : Option (Int × Int) := match rdR a with
  | some x => if u < 1 then none else scaleR x u.toNat
  | none => none

theorem rd_txt {x : Rat} (h : fitsR x) : rdR (txt x) = some x := rdR_some.2 ⟨h, rfl⟩
theorem wr_txt {x : Rat} (h : fitsR x) : wrR x = some (txt x) := wrR_some.2 ⟨h, rfl⟩
theorem op2_txt {F : Rat → Rat → Option Rat} {x y : Rat} (hx : fitsR x) (hy : fitsR y) : op2 F (txt x) (txt y) = (F x y).bind wrR := by unfold op2; rw [rd_txt hx, rd_txt hy]

/-- A number in decimal that a fraction may contain. -/
def digB (L : List UInt8) : Bool := !L.isEmpty && (decide (L.length ≤ 400) && (!(L.head? == some 48 && decide (1 < L.length)) && L.all fun b => decide (48 ≤ b.toNat) && decide (b.toNat ≤ 57)))
theorem digB_iff {L : List UInt8} : digB L = true ↔ DecS L ∧ L.length ≤ 400 := by
  unfold digB
  simp only [Bool.and_eq_true, Bool.not_eq_true', List.isEmpty_eq_false_iff, decide_eq_true_eq, List.all_eq_true, Bool.and_eq_false_iff, beq_eq_false_iff_ne, decide_eq_false_iff_not]
  constructor
  · rintro ⟨h1, h2, h3, h4⟩
    refine ⟨⟨h4, h1, fun h => ?_⟩, h2⟩
    rcases h3 with h3 | h3
    · exact absurd h h3
    · have := List.length_pos_iff.2 h1; omega
  · rintro ⟨⟨h1, h2, h3⟩, h4⟩
    refine ⟨h2, h4, ?_, h1⟩
    by_cases h : L.head? = some 48
    · exact .inr (by rw [h3 h]; omega)
    · exact .inl h

/-- The sign of a text. -/
def negL (L : List UInt8) : Bool := L.head? == some 45
def absL (L : List UInt8) : List UInt8 := if negL L = true then L.tail else L
theorem negL_sign {b : Bool} {L : List UInt8} (h : DecS L) : negL (signT b L) = b ∧ absL (signT b L) = L := by
  cases b
  · have : negL L = false := by
      unfold negL
      rw [beq_eq_false_iff_ne]
      intro hh
      have := h.dig 45 (List.mem_of_mem_head? hh)
      have e : (45 : UInt8).toNat = 45 := rfl
      omega
    simp only [signT, Bool.false_eq_true, if_false]
    exact ⟨this, by unfold absL; rw [this]; rfl⟩
  · simp only [signT, if_true]
    have : negL (45 :: L) = true := by simp [negL]
    exact ⟨this, by unfold absL; rw [this]; rfl⟩
theorem signT_back {L : List UInt8} : signT (negL L) (absL L) = L := by
  unfold absL
  cases h : negL L with
  | false => rfl
  | true =>
    simp only [if_true, signT]
    unfold negL at h
    cases L with
    | nil => simp at h
    | cons a t => simp at h; subst h; rfl

/-- The form of a fraction. -/
def formB (N D : List UInt8) : Bool := digB (absL N) && (digB D && (!(negL N && (absL N == [48])) && (!(D == [48]) && Nat.gcd (decV D) (decV (absL N)) == 1)))
theorem formB_iff {N D : List UInt8} : formB N D = true ↔ digB (absL N) = true ∧ digB D = true ∧ ¬ (negL N = true ∧ absL N = [48]) ∧ D ≠ [48] ∧ Nat.gcd (decV D) (decV (absL N)) = 1 := by
  unfold formB
  simp only [Bool.and_eq_true, Bool.not_eq_true', beq_eq_false_iff_ne, beq_iff_eq, Bool.and_eq_false_iff, ne_eq]
  constructor
  · rintro ⟨h1, h2, h3, h4, h5⟩
    exact ⟨h1, h2, fun ⟨a, b⟩ => by rcases h3 with h | h <;> simp_all, h4, h5⟩
  · rintro ⟨h1, h2, h3, h4, h5⟩
    refine ⟨h1, h2, ?_, h4, h5⟩
    cases h : negL N
    · exact .inl rfl
    · exact .inr fun h' => h3 ⟨h, h'⟩

theorem rd_form {N D : List UInt8} : (rdR (N, D)).isSome = formB N D ∧ (formB N D = true → rdR (N, D) = some (ratP (negL N) (decV (absL N)) (decV D)) ∧ (ratP (negL N) (decV (absL N)) (decV D)).num.natAbs = decV (absL N) ∧
    (ratP (negL N) (decV (absL N)) (decV D)).den = decV D ∧ decide ((ratP (negL N) (decV (absL N)) (decV D)).num < 0) = negL N) := by
  have key : formB N D = true → rdR (N, D) = some (ratP (negL N) (decV (absL N)) (decV D)) ∧ (ratP (negL N) (decV (absL N)) (decV D)).num.natAbs = decV (absL N) ∧
    (ratP (negL N) (decV (absL N)) (decV D)).den = decV D ∧ decide ((ratP (negL N) (decV (absL N)) (decV D)).num < 0) = negL N := fun h => by
    obtain ⟨h1, h2, h3, h4, h5⟩ := formB_iff.1 h
    obtain ⟨s1, s2⟩ := digB_iff.1 h1
    obtain ⟨t1, t2⟩ := digB_iff.1 h2
    have hd : decV D ≠ 0 := fun h => h4 (t1.zero.1 h)
    obtain ⟨e1, e2, e3⟩ := ratP_num (neg := negL N) (n := decV (absL N)) hd
    rw [Nat.gcd_comm] at h5
    rw [h5, Nat.div_one] at e1 e2
    have e4 : decide ((ratP (negL N) (decV (absL N)) (decV D)).num < 0) = negL N := by
      rw [e3]
      cases hn : negL N with
      | false => rfl
      | true =>
        have : decV (absL N) ≠ 0 := fun h => h3 ⟨hn, s1.zero.1 h⟩
        simp [this]
    refine ⟨rdR_some.2 ⟨⟨?_, ?_⟩, ?_⟩, e1, e2, e4⟩
    · rw [e1]; exact (s1.len_le (k := 400) (by decide)).1 s2
    · rw [e2]; exact (t1.len_le (k := 400) (by decide)).1 t2
    · unfold txt
      rw [e4, e1, e2, decT_eq s1, decT_eq t1, signT_back]
  refine ⟨?_, key⟩
  cases hf : formB N D with
  | true => rw [(key hf).1]; rfl
  | false =>
    cases hr : rdR (N, D) with
    | none => rfl
    | some x =>
      exfalso
      obtain ⟨⟨f1, f2⟩, ht⟩ := rdR_some.1 hr
      unfold txt at ht
      injection ht with ht1 ht2
      subst ht1
      subst ht2
      have p1 := decT_spec x.num.natAbs
      have p2 := decT_spec x.den
      obtain ⟨n1, n2⟩ := negL_sign (b := decide (x.num < 0)) p1.1
      have : formB (signT (decide (x.num < 0)) (decT x.num.natAbs)) (decT x.den) = true := by
        rw [formB_iff, n1, n2, p1.2.1, p2.2.1]
        refine ⟨digB_iff.2 ⟨p1.1, (decT_len _ (k := 400) (by decide)).2 f1⟩, digB_iff.2 ⟨p2.1, (decT_len _ (k := 400) (by decide)).2 f2⟩, fun ⟨a, b⟩ => ?_, fun h => ?_, ?_⟩
        · have h0 := p1.1.zero.2 b
          rw [p1.2.1] at h0
          have h1 : x.num = 0 := Int.natAbs_eq_zero.1 h0
          rw [decide_eq_true_eq, h1] at a
          exact absurd a (by decide)
        · have := p2.1.zero.2 h
          rw [p2.2.1] at this
          exact x.den_nz this
        · rw [Nat.gcd_comm]; exact x.reduced
      rw [this] at hf
      cases hf

/-! ### Shift -/
/-- i digits of a, shifted: s of them low, then bits e. -/
structure ShI (B : Nat) (f o : Nat → Nat) (s e i c : Nat) : Prop where
  eq : nv B o (s + i) + c * B ^ (s + i) = nv B f i * (B ^ s * 2 ^ e)
  lt : ∀ j, j < s + i → o j < B
  cb : c < 2 ^ e
theorem ShI.start {B : Nat} {f o : Nat → Nat} {s e : Nat} (hB : 0 < B) (h : ∀ j, j < s → o j = 0) : ShI B f o s e 0 0 :=
  ⟨by rw [Nat.add_zero, nv_zero h]; simp [nv], fun j hj => by rw [h j (by omega)]; exact hB, Nat.pow_pos (by omega)⟩
theorem ShI.step {B : Nat} {f o : Nat → Nat} {s e i c : Nat} (hB : 0 < B) (h : ShI B f o s e i c) (hf : f i < B) :
    ShI B f (updN o (s + i) ((f i * 2 ^ e + c) % B)) s e (i + 1) ((f i * 2 ^ e + c) / B) := by
  have hc := h.cb
  refine ⟨?_, ?_, ?_⟩
  · have := carry_step (B := B) h.eq (d := f i * 2 ^ e + c) (e := f i * 2 ^ e) rfl
    rw [← Nat.add_assoc, nv_next, nv, Nat.pow_succ]
    have e1 : (nv B f i + f i * B ^ i) * (B ^ s * 2 ^ e) = nv B f i * (B ^ s * 2 ^ e) + f i * 2 ^ e * B ^ (s + i) := by
      rw [Nat.pow_add]; grind
    omega
  · rw [← Nat.add_assoc]; exact upd_lt h.lt (Nat.mod_lt _ hB)
  · refine Nat.div_lt_of_lt_mul ?_
    have : (f i + 1) * 2 ^ e ≤ B * 2 ^ e := Nat.mul_le_mul_right _ hf
    rw [Nat.add_mul, Nat.one_mul] at this
    omega
theorem ShI.last {B : Nat} {f o : Nat → Nat} {s e n c : Nat} (h : ShI B f o s e n c) (hc : c < B) : nv B (updN o (s + n) c) (s + n + 1) = nv B f n * (B ^ s * 2 ^ e) ∧ ∀ j, j < s + n + 1 → updN o (s + n) c j < B :=
  ⟨by rw [nv_next]; exact h.eq, upd_lt h.lt hc⟩

/-! ### Half -/
structure HalfI (B : Nat) (f o : Nat → Nat) (n i : Nat) : Prop where
  eq : 2 * nv B o i + f 0 % 2 = nv B f i + ext f n i % 2 * B ^ i
  lt : ∀ j, j < i → o j < B
theorem HalfI.start {B : Nat} {f o : Nat → Nat} {n : Nat} (hn : 0 < n) : HalfI B f o n 0 := ⟨by rw [ext_lt hn]; simp [nv], fun j hj => by omega⟩
theorem HalfI.step {b : Nat} {f o : Nat → Nat} {n i : Nat} (h : HalfI (2 * b) f o n i) (hi : i < n) (hf : f i < 2 * b) : HalfI (2 * b) f (updN o i (f i / 2 + ext f n (i + 1) % 2 * b)) n (i + 1) ∧ f i / 2 + ext f n (i + 1) % 2 * b < 2 * b := by
  have h0 := h.eq
  rw [ext_lt hi] at h0
  obtain ⟨y, ey⟩ : ∃ y, ext f n (i + 1) % 2 = y := ⟨_, rfl⟩
  have hr : y < 2 := by rw [← ey]; exact Nat.mod_lt _ (by omega)
  have hy : y * b ≤ b := by
    have : y * b ≤ 1 * b := Nat.mul_le_mul_right _ (by omega)
    omega
  have hlt : f i / 2 + y * b < 2 * b := by omega
  rw [ey]
  refine ⟨⟨?_, upd_lt h.lt hlt⟩, hlt⟩
  rw [ey, nv_next, nv, Nat.pow_succ]
  have h1 := Nat.div_add_mod (f i) 2
  have e1 : (2 * (f i / 2) + f i % 2) * (2 * b) ^ i = f i * (2 * b) ^ i := by rw [h1]
  have e2 : (2 * (f i / 2) + f i % 2) * (2 * b) ^ i = 2 * (f i / 2 * (2 * b) ^ i) + f i % 2 * (2 * b) ^ i := by grind
  have e3 : 2 * ((f i / 2 + y * b) * (2 * b) ^ i) = 2 * (f i / 2 * (2 * b) ^ i) + y * ((2 * b) ^ i * (2 * b)) := by grind
  omega
theorem HalfI.done {b : Nat} {f o : Nat → Nat} {n : Nat} (h : HalfI (2 * b) f o n n) (hn : 0 < n) : nv (2 * b) o n = nv (2 * b) f n / 2 := by
  have h0 := h.eq
  rw [ext_ge (Nat.le_refl n)] at h0
  have h1 : nv (2 * b) f n % 2 = f 0 % 2 := by
    obtain ⟨k, rfl⟩ : ∃ k, n = 1 + k := ⟨n - 1, by omega⟩
    have e := nv_split (B := 2 * b) (f := f) (k := 1) (n := k)
    rw [e]
    simp only [nv, Nat.pow_zero, Nat.mul_one, Nat.zero_add, Nat.pow_one]
    rw [Nat.mul_assoc, Nat.add_mul_mod_self_left]
  omega

/-! ### Number of bits -/
def bitsN (n : Nat) : Nat := if n = 0 then 0 else n.log2 + 1
theorem bitsN_zero : bitsN 0 = 0 := rfl
theorem bitsN_lt (n : Nat) : n < 2 ^ bitsN n := by
  unfold bitsN
  split
  · subst_vars; simp
  · exact Nat.lt_log2_self
theorem bitsN_le {n : Nat} (h : n ≠ 0) : 2 ^ (bitsN n - 1) ≤ n := by
  unfold bitsN
  rw [if_neg h, Nat.add_sub_cancel]
  exact Nat.log2_self_le h
theorem bitsN_eq {n k : Nat} (h1 : 2 ^ k ≤ n) (h2 : n < 2 ^ (k + 1)) : bitsN n = k + 1 := by
  have hn : n ≠ 0 := by have : 0 < 2 ^ k := Nat.pow_pos (by omega); omega
  unfold bitsN
  rw [if_neg hn]
  have a1 := (Nat.log2_lt hn).2 h2
  have a2 := (Nat.le_log2 hn).2 h1
  omega
theorem bitsN_le_of {n k : Nat} (h : n < 2 ^ k) : bitsN n ≤ k := by
  unfold bitsN
  split
  · omega
  · have := (Nat.log2_lt (by assumption)).2 h; omega
theorem bitsN_half {n : Nat} (h : 0 < n) : bitsN n = bitsN (n / 2) + 1 := by
  by_cases h1 : n = 1
  · subst h1; rfl
  · have a1 := bitsN_le (n := n / 2) (by omega)
    have a2 := bitsN_lt (n / 2)
    have hp : 0 < bitsN (n / 2) := by unfold bitsN; rw [if_neg (by omega)]; omega
    obtain ⟨k, hk⟩ : ∃ k, bitsN (n / 2) = k + 1 := ⟨bitsN (n / 2) - 1, by omega⟩
    rw [hk] at a1 a2 ⊢
    rw [Nat.add_sub_cancel] at a1
    refine bitsN_eq ?_ ?_
    · rw [Nat.pow_succ]; omega
    · rw [Nat.pow_succ]; omega
/-- The bits of a number, from its last digit. -/
theorem bitsN_nv {f : Nat → Nat} {n : Nat} (h : Dig 4294967296 f n) (hn : n ≠ 0) : bitsN (nv 4294967296 f n) = 32 * (n - 1) + bitsN (f (n - 1)) := by
  have h1 := h.2 hn
  have h2 := h.1 (n - 1) (by omega)
  obtain ⟨k, rfl⟩ : ∃ k, n = k + 1 := ⟨n - 1, by omega⟩
  rw [Nat.add_sub_cancel] at *
  have a1 := bitsN_le h1
  have a2 := bitsN_lt (f k)
  have l := nv_lt (B := 4294967296) (f := f) (n := k) fun j hj => h.1 j (by omega)
  have e : (4294967296 : Nat) ^ k = 2 ^ (32 * k) := by rw [Nat.pow_mul]
  have hb : 0 < bitsN (f k) := by unfold bitsN; rw [if_neg h1]; omega
  obtain ⟨m, hm⟩ : ∃ m, bitsN (f k) = m + 1 := ⟨bitsN (f k) - 1, by omega⟩
  rw [hm] at a1 a2 ⊢
  rw [Nat.add_sub_cancel] at a1
  rw [e] at l
  rw [nv, e]
  refine bitsN_eq (k := 32 * k + m) ?_ ?_
  · have : 2 ^ m * 2 ^ (32 * k) ≤ f k * 2 ^ (32 * k) := Nat.mul_le_mul_right _ a1
    rw [Nat.pow_add, Nat.mul_comm (2 ^ (32 * k))]
    omega
  · have : (f k + 1) * 2 ^ (32 * k) ≤ 2 ^ (m + 1) * 2 ^ (32 * k) := Nat.mul_le_mul_right _ a2
    rw [Nat.add_mul, Nat.one_mul] at this
    rw [show 32 * k + m + 1 = (m + 1) + 32 * k by omega, Nat.pow_add]
    omega

/-! ### Division by halves -/
/-- t steps are left: a what is left, q the quotient's digits, d the divisor's multiple. -/
structure DhI (A b a d : Nat) (q : Nat → Nat) (m t : Nat) : Prop where
  eq : a + nv 4294967296 q m * b = A
  lt : a < 2 ^ t * b
  dd : d = 2 ^ t * b / 2
  qd : ∀ j, j < m → q j < 4294967296 ∧ 2 ^ (t - 32 * j) ∣ q j
theorem lor_add {y e : Nat} (h : 2 ^ (e + 1) ∣ y) : y ||| 2 ^ e = y + 2 ^ e := by
  obtain ⟨k, rfl⟩ := h
  have h2 : 2 ^ e < 2 ^ (e + 1) := Nat.pow_lt_pow_right (by omega) (by omega)
  exact (Nat.two_pow_add_eq_or_of_lt h2 k).symm
theorem DhI.less {A b a d : Nat} {q : Nat → Nat} {m t : Nat} (h : DhI A b a d q m (t + 1)) (hlt : a < d) : DhI A b a (d / 2) q m t := by
  have hd := h.dd
  have e : 2 ^ (t + 1) * b / 2 = 2 ^ t * b := by
    rw [Nat.pow_succ, show 2 ^ t * 2 * b = 2 ^ t * b * 2 by grind, Nat.mul_div_cancel _ (by omega)]
  rw [e] at hd
  refine ⟨h.eq, by omega, by rw [hd], fun j hj => ⟨(h.qd j hj).1, Nat.dvd_trans (Nat.pow_dvd_pow 2 (by omega)) (h.qd j hj).2⟩⟩
theorem DhI.more {A b a d : Nat} {q : Nat → Nat} {m t : Nat} (h : DhI A b a d q m (t + 1)) (hle : d ≤ a) (hm : t / 32 < m) :
    q (t / 32) ||| 2 ^ (t % 32) = q (t / 32) + 2 ^ (t % 32) ∧ q (t / 32) + 2 ^ (t % 32) < 4294967296 ∧ DhI A b (a - d) (d / 2) (updN q (t / 32) (q (t / 32) + 2 ^ (t % 32))) m t := by
  have hd := h.dd
  have e : 2 ^ (t + 1) * b / 2 = 2 ^ t * b := by
    rw [Nat.pow_succ, show 2 ^ t * 2 * b = 2 ^ t * b * 2 by grind, Nat.mul_div_cancel _ (by omega)]
  rw [e] at hd
  have e2 : 2 ^ (t + 1) * b = 2 ^ t * b + 2 ^ t * b := by rw [Nat.pow_succ]; grind
  have ht := Nat.div_add_mod t 32
  have ht2 := Nat.mod_lt t (show 0 < 32 by omega)
  obtain ⟨hq1, hq2⟩ := h.qd (t / 32) hm
  rw [show t + 1 - 32 * (t / 32) = t % 32 + 1 by omega] at hq2
  have hor := lor_add hq2
  have hlt : q (t / 32) + 2 ^ (t % 32) < 4294967296 := by
    rw [← hor]
    exact Nat.or_lt_two_pow (n := 32) hq1 (Nat.pow_lt_pow_right (by omega) ht2)
  refine ⟨hor, hlt, ⟨?_, ?_, by rw [hd], fun j hj => ?_⟩⟩
  · have h1 := nv_upd (B := 4294967296) (f := q) (x := q (t / 32) + 2 ^ (t % 32)) hm
    have h2 : (4294967296 : Nat) ^ (t / 32) = 2 ^ (32 * (t / 32)) := by rw [Nat.pow_mul]
    have h3 : (q (t / 32) + 2 ^ (t % 32)) * 4294967296 ^ (t / 32) = q (t / 32) * 4294967296 ^ (t / 32) + 2 ^ t := by
      rw [Nat.add_mul, h2, ← Nat.pow_add, show t % 32 + 32 * (t / 32) = t by omega]
    have h4 := h.eq
    have h5 : nv 4294967296 (updN q (t / 32) (q (t / 32) + 2 ^ (t % 32))) m = nv 4294967296 q m + 2 ^ t := by omega
    rw [h5, Nat.add_mul]
    omega
  · have := h.lt
    rw [e2, ← hd] at this
    rw [← hd]
    omega
  · by_cases ej : j = t / 32
    · subst ej
      rw [updN_same]
      refine ⟨hlt, ?_⟩
      rw [show t - 32 * (t / 32) = t % 32 by omega]
      exact Nat.dvd_add (Nat.dvd_trans (Nat.pow_dvd_pow 2 (by omega)) hq2) (Nat.dvd_refl _)
    · rw [updN_other _ ej]
      exact ⟨(h.qd j hj).1, Nat.dvd_trans (Nat.pow_dvd_pow 2 (by omega)) (h.qd j hj).2⟩
theorem DhI.start {A b n m : Nat} {q : Nat → Nat} (hA : A < 2 ^ (n + 1) * b) (hq : ∀ j, j < m → q j = 0) : DhI A b A (2 ^ n * b) q m (n + 1) :=
  ⟨by rw [nv_zero hq]; simp, hA, by rw [Nat.pow_succ, show 2 ^ n * 2 * b = 2 ^ n * b * 2 by grind, Nat.mul_div_cancel _ (by omega)], fun j hj => by rw [hq j hj]; exact ⟨by omega, Nat.dvd_zero _⟩⟩
theorem DhI.done {A b a d : Nat} {q : Nat → Nat} {m : Nat} (h : DhI A b a d q m 0) : nv 4294967296 q m = A / b ∧ a = A % b := by
  have h1 := h.eq
  have h2 := h.lt
  rw [Nat.pow_zero, Nat.one_mul] at h2
  have := mod_top (q := nv 4294967296 q m) h2
  rw [h1] at this
  exact ⟨this.2.symm, this.1.symm⟩
theorem dh_bits {A b : Nat} (hb : b ≠ 0) (h : bitsN b ≤ bitsN A) : A < 2 ^ (bitsN A - bitsN b + 1) * b := by
  have h1 := bitsN_lt A
  have h2 := bitsN_le hb
  have hp : 0 < bitsN b := by unfold bitsN; rw [if_neg hb]; omega
  have h3 : 2 ^ (bitsN A - bitsN b + 1) * 2 ^ (bitsN b - 1) ≤ 2 ^ (bitsN A - bitsN b + 1) * b := Nat.mul_le_mul_left _ h2
  rw [← Nat.pow_add, show bitsN A - bitsN b + 1 + (bitsN b - 1) = bitsN A by omega] at h3
  omega
theorem dh_less {A b : Nat} (h : bitsN A < bitsN b) : A < b := by
  refine Decidable.byContradiction fun hc => ?_
  have h1 := bitsN_lt A
  have h2 := bitsN_le (n := b) (fun h0 => by rw [h0, bitsN_zero] at h; omega)
  have h3 : 2 ^ bitsN A ≤ 2 ^ (bitsN b - 1) := Nat.pow_le_pow_right (by omega) (by omega)
  omega

/-! ### Decimal texts -/
/-- The text of a number, nothing for 0. -/
def decP (n : Nat) : List UInt8 := if n = 0 then [] else decT n
theorem decP_step {n : Nat} (h : 0 < n) : decP n = decP (n / 10) ++ [UInt8.ofNat (48 + n % 10)] := by
  unfold decP
  rw [if_neg (by omega)]
  by_cases h1 : n < 10
  · rw [if_pos (by omega)]
    unfold decT
    rw [dif_pos h1, Nat.mod_eq_of_lt h1]; rfl
  · rw [if_neg (by omega)]
    conv => lhs; unfold decT
    rw [dif_neg h1]
/-- Digits from the end of a number q 10^9 + r. -/
structure ShowI (N q n : Nat) (s : List UInt8) (i : Nat) : Prop where
  eq : decP N = decP (q * 10 ^ (9 - i) + n) ++ s
  lt : n < 10 ^ (9 - i)
theorem ShowI.start {N a : Nat} {s : List UInt8} (h : decP N = decP a ++ s) : ShowI N (a / 1000000000) (a % 1000000000) s 0 :=
  ⟨by rw [show a / 1000000000 * 10 ^ (9 - 0) + a % 1000000000 = a by have := Nat.div_add_mod a 1000000000; omega]; exact h, by have := Nat.mod_lt a (show 0 < 1000000000 by omega); omega⟩
theorem ShowI.step {N q n i : Nat} {s : List UInt8} (h : ShowI N q n s i) (hi : i < 9) (hc : 0 < q ∨ 0 < n) : ShowI N q (n / 10) (UInt8.ofNat (48 + n % 10) :: s) (i + 1) := by
  obtain ⟨P, hP⟩ : ∃ P, (10 : Nat) ^ (9 - (i + 1)) = P := ⟨_, rfl⟩
  have e : (10 : Nat) ^ (9 - i) = P * 10 := by rw [show 9 - i = 9 - (i + 1) + 1 by omega, Nat.pow_succ, hP]
  have h1 := h.eq
  have h2 := h.lt
  have hp : 0 < P := by rw [← hP]; exact Nat.pow_pos (by omega)
  rw [e] at h1 h2
  have hpos : 0 < q * (P * 10) + n := by
    rcases hc with hc | hc
    · have : 0 < q * (P * 10) := Nat.mul_pos hc (by omega)
      omega
    · omega
  have e3 : q * (P * 10) = q * P * 10 := by grind
  have e1 : (q * (P * 10) + n) / 10 = q * P + n / 10 := by omega
  have e2 : (q * (P * 10) + n) % 10 = n % 10 := by omega
  refine ⟨?_, by rw [hP]; omega⟩
  rw [hP, h1, decP_step hpos, List.append_assoc, e1, e2]
  rfl
theorem ShowI.nine {N q n : Nat} {s : List UInt8} (h : ShowI N q n s 9) : decP N = decP q ++ s := by
  have h2 := h.lt
  have h1 := h.eq
  simp only [Nat.sub_self, Nat.pow_zero] at h1 h2
  rwa [show q * 1 + n = q by omega] at h1
theorem ShowI.stop {N i : Nat} {s : List UInt8} (h : ShowI N 0 0 s i) : decP N = decP 0 ++ s := by
  have := h.eq
  rwa [Nat.zero_mul, Nat.zero_add] at this

/-- Digits with zeros in front. -/
theorem dropZeros {L : List UInt8} (hd : ∀ b ∈ L, 48 ≤ b.toNat ∧ b.toNat ≤ 57) (hne : decV L ≠ 0) : L.dropWhile (· == 48) = decT (decV L) := by
  have key : ∀ (L : List UInt8), (∀ b ∈ L, 48 ≤ b.toNat ∧ b.toNat ≤ 57) → decV (L.dropWhile (· == 48)) = decV L ∧ (decV L ≠ 0 → DecS (L.dropWhile (· == 48))) := by
    intro L
    induction L with
    | nil => intro _; exact ⟨rfl, fun h => absurd rfl h⟩
    | cons b L ih =>
      intro hd
      obtain ⟨i1, i2⟩ := ih fun x hx => hd x (List.mem_cons_of_mem _ hx)
      by_cases hb : b = 48
      · subst hb
        have e : decV (48 :: L) = decV L := by
          unfold decV
          rw [show (48 :: L).length = 1 + L.length by simp; omega, preV_split]
          have e1 : preV (dgt (48 :: L)) 1 = 0 := by simp [preV, dgt]
          rw [e1, Nat.zero_mul, Nat.zero_add]
          refine preV_congr fun i hi => ?_
          rw [Nat.add_comm]
          simp [dgt]
        rw [List.dropWhile_cons_of_pos (p := fun x => x == 48) (by simp), e]
        exact ⟨i1, i2⟩
      · rw [List.dropWhile_cons_of_neg (p := fun x => x == 48) (by simpa using hb)]
        exact ⟨rfl, fun _ => ⟨hd, by simp, fun hh => by simp at hh; exact absurd hh hb⟩⟩
  obtain ⟨k1, k2⟩ := key L hd
  rw [← k1]
  exact (decT_eq (k2 hne)).symm

def dp (f : Nat → Nat) (p : Nat) : Nat := f (p / 9) / 10 ^ (p % 9) % 10
theorem dp_nv {f : Nat → Nat} : ∀ {n : Nat}, (∀ i, i < n → f i < 1000000000) → nv 10 (dp f) (9 * n) = nv 1000000000 f n
  | 0, _ => rfl
  | n + 1, h => by
    have e := nv_split (B := 10) (f := dp f) (k := 9 * n) (n := 9)
    have e2 : nv 10 (fun i => dp f (9 * n + i)) 9 = f n := by
      rw [show nv 10 (fun i => dp f (9 * n + i)) 9 = nv 10 (fun k => f n / 10 ^ k % 10) 9 from nv_congr fun i hi => by
        unfold dp
        rw [show (9 * n + i) / 9 = n by omega, show (9 * n + i) % 9 = i by omega]]
      exact nine_digits (h n (by omega))
    have e3 : nv 1000000000 f (n + 1) = nv 1000000000 f n + f n * 1000000000 ^ n := rfl
    rw [show 9 * (n + 1) = 9 * n + 9 by omega, e, dp_nv (n := n) fun i hi => h i (by omega), e2, e3, Nat.pow_mul, Nat.mul_comm]
theorem dp_lt (f : Nat → Nat) (p : Nat) : dp f p < 10 := Nat.mod_lt _ (by omega)
/-- A text of N places whose place p from the end holds digit p. -/
theorem dp_text {f : Nat → Nat} {n : Nat} {Z : List UInt8} (hf : ∀ i, i < n → f i < 1000000000) (hl : Z.length = 9 * n) (hZ : ∀ p, p < 9 * n → Z[9 * n - 1 - p]? = some (UInt8.ofNat (48 + dp f p))) :
    (∀ b ∈ Z, 48 ≤ b.toNat ∧ b.toNat ≤ 57) ∧ decV Z = nv 1000000000 f n := by
  have h1 : ∀ j, j < 9 * n → Z[j]? = some (UInt8.ofNat (48 + dp f (9 * n - 1 - j))) := fun j hj => by
    have := hZ (9 * n - 1 - j) (by omega)
    rwa [show 9 * n - 1 - (9 * n - 1 - j) = j by omega] at this
  constructor
  · intro b hb
    obtain ⟨j, hj, rfl⟩ := List.mem_iff_getElem.1 hb
    have h2 := h1 j (by omega)
    rw [List.getElem?_eq_getElem hj] at h2
    injection h2 with h2
    have := ofNat_dig (dp_lt f (9 * n - 1 - j))
    have := dp_lt f (9 * n - 1 - j)
    rw [h2]; omega
  · unfold decV
    rw [preV_nv, hl, ← dp_nv hf]
    refine nv_congr fun p hp => ?_
    have h2 := hZ p hp
    unfold dgt
    rw [List.getD_eq_getElem?_getD, h2]
    have := ofNat_dig (dp_lt f p)
    simp only [Option.getD_some]
    omega
end Go.Proofs.YtpligjkbnlfhgaaGreatDoor
