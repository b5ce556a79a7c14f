/- The estimate of a digit of a quotient (long division). Plain: no program. -/
namespace Go.Proofs.YtpligjkbnlfhgaaDoor

/-- The first estimate is not too small. -/
theorem kn_init {B b v1 v2 v' top x0 x' : Nat} (hx' : x' < b) (hx0 : x0 < B) (hv1 : 0 < v1) : (top * B + x0) * b + x' < (top / v1 + 1) * ((v1 * B + v2) * b + v') := by
  have h1 : top + 1 ≤ (top / v1 + 1) * v1 := by
    have := Nat.div_add_mod top v1
    have := Nat.mod_lt top hv1
    rw [Nat.add_mul, Nat.one_mul, Nat.mul_comm (top / v1) v1]
    omega
  generalize top / v1 = q at *
  have h2 : (top + 1) * (B * b) ≤ (q + 1) * v1 * (B * b) := Nat.mul_le_mul_right _ h1
  have h3 : (x0 + 1) * b ≤ B * b := Nat.mul_le_mul_right _ hx0
  have e1 : (top * B + x0) * b = top * (B * b) + x0 * b := by rw [Nat.add_mul, Nat.mul_assoc]
  have e2 : (top + 1) * (B * b) = top * (B * b) + B * b := by rw [Nat.add_mul, Nat.one_mul]
  have e3 : (x0 + 1) * b = x0 * b + b := by rw [Nat.add_mul, Nat.one_mul]
  have e4 : (q + 1) * ((v1 * B + v2) * b + v') = (q + 1) * v1 * (B * b) + (q + 1) * (v2 * b + v') := by
    rw [Nat.add_mul (v1 * B) v2 b, Nat.add_assoc, Nat.mul_add (q + 1), Nat.mul_assoc v1 B b, Nat.mul_assoc (q + 1) v1 (B * b)]
  omega

/-- Where the test says so, the estimate is too great. -/
theorem kn_down {B b v1 v2 v' top x0 x' q r : Nat} (hx' : x' < b) (hq : q * v1 + r = top) (hX : (top * B + x0) * b + x' < ((v1 * B + v2) * b + v') * B) (h : B ≤ q ∨ r * B + x0 < q * v2) :
    (top * B + x0) * b + x' < q * ((v1 * B + v2) * b + v') := by
  rcases h with h | h
  · have := Nat.mul_le_mul_left ((v1 * B + v2) * b + v') h
    rw [Nat.mul_comm q]
    omega
  · have h1 : (r * B + x0 + 1) * b ≤ q * v2 * b := Nat.mul_le_mul_right _ h
    have e1 : (top * B + x0) * b = q * v1 * B * b + (r * B + x0) * b := by rw [← hq]; grind
    have e2 : (r * B + x0 + 1) * b = (r * B + x0) * b + b := by rw [Nat.add_mul, Nat.one_mul]
    have e3 : q * ((v1 * B + v2) * b + v') = q * v1 * B * b + q * v2 * b + q * v' := by grind
    omega

/-- Behind the test the estimate is too great by one at most. -/
theorem kn_exit {B b v1 v2 v' top x0 x' q r : Nat} (hv' : v' < b) (hv1 : 0 < v1) (hv2 : v2 < B) (hqB : q ≤ B) (hq : q * v1 + r = top) (h : B ≤ r ∨ q * v2 ≤ r * B + x0) :
    q * ((v1 * B + v2) * b + v') ≤ (top * B + x0) * b + x' + ((v1 * B + v2) * b + v') := by
  have h1 : q * v2 ≤ r * B + x0 := by
    rcases h with h | h
    · have a1 : q * v2 ≤ B * B := Nat.mul_le_mul hqB (by omega)
      have a2 : B * B ≤ r * B := Nat.mul_le_mul_right _ h
      omega
    · exact h
  have h2 : q * v2 * b ≤ (r * B + x0) * b := Nat.mul_le_mul_right _ h1
  have h3 : q * v' ≤ B * b := Nat.mul_le_mul hqB (by omega)
  have h4 : 1 * (B * b) ≤ v1 * (B * b) := Nat.mul_le_mul_right _ hv1
  have e1 : (top * B + x0) * b = q * v1 * B * b + (r * B + x0) * b := by rw [← hq]; grind
  have e3 : q * ((v1 * B + v2) * b + v') = q * v1 * B * b + q * v2 * b + q * v' := by grind
  have e4 : (v1 * B + v2) * b = v1 * (B * b) + v2 * b := by grind
  omega

/-- The estimate itself is bounded. -/
theorem kn_bd {B v1 top : Nat} (h1 : B ≤ 2 * v1) (ht : top < (v1 + 1) * B) : top / v1 ≤ B + 2 := by
  have h2 : top ≤ v1 * (B + 2) := by
    rw [Nat.add_mul, Nat.one_mul] at ht
    rw [Nat.mul_add]
    omega
  exact Nat.div_le_of_le_mul h2

/-- What the digit leaves. -/
theorem kn_digit {X V q : Nat} (h1 : X < (q + 1) * V) (h2 : q * V ≤ X + V) : (q * V ≤ X ∧ X - q * V < V) ∨ (X < q * V ∧ 1 ≤ q ∧ (q - 1) * V ≤ X ∧ X - (q - 1) * V < V) := by
  rw [Nat.add_mul, Nat.one_mul] at h1
  by_cases h : q * V ≤ X
  · exact .inl ⟨h, by omega⟩
  · have hq : 1 ≤ q := by
      rcases Nat.eq_zero_or_pos q with h0 | h0
      · subst h0; simp at h
      · exact h0
    obtain ⟨p, rfl⟩ : ∃ p, q = p + 1 := ⟨q - 1, by omega⟩
    rw [Nat.add_mul, Nat.one_mul] at *
    refine .inr ⟨by omega, by omega, ?_, ?_⟩ <;> simp only [Nat.add_sub_cancel] <;> omega
end Go.Proofs.YtpligjkbnlfhgaaDoor
