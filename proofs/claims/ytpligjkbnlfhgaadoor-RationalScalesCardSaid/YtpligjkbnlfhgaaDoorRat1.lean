/- Fractions in parts: a sign and two numbers. Plain: no program. -/
import Derived.Test.YtpligjkbnlfhgaaDoorRat0
namespace Go.Proofs.YtpligjkbnlfhgaaDoor

def sI (neg : Bool) (n : Nat) : Int := if neg = true then -(n : Int) else n
theorem ratP_def (neg : Bool) (n d : Nat) : ratP neg n d = mkRat (sI neg n) d := rfl
theorem sI_not (s : Bool) (n : Nat) : sI (!s) n = - sI s n := by cases s <;> simp [sI]
theorem sI_mul (s t : Bool) (n m : Nat) : sI (s != t) (n * m) = sI s n * sI t m := by cases s <;> cases t <;> simp [sI, Int.neg_mul, Int.mul_neg]
theorem sI_add (s : Bool) (n m : Nat) : sI s (n + m) = sI s n + sI s m := by cases s <;> simp [sI] <;> omega
theorem sI_sub {s : Bool} {n m : Nat} (h : m ≤ n) : sI s (n - m) = sI s n + sI (!s) m := by cases s <;> simp [sI] <;> omega
theorem sI_nat (s : Bool) (n m : Nat) : sI s (n * m) = sI s n * (m : Int) := by cases s <;> simp [sI, Int.neg_mul]
theorem sI_zero {s : Bool} {n : Nat} : sI s n = 0 ↔ n = 0 := by cases s <;> simp [sI]

theorem ratP_self (x : Rat) : ratP (decide (x.num < 0)) x.num.natAbs x.den = x := by
  rw [ratP_def]
  have e : sI (decide (x.num < 0)) x.num.natAbs = x.num := by unfold sI; simp only [decide_eq_true_eq]; split <;> omega
  rw [e]
  exact Rat.mkRat_self x

theorem ratP_add {s t : Bool} {n m c d : Nat} (hc : c ≠ 0) (hd : d ≠ 0) : ratP s n c + ratP t m d = mkRat (sI s (n * d) + sI t (m * c)) (c * d) := by
  rw [ratP_def, ratP_def, Rat.mkRat_add_mkRat _ _ hc hd, sI_nat, sI_nat]
theorem ratP_add_same {s : Bool} {n m c d : Nat} (hc : c ≠ 0) (hd : d ≠ 0) : ratP s n c + ratP s m d = ratP s (n * d + m * c) (c * d) := by
  rw [ratP_add hc hd, ratP_def, sI_add]
theorem ratP_add_ge {s : Bool} {n m c d : Nat} (hc : c ≠ 0) (hd : d ≠ 0) (h : m * c ≤ n * d) : ratP s n c + ratP (!s) m d = ratP s (n * d - m * c) (c * d) := by
  rw [ratP_add hc hd, ratP_def, sI_sub h]
theorem ratP_add_lt {s : Bool} {n m c d : Nat} (hc : c ≠ 0) (hd : d ≠ 0) (h : n * d ≤ m * c) : ratP s n c + ratP (!s) m d = ratP (!s) (m * c - n * d) (c * d) := by
  rw [ratP_add hc hd, ratP_def, sI_sub h, Bool.not_not, Int.add_comm]
theorem ratP_neg (s : Bool) (n d : Nat) : -(ratP s n d) = ratP (!s) n d := by
  rw [ratP_def, ratP_def, sI_not, Rat.neg_mkRat]
theorem ratP_mul (s t : Bool) (n m c d : Nat) : ratP s n c * ratP t m d = ratP (s != t) (n * m) (c * d) := by
  rw [ratP_def, ratP_def, ratP_def, sI_mul, Rat.mkRat_mul_mkRat]
theorem ratP_zero {s : Bool} {n d : Nat} (hd : d ≠ 0) : ratP s n d = 0 ↔ n = 0 := by
  rw [ratP_def, Rat.mkRat_eq_zero hd, sI_zero]
theorem ratP_mkRat (n : Int) {d : Nat} : mkRat n d = ratP (decide (n < 0)) n.natAbs d := by
  rw [ratP_def]
  congr 1
  unfold sI; simp only [decide_eq_true_eq]; split <;> omega
theorem ratP_inv {t : Bool} {m d : Nat} (hm : m ≠ 0) (hd : d ≠ 0) : ratP t m d * ratP t d m = 1 := by
  rw [ratP_mul, ratP_def]
  have : (t != t) = false := by cases t <;> rfl
  rw [this, Nat.mul_comm d m]
  have h : m * d ≠ 0 := Nat.mul_ne_zero hm hd
  have e : sI false (m * d) = ((m * d : Nat) : Int) := rfl
  rw [e]
  have := Rat.mkRat_mul_left (n := 1) (d := 1) h
  rwa [Int.mul_one, Nat.mul_one] at this
theorem ratP_div {s t : Bool} {n m c d : Nat} (hm : m ≠ 0) (hd : d ≠ 0) : ratP s n c / ratP t m d = ratP (s != t) (n * d) (c * m) := by
  have h1 := ratP_inv (t := t) hm hd
  have h0 : ratP t m d ≠ 0 := fun h => hm ((ratP_zero hd).1 h)
  rw [← ratP_mul]
  rw [Rat.div_def]
  congr 1
  have h2 : ratP t m d * (ratP t m d)⁻¹ = 1 := Rat.mul_inv_cancel _ h0
  have e : (ratP t m d)⁻¹ = (ratP t m d)⁻¹ * (ratP t m d * ratP t d m) := by rw [h1, Rat.mul_one]
  rw [e, ← Rat.mul_assoc, Rat.mul_comm (ratP t m d)⁻¹, h2, Rat.one_mul]

/-- The sign of a fraction. -/
def sgnR (x : Rat) : Int := if x.num = 0 then 0 else if x.num < 0 then -1 else 1
end Go.Proofs.YtpligjkbnlfhgaaDoor
