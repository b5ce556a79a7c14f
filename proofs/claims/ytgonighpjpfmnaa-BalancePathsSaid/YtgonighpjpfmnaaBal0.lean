/- What package balance computes, in plain Lean, and its laws. Plain: no program. -/
import Derived.Test.YtgonighpjpfmnaaWealth0
namespace Go.Proofs.Ytgonighpjpfmnaa

def sumI (f : Nat → Int) : Nat → Int
  | 0 => 0
  | k + 1 => sumI f k + f k

theorem sumI_bd {f : Nat → Int} {n : Nat} {a b : Int} (h : ∀ k, k < n → a ≤ f k ∧ f k ≤ b) : ∀ k, k ≤ n → a * k ≤ sumI f k ∧ sumI f k ≤ b * k
  | 0, _ => by simp [sumI]
  | k + 1, hk => by
    have i := sumI_bd h k (by omega)
    have := h k (by omega)
    simp only [sumI]
    have e1 : a * ((k + 1 : Nat) : Int) = a * k + a := by rw [Int.natCast_add, Int.mul_add]; simp
    have e2 : b * ((k + 1 : Nat) : Int) = b * k + b := by rw [Int.natCast_add, Int.mul_add]; simp
    omega

def okC (c v : Nat → Int) : Nat → Bool
  | 0 => true
  | k + 1 => okC c v k && (decide (0 ≤ c k) && (decide (c k ≤ 512) && (decide (1 ≤ v k) && decide (v k ≤ 10000))))

theorem okC_iff {c v : Nat → Int} : ∀ {n : Nat}, okC c v n = true ↔ ∀ k, k < n → 0 ≤ c k ∧ c k ≤ 512 ∧ 1 ≤ v k ∧ v k ≤ 10000
  | 0 => by simp [okC]
  | n + 1 => by
    simp only [okC, Bool.and_eq_true, decide_eq_true_eq, okC_iff (n := n)]
    constructor
    · rintro ⟨h1, h2⟩ k hk
      by_cases h : k = n
      · subst h; exact h2
      · exact h1 k (by omega)
    · intro h
      exact ⟨fun k hk => h k (by omega), h n (by omega)⟩

/-- The expected arguments of Step. -/
def okH (w : Int) (n m : Nat) (arm : Int) : Prop := 0 ≤ w ∧ w ≤ 2305843009213693952 ∧ n = m ∧ 1 ≤ n ∧ n ≤ 8 ∧ 1 ≤ arm ∧ arm ≤ n
instance (w : Int) (n m : Nat) (arm : Int) : Decidable (okH w n m arm) := by unfold okH; infer_instance
def okB (w : Int) (n m : Nat) (c v : Nat → Int) (arm : Int) : Bool := decide (okH w n m arm) && okC c v n

/-- The new wealth. -/
def balW (w : Int) (n m : Nat) (c v : Nat → Int) (arm : Int) : Int :=
  if okB w n m c v arm = true then growI w ((c (arm - 1).toNat + 1) * sumI v n) ((sumI c n + n) * v (arm - 1).toNat) else w
/-- The new counts. -/
def balC (w : Int) (n m : Nat) (c v : Nat → Int) (arm : Int) : List Int :=
  if okB w n m c v arm = true then ((List.range n).map c).set (arm - 1).toNat (c (arm - 1).toNat + 1) else (List.range n).map c

/-- One step of the inequality: weight times wealth, times the number of subjects. -/
theorem bal_step {w c s d v : Int} (hw : 0 ≤ w) (hc : 0 ≤ c) (hs : 0 ≤ s) (hd : 1 ≤ d) (hv : 1 ≤ v) : v * growI w ((c + 1) * s) (d * v) * d ≤ w * ((c + 1) * s) := by
  have h := growI_mul_le (w := w) (num := (c + 1) * s) (den := d * v) hw (Int.mul_nonneg (by omega) hs) (by have := Int.mul_pos (a := d) (b := v) (by omega) (by omega); omega)
  have e : v * growI w ((c + 1) * s) (d * v) * d = growI w ((c + 1) * s) (d * v) * (d * v) := by grind
  omega

def balT (x : Int) (c v : Nat → Int) (s d : Int) : Nat → Int
  | 0 => 0
  | i + 1 => balT x c v s d i + v i * growI x ((c i + 1) * s) (d * v i)

theorem bal_part {x s d : Int} {c v : Nat → Int} {n : Nat} (hx : 0 ≤ x) (hs : 0 ≤ s) (hd : 1 ≤ d) (h : ∀ i, i < n → 0 ≤ c i ∧ 1 ≤ v i) : ∀ i, i ≤ n → balT x c v s d i * d ≤ x * (s * (sumI c i + i))
  | 0, _ => by simp [balT, sumI]
  | i + 1, hi => by
    have ih := bal_part hx hs hd h i (by omega)
    obtain ⟨h1, h2⟩ := h i (by omega)
    have st := bal_step hx h1 hs hd h2
    simp only [balT, sumI]
    have e1 : x * (s * (sumI c i + c i + ((i + 1 : Nat) : Int))) = x * (s * (sumI c i + i)) + x * ((c i + 1) * s) := by
      rw [Int.natCast_add]; grind
    rw [Int.add_mul, e1]
    omega

theorem bal_fair {x s d : Int} {c v : Nat → Int} {n : Nat} (hx : 0 ≤ x) (hs : 0 ≤ s) (hd : 1 ≤ d) (h : ∀ i, i < n → 0 ≤ c i ∧ 1 ≤ v i) (e : d = sumI c n + n) : balT x c v s d n ≤ s * x := by
  have h1 := bal_part hx hs hd h n (Nat.le_refl _)
  rw [← e, show x * (s * d) = s * x * d by grind] at h1
  exact Int.le_of_mul_le_mul_right h1 (by omega)

end Go.Proofs.Ytgonighpjpfmnaa
