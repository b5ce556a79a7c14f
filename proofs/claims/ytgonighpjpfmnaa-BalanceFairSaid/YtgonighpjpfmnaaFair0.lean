/- The supermartingale inequality of one step of package wealth, in plain Lean. Plain: no program. -/
import Derived.Test.YtgonighpjpfmnaaWealth0
namespace Go.Proofs.Ytgonighpjpfmnaa

def wSum (l : Nat → Int × Int) : Nat → Int
  | 0 => 0
  | k + 1 => wSum l k + (1 + (l k).2)
def xOf (l : Nat → Int × Int) (r : Int) (k : Nat) : Int := (l k).1 % (2 * r + 1) - r
def nSum (l : Nat → Int × Int) (r : Int) : Nat → Int
  | 0 => 0
  | k + 1 => nSum l r k + (1 + (l k).2) * xOf l r k

def ByteP (l : Nat → Int × Int) (n : Nat) : Prop := ∀ k, k < n → 0 ≤ (l k).1 ∧ (l k).1 ≤ 255 ∧ 0 ≤ (l k).2 ∧ (l k).2 ≤ 255

theorem xOf_bd {l : Nat → Int × Int} {r : Int} (hr : 1 ≤ r) (k : Nat) : -r ≤ xOf l r k ∧ xOf l r k ≤ r := by
  unfold xOf
  have h1 := Int.emod_nonneg (l k).1 (show 2 * r + 1 ≠ 0 by omega)
  have h2 := Int.emod_lt_of_pos (l k).1 (show 0 < 2 * r + 1 by omega)
  omega

theorem wSum_bd {l : Nat → Int × Int} {n : Nat} (h : ByteP l n) : ∀ k, k ≤ n → (k : Int) ≤ wSum l k ∧ wSum l k ≤ 256 * k
  | 0, _ => by simp [wSum]
  | k + 1, hk => by
    have := wSum_bd h k (by omega)
    have := h k (by omega)
    simp only [wSum]
    omega

theorem nSum_bd {l : Nat → Int × Int} {r : Int} {n : Nat} (h : ByteP l n) (hr : 1 ≤ r) (hr2 : r ≤ 256) : ∀ k, k ≤ n → -(65536 * k) ≤ nSum l r k ∧ nSum l r k ≤ 65536 * k
  | 0, _ => by simp [nSum]
  | k + 1, hk => by
    have i := nSum_bd h hr hr2 k (by omega)
    have hb := h k (by omega)
    have hx := xOf_bd (l := l) hr k
    have := mul_le4 (a := xOf l r k) (b := 1 + (l k).2) (A := 256) (B := 256) (by omega) (by omega) (by omega) (by omega) (by omega)
    simp only [nSum]
    omega

/-- What the weighted sum of the numerators is. -/
def gP (den b u e : Int) (up : Bool) (W N : Int) : Int := if up = true then W * den + b * (N * 1000 - W * (u * e)) else W * den - b * (N * 1000 - W * (u * e))

theorem gP_step (den b u e W N n x : Int) (up : Bool) : gP den b u e up (W + n) (N + n * x) = gP den b u e up W N + n * (if up = true then den + gainI x u e b else den - gainI x u e b) := by
  unfold gP gainI
  split <;> grind

theorem fair_step {S P g n num den x : Int} (hg : g * den ≤ x * num) (h : S * den ≤ x * P) (hn : 0 ≤ n) : (S + n * g) * den ≤ x * (P + n * num) := by
  have h1 : n * (g * den) ≤ n * (x * num) := Int.mul_le_mul_of_nonneg_left hg hn
  have e1 : (S + n * g) * den = S * den + n * (g * den) := by rw [Int.add_mul, Int.mul_assoc]
  have e2 : x * (P + n * num) = x * P + n * (x * num) := by grind
  omega

theorem gP_up {den b u e W N : Int} (hb : 0 ≤ b) (hu : 1 ≤ u) (hW : 1 ≤ W) (he : -((-N * 1000) / (W * u)) ≤ e) : gP den b u e true W N ≤ W * den := by
  have hp : 0 < W * u := Int.mul_pos (by omega) (by omega)
  have h1 : -e * (W * u) ≤ -N * 1000 := (Int.le_ediv_iff_mul_le hp).1 (by omega)
  have e1 : -e * (W * u) = -(W * (u * e)) := by grind
  have : 0 ≤ b * (-(N * 1000 - W * (u * e))) := Int.mul_nonneg hb (by omega)
  rw [Int.mul_neg] at this
  simp only [gP, if_true]
  omega

theorem gP_down {den b u e W N : Int} (hb : 0 ≤ b) (hu : 1 ≤ u) (hW : 1 ≤ W) (he : e ≤ (N * 1000) / (W * u)) : gP den b u e false W N ≤ W * den := by
  have hp : 0 < W * u := Int.mul_pos (by omega) (by omega)
  have h1 : e * (W * u) ≤ N * 1000 := (Int.le_ediv_iff_mul_le hp).1 he
  have e1 : e * (W * u) = W * (u * e) := by grind
  have : 0 ≤ b * (N * 1000 - W * (u * e)) := Int.mul_nonneg hb (by omega)
  simp only [gP, Bool.false_eq_true, if_false]
  omega

theorem fair_end {S x W P den : Int} (h : S * den ≤ x * P) (hP : P ≤ W * den) (hx : 0 ≤ x) (hd : 1 ≤ den) : S ≤ W * x := by
  have h1 : x * P ≤ x * (W * den) := Int.mul_le_mul_of_nonneg_left hP hx
  have e1 : x * (W * den) = (W * x) * den := by grind
  exact Int.le_of_mul_le_mul_right (by omega : S * den ≤ W * x * den) (by omega)

/-- The comparison in two digits. -/
theorem digits_le {S H t r t' r' : Int} (hS : S ≤ H) (h1 : t * 1073741824 + r = S) (h2 : t' * 1073741824 + r' = H) : ¬ (t' + r' / 1073741824 < t + r / 1073741824 ∨ t + r / 1073741824 = t' + r' / 1073741824 ∧ r' % 1073741824 < r % 1073741824) := by
  omega

end Go.Proofs.Ytgonighpjpfmnaa
