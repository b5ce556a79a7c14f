/- The interval of a fraction contains it. No statement is proved here. -/
import Derived.Test.YtpligjkbnlfhgaaDoorEnc0
import Derived.Test.YtpligjkbnlfhgaaDoorEst0
namespace Go.Proofs.YtpligjkbnlfhgaaDoor
open Go.RowKit

theorem frac_le {a b c d : Int} (hb : 0 < b) (hd : 0 < d) : frQ a b ≤ frQ c d ↔ a * d ≤ c * b := by
  have h1 : (0 : Rat) < (b : Rat) := (Rat.intCast_lt_intCast (a := 0) (b := b)).2 hb
  have h2 : (0 : Rat) < (d : Rat) := (Rat.intCast_lt_intCast (a := 0) (b := d)).2 hd
  have h3 : (0 : Rat) < (b : Rat) * (d : Rat) := Rat.mul_pos h1 h2
  have e1 : frQ a b * ((b : Rat) * (d : Rat)) = ((a * d : Int) : Rat) := by
    unfold frQ; rw [Rat.intCast_mul]; grind
  have e2 : frQ c d * ((b : Rat) * (d : Rat)) = ((c * b : Int) : Rat) := by
    unfold frQ; rw [Rat.intCast_mul]; grind
  rw [← Rat.intCast_le_intCast, ← e1, ← e2]
  exact ⟨fun h => Rat.mul_le_mul_of_nonneg_right h (Rat.le_of_lt h3), fun h => Rat.le_of_mul_le_mul_right h h3⟩
theorem rat_fr (x : Rat) : frQ x.num (x.den : Int) = x := by
  unfold frQ; rw [Rat.intCast_natCast, ← Rat.mkRat_eq_div]; exact Rat.mkRat_self x
theorem qI_fr (a : Int) : qI a = frQ a 4294967296 := by rw [qI_div]; rfl
theorem qI_le_x {a : Int} {x : Rat} : qI a ≤ x ↔ a * (x.den : Int) ≤ x.num * 4294967296 := by
  have h := frac_le (a := a) (b := 4294967296) (c := x.num) (d := (x.den : Int)) (by decide) (by have := x.den_pos; omega)
  rwa [rat_fr, ← qI_fr] at h
theorem x_le_qI {a : Int} {x : Rat} : x ≤ qI a ↔ x.num * 4294967296 ≤ a * (x.den : Int) := by
  have h := frac_le (a := x.num) (b := (x.den : Int)) (c := a) (d := 4294967296) (by have := x.den_pos; omega) (by decide)
  rwa [rat_fr, ← qI_fr] at h
theorem scale_enc {x : Rat} {p q : Int} (h : scaleR x 4294967296 = some (p, q)) : qI p ≤ x ∧ x ≤ qI q := by
  rw [qI_le_x, x_le_qI]
  rw [scale_parts] at h
  have hd := x.den_pos
  have hm := Nat.div_add_mod (x.num.natAbs * 4294967296) x.den
  have hl := Nat.mod_lt (x.num.natAbs * 4294967296) hd
  generalize hQ : x.num.natAbs * 4294967296 / x.den = Q at *
  generalize hR : x.num.natAbs * 4294967296 % x.den = R at *
  have hm' : (x.den : Int) * (Q : Int) + (R : Int) = (x.num.natAbs : Int) * 4294967296 := by rw [← Int.natCast_mul, ← Int.natCast_add, hm, Int.natCast_mul]; rfl
  have e1 : ((Q : Int) + 1) * (x.den : Int) = (x.den : Int) * (Q : Int) + (x.den : Int) := by rw [Int.add_mul, Int.one_mul, Int.mul_comm]
  have e2 : (Q : Int) * (x.den : Int) = (x.den : Int) * (Q : Int) := Int.mul_comm _ _
  by_cases h0 : R = 0
  · rw [if_pos h0] at h
    split at h
    · cases h
    · by_cases hs : x.num < 0
      · rw [if_pos hs] at h
        simp only [Option.some.injEq, Prod.mk.injEq] at h
        obtain ⟨rfl, rfl⟩ := h
        rw [Int.neg_mul, e2]
        omega
      · rw [if_neg hs] at h
        simp only [Option.some.injEq, Prod.mk.injEq] at h
        obtain ⟨rfl, rfl⟩ := h
        rw [e2]
        omega
  · rw [if_neg h0] at h
    split at h
    · cases h
    · by_cases hs : x.num < 0
      · rw [if_pos hs] at h
        simp only [Option.some.injEq, Prod.mk.injEq] at h
        obtain ⟨rfl, rfl⟩ := h
        rw [Int.neg_mul, Int.neg_mul, e2, Int.natCast_add, Int.natCast_one, e1]
        omega
      · rw [if_neg hs] at h
        simp only [Option.some.injEq, Prod.mk.injEq] at h
        obtain ⟨rfl, rfl⟩ := h
        rw [e2, Int.natCast_add, Int.natCast_one, e1]
        omega
theorem ofI_con {t : Txt} {p q : Int} (h : ofI t = some (p, q)) : conB p q t = true ∧ -2305843009213693952 ≤ p ∧ p ≤ q ∧ q ≤ 2305843009213693952 ∧ (q - p = 0 ∨ q - p = 1) := by
  have hn := scale_next h
  refine ⟨?_, hn⟩
  unfold ofI scaleT at h
  unfold conB
  cases e : rdR t with
  | none => rw [e] at h; cases h
  | some x =>
    rw [e] at h
    simp only at h ⊢
    rw [if_neg (by decide)] at h
    have hx := scale_enc h
    rw [sgn_sub, sgn_sub, decide_eq_true hx.1, decide_eq_true hx.2, show inI p q = true from inI_iff.2 ⟨hn.1, hn.2.1, hn.2.2.1⟩]
    rfl
end Go.Proofs.YtpligjkbnlfhgaaDoor
