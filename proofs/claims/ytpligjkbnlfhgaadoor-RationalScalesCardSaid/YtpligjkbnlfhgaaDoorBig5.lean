/- Nine decimal digits of each digit to the base 10^9. Plain: no program. -/
import Derived.Test.YtpligjkbnlfhgaaDoorBig3
namespace Go.Proofs.YtpligjkbnlfhgaaDoor

def dp (f : Nat → Nat) (p : Nat) : Nat := f (p / 9) / 10 ^ (p % 9) % 10
theorem dp_nv {f : Nat → Nat} : ∀ {n : Nat}, (∀ i, i < n → f i < 1000000000) → nv 10 (dp f) (9 * n) = nv 1000000000 f n
  | 0, _ => rfl
  | n + 1, h => by
    have e := nv_split (B := 10) (f := dp f) (k := 9 * n) (n := 9)
    have e2 : nv 10 (fun i => dp f (9 * n + i)) 9 = f n := by
      rw [show nv 10 (fun i => dp f (9 * n + i)) 9 = nv 10 (fun k => f n / 10 ^ k % 10) 9 from nv_congr fun i hi => by
        unfold dp
        rw [show (9 * n + i) / 9 = n by omega, show (9 * n + i) % 9 = i by omega]]
      exact nine_digits (h n (by omega))
    have e3 : nv 1000000000 f (n + 1) = nv 1000000000 f n + f n * 1000000000 ^ n := rfl
    rw [show 9 * (n + 1) = 9 * n + 9 by omega, e, dp_nv (n := n) fun i hi => h i (by omega), e2, e3, Nat.pow_mul, Nat.mul_comm]
theorem dp_lt (f : Nat → Nat) (p : Nat) : dp f p < 10 := Nat.mod_lt _ (by omega)
/-- A text of N places whose place p from the end holds digit p. -/
theorem dp_text {f : Nat → Nat} {n : Nat} {Z : List UInt8} (hf : ∀ i, i < n → f i < 1000000000) (hl : Z.length = 9 * n) (hZ : ∀ p, p < 9 * n → Z[9 * n - 1 - p]? = some (UInt8.ofNat (48 + dp f p))) :
    (∀ b ∈ Z, 48 ≤ b.toNat ∧ b.toNat ≤ 57) ∧ decV Z = nv 1000000000 f n := by
  have h1 : ∀ j, j < 9 * n → Z[j]? = some (UInt8.ofNat (48 + dp f (9 * n - 1 - j))) := fun j hj => by
    have := hZ (9 * n - 1 - j) (by omega)
    rwa [show 9 * n - 1 - (9 * n - 1 - j) = j by omega] at this
  constructor
  · intro b hb
    obtain ⟨j, hj, rfl⟩ := List.mem_iff_getElem.1 hb
    have h2 := h1 j (by omega)
    rw [List.getElem?_eq_getElem hj] at h2
    injection h2 with h2
    have := ofNat_dig (dp_lt f (9 * n - 1 - j))
    have := dp_lt f (9 * n - 1 - j)
    rw [h2]; omega
  · unfold decV
    rw [preV_nv, hl, ← dp_nv hf]
    refine nv_congr fun p hp => ?_
    have h2 := hZ p hp
    unfold dgt
    rw [List.getD_eq_getElem?_getD, h2]
    have := ofNat_dig (dp_lt f p)
    simp only [Option.getD_some]
    omega
end Go.Proofs.YtpligjkbnlfhgaaDoor
