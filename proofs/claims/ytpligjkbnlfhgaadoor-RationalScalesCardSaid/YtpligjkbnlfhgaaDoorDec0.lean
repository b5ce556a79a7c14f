/- Decimal digits, from the left. Plain: no program. -/
import Derived.Test.YtpligjkbnlfhgaaDoorBig0
namespace Go.Proofs.YtpligjkbnlfhgaaDoor

/-- The number whose decimal digits are d 0 .. d (n - 1), the greatest first. -/
def preV (d : Nat → Nat) : Nat → Nat
  | 0 => 0
  | n + 1 => preV d n * 10 + d n

theorem preV_congr {d e : Nat → Nat} : ∀ {n : Nat}, (∀ i, i < n → d i = e i) → preV d n = preV e n
  | 0, _ => rfl
  | n + 1, h => by rw [preV, preV, preV_congr (fun i hi => h i (by omega)), h n (by omega)]

theorem preV_split {d : Nat → Nat} {a : Nat} : ∀ b, preV d (a + b) = preV d a * 10 ^ b + preV (fun i => d (a + i)) b
  | 0 => by simp [preV]
  | b + 1 => by
    rw [← Nat.add_assoc, preV, preV_split b, preV, Nat.pow_succ]
    rw [Nat.add_mul, Nat.mul_assoc]
    omega

theorem preV_lt {d : Nat → Nat} : ∀ {n : Nat}, (∀ i, i < n → d i < 10) → preV d n < 10 ^ n
  | 0, _ => by simp [preV]
  | n + 1, h => by
    have ih := preV_lt (d := d) (n := n) fun i hi => h i (by omega)
    have := h n (by omega)
    rw [preV, Nat.pow_succ]
    omega

/-- The same digits, the least first. -/
theorem preV_nv {d : Nat → Nat} : ∀ n, preV d n = nv 10 (fun i => d (n - 1 - i)) n
  | 0 => rfl
  | n + 1 => by
    have h : preV d (1 + n) = preV d 1 * 10 ^ n + preV (fun i => d (1 + i)) n := preV_split n
    rw [Nat.add_comm 1 n] at h
    rw [h, preV_nv n, nv]
    have e1 : preV d 1 = d 0 := by simp [preV]
    have e2 : nv 10 (fun i => d (1 + (n - 1 - i))) n = nv 10 (fun i => d (n + 1 - 1 - i)) n := nv_congr fun i hi => by congr 1; omega
    rw [e1, e2, show n + 1 - 1 - n = 0 by omega]
    omega

/-- The bytes of a decimal text. -/
structure DecS (L : List UInt8) : Prop where
  dig : ∀ b ∈ L, 48 ≤ b.toNat ∧ b.toNat ≤ 57
  ne : L ≠ []
  lead : L.head? = some 48 → L.length = 1

def dgt (L : List UInt8) (i : Nat) : Nat := (L.getD i 48).toNat - 48
def decV (L : List UInt8) : Nat := preV (dgt L) L.length

theorem DecS.at {L : List UInt8} (h : DecS L) {i : Nat} (hi : i < L.length) : dgt L i < 10 ∧ L[i]? = some (UInt8.ofNat (48 + dgt L i)) := by
  have h1 := h.dig (L.getD i 48) (by rw [List.getD_eq_getElem?_getD, List.getElem?_eq_getElem hi]; simp)
  have e : L[i]? = some (L.getD i 48) := by rw [List.getD_eq_getElem?_getD, List.getElem?_eq_getElem hi]; rfl
  unfold dgt
  refine ⟨by omega, ?_⟩
  rw [e]
  congr 1
  rw [show 48 + ((L.getD i 48).toNat - 48) = (L.getD i 48).toNat by omega]
  simp

theorem DecS.pos {L : List UInt8} (h : DecS L) : 0 < L.length := List.length_pos_iff.2 h.ne

theorem DecS.head {L : List UInt8} (h : DecS L) (hl : 1 < L.length) : dgt L 0 ≠ 0 := fun h0 => by
  have h1 := (h.at h.pos).2
  rw [h0] at h1
  have : L.head? = some 48 := by rw [List.head?_eq_getElem?, h1]; rfl
  have := h.lead this
  omega

theorem DecS.lt {L : List UInt8} (h : DecS L) : decV L < 10 ^ L.length := preV_lt fun _ hi => (h.at hi).1

theorem DecS.ge {L : List UInt8} (h : DecS L) (hl : 1 < L.length) : 10 ^ (L.length - 1) ≤ decV L := by
  have e : decV L = preV (dgt L) (1 + (L.length - 1)) := by unfold decV; congr 1; omega
  rw [e, preV_split]
  have h0 := h.head hl
  have e1 : preV (dgt L) 1 = dgt L 0 := by simp [preV]
  rw [e1]
  have : 1 * 10 ^ (L.length - 1) ≤ dgt L 0 * 10 ^ (L.length - 1) := Nat.mul_le_mul_right _ (by omega)
  omega

/-- A number has one text. -/
theorem DecS.inj {L M : List UInt8} (hL : DecS L) (hM : DecS M) (h : decV L = decV M) : L = M := by
  have hlen : ∀ {L M : List UInt8}, DecS L → DecS M → decV L = decV M → L.length ≤ M.length := fun {L M} hL hM h => by
    refine Decidable.byContradiction fun hc => ?_
    have hp := hM.pos
    have h1 := hL.ge (by omega)
    have h2 := hM.lt
    have h3 : 10 ^ M.length ≤ 10 ^ (L.length - 1) := Nat.pow_le_pow_right (by omega) (by omega)
    omega
  have hle := Nat.le_antisymm (hlen hL hM h) (hlen hM hL h.symm)
  have hd : ∀ i, i < L.length → dgt L i = dgt M i := fun i hi => by
    unfold decV at h
    rw [preV_nv, preV_nv, ← hle] at h
    have := nv_inj (B := 10) (f := fun i => dgt L (L.length - 1 - i)) (g := fun i => dgt M (L.length - 1 - i)) (n := L.length) (fun i hi => (hL.at (by omega)).1) (fun i hi => (hM.at (by omega)).1) h (L.length - 1 - i) (by omega)
    rwa [show L.length - 1 - (L.length - 1 - i) = i by omega] at this
  apply List.ext_getElem?
  intro i
  by_cases hi : i < L.length
  · rw [(hL.at hi).2, (hM.at (by omega)).2, hd i hi]
  · rw [List.getElem?_eq_none (by omega), List.getElem?_eq_none (by omega)]

/-- The text has one digit more than its number's power. -/
theorem DecS.len_le {L : List UInt8} (h : DecS L) {k : Nat} (hk : 1 ≤ k) : L.length ≤ k ↔ decV L < 10 ^ k := by
  constructor
  · intro hl
    have h1 := h.lt
    have : 10 ^ L.length ≤ 10 ^ k := Nat.pow_le_pow_right (by omega) hl
    omega
  · intro hv
    refine Decidable.byContradiction fun hc => ?_
    have h1 := h.ge (by omega)
    have : 10 ^ k ≤ 10 ^ (L.length - 1) := Nat.pow_le_pow_right (by omega) (by omega)
    omega

theorem DecS.zero {L : List UInt8} (h : DecS L) : decV L = 0 ↔ L = [48] := by
  constructor
  · intro h0
    have h48 : DecS [48] := ⟨by simp, by simp, by simp⟩
    exact h.inj h48 (by rw [h0]; rfl)
  · rintro rfl; rfl

/-- Chunks of nine digits from the end. -/
def chunk (d : Nat → Nat) (n k : Nat) : Nat := preV (fun i => d (n - 9 * (k + 1) + i)) (n - 9 * k - (n - 9 * (k + 1)))

theorem chunk_lt {d : Nat → Nat} {n k : Nat} (h : ∀ i, i < n → d i < 10) : chunk d n k < 1000000000 := by
  have h1 := preV_lt (d := fun i => d (n - 9 * (k + 1) + i)) (n := n - 9 * k - (n - 9 * (k + 1))) fun i hi => h _ (by omega)
  have h2 : 10 ^ (n - 9 * k - (n - 9 * (k + 1))) ≤ 10 ^ 9 := Nat.pow_le_pow_right (by omega) (by omega)
  unfold chunk
  omega

/-- The last 9 k digits. -/
theorem chunk_sum {d : Nat → Nat} {n : Nat} : ∀ {k : Nat}, 9 * k ≤ n + 8 → nv 1000000000 (chunk d n) k = preV (fun i => d (n - 9 * k + i)) (n - (n - 9 * k))
  | 0, _ => by simp [nv, preV]
  | k + 1, h => by
    rw [nv, chunk_sum (k := k) (by omega)]
    have e : n - (n - 9 * (k + 1)) = (n - 9 * k - (n - 9 * (k + 1))) + (n - (n - 9 * k)) := by omega
    rw [e, preV_split, show n - (n - 9 * k) = 9 * k by omega, Nat.pow_mul]
    unfold chunk
    have e2 : preV (fun i => d (n - 9 * (k + 1) + (n - 9 * k - (n - 9 * (k + 1)) + i))) (9 * k) = preV (fun i => d (n - 9 * k + i)) (9 * k) := preV_congr fun i hi => by congr 1; omega
    rw [e2, show (10 ^ 9 : Nat) = 1000000000 from rfl]
    omega

theorem chunk_all {d : Nat → Nat} {n : Nat} : nv 1000000000 (chunk d n) ((n + 8) / 9) = preV d n := by
  have := Nat.div_add_mod (n + 8) 9
  have := Nat.mod_lt (n + 8) (show 0 < 9 by omega)
  rw [chunk_sum (by omega), show n - 9 * ((n + 8) / 9) = 0 by omega, Nat.sub_zero]
  exact preV_congr fun i _ => by congr 1; omega

/-- Nine decimal digits of a digit to the base 10^9, the least first. -/
theorem nine_digits {x : Nat} (hx : x < 1000000000) : nv 10 (fun k => x / 10 ^ k % 10) 9 = x := by
  simp only [nv]
  omega

end Go.Proofs.YtpligjkbnlfhgaaDoor
