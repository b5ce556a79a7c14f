/- Shifts, halves, bits, division by halves; decimal texts of numbers. Plain: no program. -/
import Derived.Test.YtpligjkbnlfhgaaDoorBig1
import Derived.Test.YtpligjkbnlfhgaaDoorRat0
namespace Go.Proofs.YtpligjkbnlfhgaaDoor

/-! ### Shift -/
/-- i digits of a, shifted: s of them low, then bits e. -/
structure ShI (B : Nat) (f o : Nat → Nat) (s e i c : Nat) : Prop where
  eq : nv B o (s + i) + c * B ^ (s + i) = nv B f i * (B ^ s * 2 ^ e)
  lt : ∀ j, j < s + i → o j < B
  cb : c < 2 ^ e
theorem ShI.start {B : Nat} {f o : Nat → Nat} {s e : Nat} (hB : 0 < B) (h : ∀ j, j < s → o j = 0) : ShI B f o s e 0 0 :=
  ⟨by rw [Nat.add_zero, nv_zero h]; simp [nv], fun j hj => by rw [h j (by omega)]; exact hB, Nat.pow_pos (by omega)⟩
theorem ShI.step {B : Nat} {f o : Nat → Nat} {s e i c : Nat} (hB : 0 < B) (h : ShI B f o s e i c) (hf : f i < B) :
    ShI B f (updN o (s + i) ((f i * 2 ^ e + c) % B)) s e (i + 1) ((f i * 2 ^ e + c) / B) := by
  have hc := h.cb
  refine ⟨?_, ?_, ?_⟩
  · have := carry_step (B := B) h.eq (d := f i * 2 ^ e + c) (e := f i * 2 ^ e) rfl
    rw [← Nat.add_assoc, nv_next, nv, Nat.pow_succ]
    have e1 : (nv B f i + f i * B ^ i) * (B ^ s * 2 ^ e) = nv B f i * (B ^ s * 2 ^ e) + f i * 2 ^ e * B ^ (s + i) := by
      rw [Nat.pow_add]; grind
    omega
  · rw [← Nat.add_assoc]; exact upd_lt h.lt (Nat.mod_lt _ hB)
  · refine Nat.div_lt_of_lt_mul ?_
    have : (f i + 1) * 2 ^ e ≤ B * 2 ^ e := Nat.mul_le_mul_right _ hf
    rw [Nat.add_mul, Nat.one_mul] at this
    omega
theorem ShI.last {B : Nat} {f o : Nat → Nat} {s e n c : Nat} (h : ShI B f o s e n c) (hc : c < B) : nv B (updN o (s + n) c) (s + n + 1) = nv B f n * (B ^ s * 2 ^ e) ∧ ∀ j, j < s + n + 1 → updN o (s + n) c j < B :=
  ⟨by rw [nv_next]; exact h.eq, upd_lt h.lt hc⟩

/-! ### Half -/
structure HalfI (B : Nat) (f o : Nat → Nat) (n i : Nat) : Prop where
  eq : 2 * nv B o i + f 0 % 2 = nv B f i + ext f n i % 2 * B ^ i
  lt : ∀ j, j < i → o j < B
theorem HalfI.start {B : Nat} {f o : Nat → Nat} {n : Nat} (hn : 0 < n) : HalfI B f o n 0 := ⟨by rw [ext_lt hn]; simp [nv], fun j hj => by omega⟩
theorem HalfI.step {b : Nat} {f o : Nat → Nat} {n i : Nat} (h : HalfI (2 * b) f o n i) (hi : i < n) (hf : f i < 2 * b) : HalfI (2 * b) f (updN o i (f i / 2 + ext f n (i + 1) % 2 * b)) n (i + 1) ∧ f i / 2 + ext f n (i + 1) % 2 * b < 2 * b := by
  have h0 := h.eq
  rw [ext_lt hi] at h0
  obtain ⟨y, ey⟩ : ∃ y, ext f n (i + 1) % 2 = y := ⟨_, rfl⟩
  have hr : y < 2 := by rw [← ey]; exact Nat.mod_lt _ (by omega)
  have hy : y * b ≤ b := by
    have : y * b ≤ 1 * b := Nat.mul_le_mul_right _ (by omega)
    omega
  have hlt : f i / 2 + y * b < 2 * b := by omega
  rw [ey]
  refine ⟨⟨?_, upd_lt h.lt hlt⟩, hlt⟩
  rw [ey, nv_next, nv, Nat.pow_succ]
  have h1 := Nat.div_add_mod (f i) 2
  have e1 : (2 * (f i / 2) + f i % 2) * (2 * b) ^ i = f i * (2 * b) ^ i := by rw [h1]
  have e2 : (2 * (f i / 2) + f i % 2) * (2 * b) ^ i = 2 * (f i / 2 * (2 * b) ^ i) + f i % 2 * (2 * b) ^ i := by grind
  have e3 : 2 * ((f i / 2 + y * b) * (2 * b) ^ i) = 2 * (f i / 2 * (2 * b) ^ i) + y * ((2 * b) ^ i * (2 * b)) := by grind
  omega
theorem HalfI.done {b : Nat} {f o : Nat → Nat} {n : Nat} (h : HalfI (2 * b) f o n n) (hn : 0 < n) : nv (2 * b) o n = nv (2 * b) f n / 2 := by
  have h0 := h.eq
  rw [ext_ge (Nat.le_refl n)] at h0
  have h1 : nv (2 * b) f n % 2 = f 0 % 2 := by
    obtain ⟨k, rfl⟩ : ∃ k, n = 1 + k := ⟨n - 1, by omega⟩
    have e := nv_split (B := 2 * b) (f := f) (k := 1) (n := k)
    rw [e]
    simp only [nv, Nat.pow_zero, Nat.mul_one, Nat.zero_add, Nat.pow_one]
    rw [Nat.mul_assoc, Nat.add_mul_mod_self_left]
  omega

/-! ### Number of bits -/
def bitsN (n : Nat) : Nat := if n = 0 then 0 else n.log2 + 1
theorem bitsN_zero : bitsN 0 = 0 := rfl
theorem bitsN_lt (n : Nat) : n < 2 ^ bitsN n := by
  unfold bitsN
  split
  · subst_vars; simp
  · exact Nat.lt_log2_self
theorem bitsN_le {n : Nat} (h : n ≠ 0) : 2 ^ (bitsN n - 1) ≤ n := by
  unfold bitsN
  rw [if_neg h, Nat.add_sub_cancel]
  exact Nat.log2_self_le h
theorem bitsN_eq {n k : Nat} (h1 : 2 ^ k ≤ n) (h2 : n < 2 ^ (k + 1)) : bitsN n = k + 1 := by
  have hn : n ≠ 0 := by have : 0 < 2 ^ k := Nat.pow_pos (by omega); omega
  unfold bitsN
  rw [if_neg hn]
  have a1 := (Nat.log2_lt hn).2 h2
  have a2 := (Nat.le_log2 hn).2 h1
  omega
theorem bitsN_le_of {n k : Nat} (h : n < 2 ^ k) : bitsN n ≤ k := by
  unfold bitsN
  split
  · omega
  · have := (Nat.log2_lt (by assumption)).2 h; omega
theorem bitsN_half {n : Nat} (h : 0 < n) : bitsN n = bitsN (n / 2) + 1 := by
  by_cases h1 : n = 1
  · subst h1; rfl
  · have a1 := bitsN_le (n := n / 2) (by omega)
    have a2 := bitsN_lt (n / 2)
    have hp : 0 < bitsN (n / 2) := by unfold bitsN; rw [if_neg (by omega)]; omega
    obtain ⟨k, hk⟩ : ∃ k, bitsN (n / 2) = k + 1 := ⟨bitsN (n / 2) - 1, by omega⟩
    rw [hk] at a1 a2 ⊢
    rw [Nat.add_sub_cancel] at a1
    refine bitsN_eq ?_ ?_
    · rw [Nat.pow_succ]; omega
    · rw [Nat.pow_succ]; omega
/-- The bits of a number, from its last digit. -/
theorem bitsN_nv {f : Nat → Nat} {n : Nat} (h : Dig 4294967296 f n) (hn : n ≠ 0) : bitsN (nv 4294967296 f n) = 32 * (n - 1) + bitsN (f (n - 1)) := by
  have h1 := h.2 hn
  have h2 := h.1 (n - 1) (by omega)
  obtain ⟨k, rfl⟩ : ∃ k, n = k + 1 := ⟨n - 1, by omega⟩
  rw [Nat.add_sub_cancel] at *
  have a1 := bitsN_le h1
  have a2 := bitsN_lt (f k)
  have l := nv_lt (B := 4294967296) (f := f) (n := k) fun j hj => h.1 j (by omega)
  have e : (4294967296 : Nat) ^ k = 2 ^ (32 * k) := by rw [Nat.pow_mul]
  have hb : 0 < bitsN (f k) := by unfold bitsN; rw [if_neg h1]; omega
  obtain ⟨m, hm⟩ : ∃ m, bitsN (f k) = m + 1 := ⟨bitsN (f k) - 1, by omega⟩
  rw [hm] at a1 a2 ⊢
  rw [Nat.add_sub_cancel] at a1
  rw [e] at l
  rw [nv, e]
  refine bitsN_eq (k := 32 * k + m) ?_ ?_
  · have : 2 ^ m * 2 ^ (32 * k) ≤ f k * 2 ^ (32 * k) := Nat.mul_le_mul_right _ a1
    rw [Nat.pow_add, Nat.mul_comm (2 ^ (32 * k))]
    omega
  · have : (f k + 1) * 2 ^ (32 * k) ≤ 2 ^ (m + 1) * 2 ^ (32 * k) := Nat.mul_le_mul_right _ a2
    rw [Nat.add_mul, Nat.one_mul] at this
    rw [show 32 * k + m + 1 = (m + 1) + 32 * k by omega, Nat.pow_add]
    omega

/-! ### Division by halves -/
/-- t steps are left: a what is left, q the quotient's digits, d the divisor's multiple. -/
structure DhI (A b a d : Nat) (q : Nat → Nat) (m t : Nat) : Prop where
  eq : a + nv 4294967296 q m * b = A
  lt : a < 2 ^ t * b
  dd : d = 2 ^ t * b / 2
  qd : ∀ j, j < m → q j < 4294967296 ∧ 2 ^ (t - 32 * j) ∣ q j
theorem lor_add {y e : Nat} (h : 2 ^ (e + 1) ∣ y) : y ||| 2 ^ e = y + 2 ^ e := by
  obtain ⟨k, rfl⟩ := h
  have h2 : 2 ^ e < 2 ^ (e + 1) := Nat.pow_lt_pow_right (by omega) (by omega)
  exact (Nat.two_pow_add_eq_or_of_lt h2 k).symm
theorem DhI.less {A b a d : Nat} {q : Nat → Nat} {m t : Nat} (h : DhI A b a d q m (t + 1)) (hlt : a < d) : DhI A b a (d / 2) q m t := by
  have hd := h.dd
  have e : 2 ^ (t + 1) * b / 2 = 2 ^ t * b := by
    rw [Nat.pow_succ, show 2 ^ t * 2 * b = 2 ^ t * b * 2 by grind, Nat.mul_div_cancel _ (by omega)]
  rw [e] at hd
  refine ⟨h.eq, by omega, by rw [hd], fun j hj => ⟨(h.qd j hj).1, Nat.dvd_trans (Nat.pow_dvd_pow 2 (by omega)) (h.qd j hj).2⟩⟩
theorem DhI.more {A b a d : Nat} {q : Nat → Nat} {m t : Nat} (h : DhI A b a d q m (t + 1)) (hle : d ≤ a) (hm : t / 32 < m) :
    q (t / 32) ||| 2 ^ (t % 32) = q (t / 32) + 2 ^ (t % 32) ∧ q (t / 32) + 2 ^ (t % 32) < 4294967296 ∧ DhI A b (a - d) (d / 2) (updN q (t / 32) (q (t / 32) + 2 ^ (t % 32))) m t := by
  have hd := h.dd
  have e : 2 ^ (t + 1) * b / 2 = 2 ^ t * b := by
    rw [Nat.pow_succ, show 2 ^ t * 2 * b = 2 ^ t * b * 2 by grind, Nat.mul_div_cancel _ (by omega)]
  rw [e] at hd
  have e2 : 2 ^ (t + 1) * b = 2 ^ t * b + 2 ^ t * b := by rw [Nat.pow_succ]; grind
  have ht := Nat.div_add_mod t 32
  have ht2 := Nat.mod_lt t (show 0 < 32 by omega)
  obtain ⟨hq1, hq2⟩ := h.qd (t / 32) hm
  rw [show t + 1 - 32 * (t / 32) = t % 32 + 1 by omega] at hq2
  have hor := lor_add hq2
  have hlt : q (t / 32) + 2 ^ (t % 32) < 4294967296 := by
    rw [← hor]
    exact Nat.or_lt_two_pow (n := 32) hq1 (Nat.pow_lt_pow_right (by omega) ht2)
  refine ⟨hor, hlt, ⟨?_, ?_, by rw [hd], fun j hj => ?_⟩⟩
  · have h1 := nv_upd (B := 4294967296) (f := q) (x := q (t / 32) + 2 ^ (t % 32)) hm
    have h2 : (4294967296 : Nat) ^ (t / 32) = 2 ^ (32 * (t / 32)) := by rw [Nat.pow_mul]
    have h3 : (q (t / 32) + 2 ^ (t % 32)) * 4294967296 ^ (t / 32) = q (t / 32) * 4294967296 ^ (t / 32) + 2 ^ t := by
      rw [Nat.add_mul, h2, ← Nat.pow_add, show t % 32 + 32 * (t / 32) = t by omega]
    have h4 := h.eq
    have h5 : nv 4294967296 (updN q (t / 32) (q (t / 32) + 2 ^ (t % 32))) m = nv 4294967296 q m + 2 ^ t := by omega
    rw [h5, Nat.add_mul]
    omega
  · have := h.lt
    rw [e2, ← hd] at this
    rw [← hd]
    omega
  · by_cases ej : j = t / 32
    · subst ej
      rw [updN_same]
      refine ⟨hlt, ?_⟩
      rw [show t - 32 * (t / 32) = t % 32 by omega]
      exact Nat.dvd_add (Nat.dvd_trans (Nat.pow_dvd_pow 2 (by omega)) hq2) (Nat.dvd_refl _)
    · rw [updN_other _ ej]
      exact ⟨(h.qd j hj).1, Nat.dvd_trans (Nat.pow_dvd_pow 2 (by omega)) (h.qd j hj).2⟩
theorem DhI.start {A b n m : Nat} {q : Nat → Nat} (hA : A < 2 ^ (n + 1) * b) (hq : ∀ j, j < m → q j = 0) : DhI A b A (2 ^ n * b) q m (n + 1) :=
  ⟨by rw [nv_zero hq]; simp, hA, by rw [Nat.pow_succ, show 2 ^ n * 2 * b = 2 ^ n * b * 2 by grind, Nat.mul_div_cancel _ (by omega)], fun j hj => by rw [hq j hj]; exact ⟨by omega, Nat.dvd_zero _⟩⟩
theorem DhI.done {A b a d : Nat} {q : Nat → Nat} {m : Nat} (h : DhI A b a d q m 0) : nv 4294967296 q m = A / b ∧ a = A % b := by
  have h1 := h.eq
  have h2 := h.lt
  rw [Nat.pow_zero, Nat.one_mul] at h2
  have := mod_top (q := nv 4294967296 q m) h2
  rw [h1] at this
  exact ⟨this.2.symm, this.1.symm⟩
theorem dh_bits {A b : Nat} (hb : b ≠ 0) (h : bitsN b ≤ bitsN A) : A < 2 ^ (bitsN A - bitsN b + 1) * b := by
  have h1 := bitsN_lt A
  have h2 := bitsN_le hb
  have hp : 0 < bitsN b := by unfold bitsN; rw [if_neg hb]; omega
  have h3 : 2 ^ (bitsN A - bitsN b + 1) * 2 ^ (bitsN b - 1) ≤ 2 ^ (bitsN A - bitsN b + 1) * b := Nat.mul_le_mul_left _ h2
  rw [← Nat.pow_add, show bitsN A - bitsN b + 1 + (bitsN b - 1) = bitsN A by omega] at h3
  omega
theorem dh_less {A b : Nat} (h : bitsN A < bitsN b) : A < b := by
  refine Decidable.byContradiction fun hc => ?_
  have h1 := bitsN_lt A
  have h2 := bitsN_le (n := b) (fun h0 => by rw [h0, bitsN_zero] at h; omega)
  have h3 : 2 ^ bitsN A ≤ 2 ^ (bitsN b - 1) := Nat.pow_le_pow_right (by omega) (by omega)
  omega

/-! ### Decimal texts -/
/-- The text of a number, nothing for 0. -/
def decP (n : Nat) : List UInt8 := if n = 0 then [] else decT n
theorem decP_step {n : Nat} (h : 0 < n) : decP n = decP (n / 10) ++ [UInt8.ofNat (48 + n % 10)] := by
  unfold decP
  rw [if_neg (by omega)]
  by_cases h1 : n < 10
  · rw [if_pos (by omega)]
    unfold decT
    rw [dif_pos h1, Nat.mod_eq_of_lt h1]; rfl
  · rw [if_neg (by omega)]
    conv => lhs; unfold decT
    rw [dif_neg h1]
/-- Digits from the end of a number q 10^9 + r. -/
structure ShowI (N q n : Nat) (s : List UInt8) (i : Nat) : Prop where
  eq : decP N = decP (q * 10 ^ (9 - i) + n) ++ s
  lt : n < 10 ^ (9 - i)
theorem ShowI.start {N a : Nat} {s : List UInt8} (h : decP N = decP a ++ s) : ShowI N (a / 1000000000) (a % 1000000000) s 0 :=
  ⟨by rw [show a / 1000000000 * 10 ^ (9 - 0) + a % 1000000000 = a by have := Nat.div_add_mod a 1000000000; omega]; exact h, by have := Nat.mod_lt a (show 0 < 1000000000 by omega); omega⟩
theorem ShowI.step {N q n i : Nat} {s : List UInt8} (h : ShowI N q n s i) (hi : i < 9) (hc : 0 < q ∨ 0 < n) : ShowI N q (n / 10) (UInt8.ofNat (48 + n % 10) :: s) (i + 1) := by
  obtain ⟨P, hP⟩ : ∃ P, (10 : Nat) ^ (9 - (i + 1)) = P := ⟨_, rfl⟩
  have e : (10 : Nat) ^ (9 - i) = P * 10 := by rw [show 9 - i = 9 - (i + 1) + 1 by omega, Nat.pow_succ, hP]
  have h1 := h.eq
  have h2 := h.lt
  have hp : 0 < P := by rw [← hP]; exact Nat.pow_pos (by omega)
  rw [e] at h1 h2
  have hpos : 0 < q * (P * 10) + n := by
    rcases hc with hc | hc
    · have : 0 < q * (P * 10) := Nat.mul_pos hc (by omega)
      omega
    · omega
  have e3 : q * (P * 10) = q * P * 10 := by grind
  have e1 : (q * (P * 10) + n) / 10 = q * P + n / 10 := by omega
  have e2 : (q * (P * 10) + n) % 10 = n % 10 := by omega
  refine ⟨?_, by rw [hP]; omega⟩
  rw [hP, h1, decP_step hpos, List.append_assoc, e1, e2]
  rfl
theorem ShowI.nine {N q n : Nat} {s : List UInt8} (h : ShowI N q n s 9) : decP N = decP q ++ s := by
  have h2 := h.lt
  have h1 := h.eq
  simp only [Nat.sub_self, Nat.pow_zero] at h1 h2
  rwa [show q * 1 + n = q by omega] at h1
theorem ShowI.stop {N i : Nat} {s : List UInt8} (h : ShowI N 0 0 s i) : decP N = decP 0 ++ s := by
  have := h.eq
  rwa [Nat.zero_mul, Nat.zero_add] at this

/-- Digits with zeros in front. -/
theorem dropZeros {L : List UInt8} (hd : ∀ b ∈ L, 48 ≤ b.toNat ∧ b.toNat ≤ 57) (hne : decV L ≠ 0) : L.dropWhile (· == 48) = decT (decV L) := by
  have key : ∀ (L : List UInt8), (∀ b ∈ L, 48 ≤ b.toNat ∧ b.toNat ≤ 57) → decV (L.dropWhile (· == 48)) = decV L ∧ (decV L ≠ 0 → DecS (L.dropWhile (· == 48))) := by
    intro L
    induction L with
    | nil => intro _; exact ⟨rfl, fun h => absurd rfl h⟩
    | cons b L ih =>
      intro hd
      obtain ⟨i1, i2⟩ := ih fun x hx => hd x (List.mem_cons_of_mem _ hx)
      by_cases hb : b = 48
      · subst hb
        have e : decV (48 :: L) = decV L := by
          unfold decV
          rw [show (48 :: L).length = 1 + L.length by simp; omega, preV_split]
          have e1 : preV (dgt (48 :: L)) 1 = 0 := by simp [preV, dgt]
          rw [e1, Nat.zero_mul, Nat.zero_add]
          refine preV_congr fun i hi => ?_
          rw [Nat.add_comm]
          simp [dgt]
        rw [List.dropWhile_cons_of_pos (p := fun x => x == 48) (by simp), e]
        exact ⟨i1, i2⟩
      · rw [List.dropWhile_cons_of_neg (p := fun x => x == 48) (by simpa using hb)]
        exact ⟨rfl, fun _ => ⟨hd, by simp, fun hh => by simp at hh; exact absurd hh hb⟩⟩
  obtain ⟨k1, k2⟩ := key L hd
  rw [← k1]
  exact (decT_eq (k2 hne)).symm
end Go.Proofs.YtpligjkbnlfhgaaDoor
