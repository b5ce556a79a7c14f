/- Long division on digits. Plain: no program. -/
import Derived.Test.YtpligjkbnlfhgaaDoorBig1
import Derived.Test.YtpligjkbnlfhgaaDoorKnuth
namespace Go.Proofs.YtpligjkbnlfhgaaDoor

/-- The digits from place k on. -/
def offN (f : Nat → Nat) (k : Nat) : Nat → Nat := fun j => f (k + j)

/-! ### A multiple is taken away -/
structure RedI (B : Nat) (a v : Nat → Nat) (n q : Nat) (o : Nat → Nat) (i c b : Nat) : Prop where
  eq : nv B o i + q * nv B (ext v n) i = nv B a i + (b + c) * B ^ i
  lt : ∀ j, j < i → o j < B
  cle : c * B ^ i ≤ q * nv B (ext v n) i
  b1 : b ≤ 1
theorem ext_bd {B : Nat} {v : Nat → Nat} {n : Nat} (hB : 0 < B) (hv : ∀ j, j < n → v j < B) (i : Nat) : ext v n i < B := by
  unfold ext; split
  · exact hv i (by assumption)
  · exact hB
theorem RedI.start {B : Nat} {a v o : Nat → Nat} {n q : Nat} : RedI B a v n q o 0 0 0 := ⟨by simp [nv], fun j hj => by omega, by simp, by omega⟩
theorem RedI.c_lt {B : Nat} {a v o : Nat → Nat} {n q i c b : Nat} (hB : 0 < B) (hv : ∀ j, j < n → v j < B) (hq : q ≤ B) (h : RedI B a v n q o i c b) : c < B := by
  have h1 := nv_lt (B := B) (f := ext v n) (n := i) fun j _ => ext_bd hB hv j
  have hp : 0 < B ^ i := Nat.pow_pos hB
  have h2 : q * nv B (ext v n) i ≤ B * nv B (ext v n) i := Nat.mul_le_mul_right _ hq
  have h3 : B * nv B (ext v n) i < B * B ^ i := Nat.mul_lt_mul_of_pos_left h1 hB
  have h4 := h.cle
  exact Nat.lt_of_mul_lt_mul_right (a := B ^ i) (by omega)
theorem RedI.step {B : Nat} {a v o : Nat → Nat} {n q i c b x b' : Nat} (_hB : 0 < B) (h : RedI B a v n q o i c b) (hx : x < B) (hb : b' ≤ 1) (he : x + (c + q * ext v n i) % B + b = a i + B * b') :
    RedI B a v n q (updN o i x) (i + 1) ((c + q * ext v n i) / B) b' := by
  have h1 := Nat.div_add_mod (c + q * ext v n i) B
  have h0 := h.eq
  have hc := h.cle
  refine ⟨?_, upd_lt h.lt hx, ?_, hb⟩
  · rw [nv_next, nv, nv, Nat.pow_succ, Nat.mul_add]
    generalize ext v n = w at *
    generalize hp : c + q * w i = p at *
    have e1 : q * (w i * B ^ i) = q * w i * B ^ i := (Nat.mul_assoc _ _ _).symm
    have e2 : (x + p % B + b) * B ^ i = (a i + B * b') * B ^ i := by rw [he]
    have e3 : (B * (p / B) + p % B) * B ^ i = (c + q * w i) * B ^ i := by rw [h1, hp]
    have e4 : (x + p % B + b) * B ^ i = x * B ^ i + p % B * B ^ i + b * B ^ i := by grind
    have e5 : (a i + B * b') * B ^ i = a i * B ^ i + b' * (B ^ i * B) := by grind
    have e6 : (B * (p / B) + p % B) * B ^ i = p / B * (B ^ i * B) + p % B * B ^ i := by grind
    have e7 : (c + q * w i) * B ^ i = c * B ^ i + q * w i * B ^ i := by grind
    have e8 : (b + c) * B ^ i = b * B ^ i + c * B ^ i := by grind
    have e9 : (b' + p / B) * (B ^ i * B) = b' * (B ^ i * B) + p / B * (B ^ i * B) := by grind
    omega
  · rw [nv, Nat.pow_succ, Nat.mul_add]
    generalize ext v n = w at *
    generalize hp : c + q * w i = p at *
    have e1 : q * (w i * B ^ i) = q * w i * B ^ i := (Nat.mul_assoc _ _ _).symm
    have e3 : p * B ^ i = c * B ^ i + q * w i * B ^ i := by rw [← hp]; grind
    have e6 : p * B ^ i = p / B * (B ^ i * B) + p % B * B ^ i := by
      have : (B * (p / B) + p % B) * B ^ i = p / B * (B ^ i * B) + p % B * B ^ i := by grind
      rwa [h1] at this
    omega
/-- At the end: a borrow is left exactly where the multiple is greater. -/
theorem RedI.done {B : Nat} {a v o : Nat → Nat} {n q c b : Nat} (hB : 0 < B) (hv : ∀ j, j < n → v j < B) (hq : q ≤ B) (h : RedI B a v n q o (n + 1) c b) :
    nv B o (n + 1) + q * nv B v n = nv B a (n + 1) + b * B ^ (n + 1) := by
  have h1 := nv_lt (B := B) (f := v) (n := n) hv
  have h4 := h.cle
  have h0 := h.eq
  rw [nv_ext (Nat.le_succ n)] at h0 h4
  have h2 : q * nv B v n ≤ B * nv B v n := Nat.mul_le_mul_right _ hq
  have h3 : B * nv B v n < B * B ^ n := Nat.mul_lt_mul_of_pos_left h1 hB
  have hc : c = 0 := by
    rcases Nat.eq_zero_or_pos c with h | h
    · exact h
    · have h5 : 1 * B ^ (n + 1) ≤ c * B ^ (n + 1) := Nat.mul_le_mul_right _ h
      rw [Nat.pow_succ] at h5 h4
      have : B ^ n * B = B * B ^ n := Nat.mul_comm _ _
      omega
  subst hc
  rwa [Nat.add_zero] at h0

/-! ### The outer loop -/
structure DvO (B : Nat) (R O v : Nat → Nat) (U L n m t : Nat) : Prop where
  eq : nv B O m * nv B v n + nv B R L = U
  lt : nv B R L < nv B v n * B ^ t
  Rd : ∀ j, j < L → R j < B
  Od : ∀ j, j < m → O j < B
  zero : ∀ j, j < t → O j = 0
theorem nv_low {B : Nat} {R : Nat → Nat} {L p : Nat} (hp : p ≤ L) (h : nv B R L < B ^ p) : nv B R L = nv B R p := by
  have e := nv_split (B := B) (f := R) (k := p) (n := L - p)
  rw [show p + (L - p) = L by omega] at e
  rcases Nat.eq_zero_or_pos (nv B (fun i => R (p + i)) (L - p)) with h0 | h0
  · rw [h0, Nat.mul_zero, Nat.add_zero] at e; exact e
  · have : B ^ p * 1 ≤ B ^ p * nv B (fun i => R (p + i)) (L - p) := Nat.mul_le_mul_left _ h0
    omega
/-- The part that is looked at, and what it is worth. -/
theorem DvO.part {B : Nat} {R O v : Nat → Nat} {U L n m k : Nat} (hB : 1 < B) (h : DvO B R O v U L n m (k + 1)) (hv : ∀ j, j < n → v j < B) (hL : k + n + 1 ≤ L) :
    nv B R L = nv B R k + B ^ k * nv B (offN R k) (n + 1) ∧ nv B (offN R k) (n + 1) < nv B v n * B := by
  have h1 := nv_lt (B := B) (f := v) (n := n) hv
  have hp : 0 < B ^ (k + 1) := Nat.pow_pos (by omega)
  have h2 : nv B v n * B ^ (k + 1) < B ^ n * B ^ (k + 1) := Nat.mul_lt_mul_of_pos_right h1 hp
  have h3 := h.lt
  have e0 : B ^ n * B ^ (k + 1) = B ^ (k + n + 1) := by rw [← Nat.pow_add]; congr 1; omega
  have e1 := nv_low hL (show nv B R L < B ^ (k + n + 1) by omega)
  have e2 := nv_split (B := B) (f := R) (k := k) (n := n + 1)
  rw [← Nat.add_assoc] at e2
  have e3 : nv B R L = nv B R k + B ^ k * nv B (offN R k) (n + 1) := by rw [e1, e2]; rfl
  refine ⟨e3, ?_⟩
  refine Nat.lt_of_mul_lt_mul_left (a := B ^ k) ?_
  have e4 : B ^ k * (nv B v n * B) = nv B v n * B ^ (k + 1) := by rw [Nat.pow_succ]; grind
  omega
theorem DvO.step {B : Nat} {R R' O v : Nat → Nat} {U L n m k q : Nat} (hB : 1 < B) (h : DvO B R O v U L n m (k + 1)) (hv : ∀ j, j < n → v j < B) (hL : k + n + 1 ≤ L) (hm : k < m)
    (hlo : ∀ j, j < k → R' j = R j) (hhi : ∀ j, k + n + 1 ≤ j → j < L → R' j = R j) (hd : ∀ j, j < L → R' j < B)
    (hX : nv B (offN R' k) (n + 1) + q * nv B v n = nv B (offN R k) (n + 1)) (hlt : nv B (offN R' k) (n + 1) < nv B v n) : q < B ∧ DvO B R' (updN O k q) v U L n m k := by
  obtain ⟨e1, e2⟩ := h.part hB hv hL
  have hV : 0 < nv B v n := by omega
  have hq : q < B := by
    refine Nat.lt_of_mul_lt_mul_right (a := nv B v n) ?_
    have : B * nv B v n = nv B v n * B := Nat.mul_comm _ _
    omega
  have hhz : ∀ j, k + n + 1 ≤ j → j < L → R j = 0 := by
    have h3 := nv_split (B := B) (f := R) (k := k + n + 1) (n := L - (k + n + 1))
    have h4 := nv_split (B := B) (f := R) (k := k) (n := n + 1)
    rw [← Nat.add_assoc] at h4
    rw [show k + n + 1 + (L - (k + n + 1)) = L by omega] at h3
    have h5 : B ^ (k + n + 1) * nv B (fun i => R (k + n + 1 + i)) (L - (k + n + 1)) = 0 := by
      have h6 : nv B (offN R k) (n + 1) = nv B (fun i => R (k + i)) (n + 1) := rfl
      rw [h6] at e1
      omega
    have hp : 0 < B ^ (k + n + 1) := Nat.pow_pos (by omega)
    have h6 : nv B (fun i => R (k + n + 1 + i)) (L - (k + n + 1)) = 0 := by
      rcases Nat.mul_eq_zero.1 h5 with h | h
      · omega
      · exact h
    intro j hj hjL
    have h7 := nv_inj (B := B) (f := fun i => R (k + n + 1 + i)) (g := fun _ => 0) (n := L - (k + n + 1)) (fun i hi => h.Rd _ (by omega)) (fun _ _ => by omega) (by rw [h6, nv_zero fun _ _ => rfl]) (j - (k + n + 1)) (by omega)
    rwa [show k + n + 1 + (j - (k + n + 1)) = j by omega] at h7
  have f1 : nv B R' L = nv B R k + B ^ k * nv B (offN R' k) (n + 1) := by
    rw [nv_zeros (n := k + n + 1) hL fun j h1 h2 => by rw [hhi j h1 h2]; exact hhz j h1 h2]
    have e2 := nv_split (B := B) (f := R') (k := k) (n := n + 1)
    rw [← Nat.add_assoc] at e2
    rw [e2, nv_congr hlo]
    rfl
  have hk := nv_lt (B := B) (f := R) (n := k) fun j hj => h.Rd j (by omega)
  have g1 := nv_upd (B := B) (f := O) (x := q) hm
  rw [h.zero k (by omega), Nat.zero_mul, Nat.add_zero] at g1
  refine ⟨hq, ⟨?_, ?_, hd, upd_lt_at h.Od hq, fun j hj => by rw [updN_other _ (by omega)]; exact h.zero j (by omega)⟩⟩
  · have h0 := h.eq
    rw [g1, f1, ← h0, e1]
    have e5 : B ^ k * nv B (offN R k) (n + 1) = B ^ k * nv B (offN R' k) (n + 1) + q * B ^ k * nv B v n := by rw [← hX]; grind
    have e6 : (nv B O m + q * B ^ k) * nv B v n = nv B O m * nv B v n + q * B ^ k * nv B v n := Nat.add_mul _ _ _
    omega
  · rw [f1]
    have : B ^ k * (nv B (offN R' k) (n + 1) + 1) ≤ B ^ k * nv B v n := Nat.mul_le_mul_left _ hlt
    rw [Nat.mul_add, Nat.mul_one, Nat.mul_comm (B ^ k) (nv B v n)] at this
    omega
theorem DvO.done {B : Nat} {R O v : Nat → Nat} {U L n m : Nat} (h : DvO B R O v U L n m 0) : nv B O m = U / nv B v n ∧ nv B R L = U % nv B v n := by
  have h1 := h.eq
  have h2 := h.lt
  rw [Nat.pow_zero, Nat.mul_one] at h2
  have := mod_top (a := nv B R L) (b := nv B v n) (q := nv B O m) h2
  rw [← h1, Nat.add_comm]
  exact ⟨this.2.symm, this.1.symm⟩
theorem DvO.start {B : Nat} {u R O v : Nat → Nat} {l n : Nat} (hB : 1 < B) (hn : n ≤ l) (hv0 : n ≠ 0) (hvt : v (n - 1) ≠ 0) (hu : ∀ j, j < l → u j < B) (hR : ∀ j, j < l → R j = u j) (hR0 : R l = 0) (hO : ∀ j, j < l - n + 1 → O j = 0) :
    DvO B R O v (nv B u l) (l + 1) n (l - n + 1) (l - n + 1) := by
  have e : nv B R (l + 1) = nv B u l := by rw [nv, hR0, Nat.zero_mul, Nat.add_zero]; exact nv_congr hR
  have h1 := nv_lt hu
  have h2 := nv_ge (B := B) (f := v) (n := n - 1) hvt
  rw [show n - 1 + 1 = n by omega] at h2
  refine ⟨by rw [nv_zero hO, e]; simp, ?_, fun j hj => ?_, fun j hj => by rw [hO j hj]; omega, hO⟩
  · rw [e]
    have h3 : B ^ (n - 1) * B ^ (l - n + 1) ≤ nv B v n * B ^ (l - n + 1) := Nat.mul_le_mul_right _ h2
    rw [← Nat.pow_add, show n - 1 + (l - n + 1) = l by omega] at h3
    omega
  · by_cases h : j = l
    · rw [h, hR0]; omega
    · rw [hR j (by omega)]; exact hu j (by omega)

/-! ### The divisor's scale -/
theorem scale_half {B b : Nat} (hB : B % 2 = 0) (hb : 0 < b) (hbB : b < B) : B ≤ 2 * (b * (B / (b + 1))) := by
  have h1 := Nat.div_add_mod B (b + 1)
  have h2 := Nat.mod_lt B (show 0 < b + 1 by omega)
  generalize hd : B / (b + 1) = d at *
  have e : (b + 1) * d = b * d + d := by rw [Nat.add_mul, Nat.one_mul]
  have hd0 : 0 < d := by
    rcases Nat.eq_zero_or_pos d with h | h
    · subst h; simp at e; omega
    · exact h
  by_cases h3 : d = 1
  · subst h3; omega
  · by_cases h4 : b = 1
    · subst h4; omega
    · have h5 : b + d ≤ b * d := by
        obtain ⟨x, rfl⟩ : ∃ x, b = x + 2 := ⟨b - 2, by omega⟩
        obtain ⟨y, rfl⟩ : ∃ y, d = y + 2 := ⟨d - 2, by omega⟩
        have : (x + 2) * (y + 2) = x * y + 2 * x + 2 * y + 4 := by grind
        omega
      omega
/-- The scaled divisor has as many digits, and its first one is at least half the base. -/
theorem scale_v {B : Nat} {b v : Nat → Nat} {n m : Nat} (hB : 1 < B) (he : B % 2 = 0) (hb : Dig B b n) (hn : n ≠ 0) (hv : Dig B v m) (h : nv B v m = nv B b n * (B / (b (n - 1) + 1))) :
    m = n ∧ B ≤ 2 * v (n - 1) ∧ 0 < B / (b (n - 1) + 1) ∧ B / (b (n - 1) + 1) < B := by
  have h1 := hb.2 hn
  have h2 := hb.1 (n - 1) (by omega)
  have h3 := scale_half he (show 0 < b (n - 1) by omega) h2
  have h4 : B / (b (n - 1) + 1) * (b (n - 1) + 1) ≤ B := Nat.div_mul_le_self _ _
  have h5 := Nat.div_lt_self (n := B) (k := b (n - 1) + 1) (by omega) (by omega)
  generalize B / (b (n - 1) + 1) = d at *
  have hd0 : 0 < d := by
    rcases Nat.eq_zero_or_pos d with h | h
    · subst h; omega
    · exact h
  have e1 : nv B b n = nv B b (n - 1) + b (n - 1) * B ^ (n - 1) := by
    obtain ⟨k, rfl⟩ : ∃ k, n = k + 1 := ⟨n - 1, by omega⟩
    rw [nv, Nat.add_sub_cancel]
  have l1 := nv_lt (B := B) (f := b) (n := n - 1) fun j hj => hb.1 j (by omega)
  have hpw : B ^ n = B * B ^ (n - 1) := by
    obtain ⟨k, rfl⟩ : ∃ k, n = k + 1 := ⟨n - 1, by omega⟩
    rw [Nat.pow_succ, Nat.add_sub_cancel, Nat.mul_comm]
  have hlt : nv B v m < B ^ n := by
    rw [h, hpw]
    have a1 : (nv B b n + 1) * d ≤ (b (n - 1) + 1) * B ^ (n - 1) * d := Nat.mul_le_mul_right _ (by rw [Nat.add_mul, Nat.one_mul]; omega)
    have a2 : d * (b (n - 1) + 1) * B ^ (n - 1) ≤ B * B ^ (n - 1) := Nat.mul_le_mul_right _ h4
    have a3 : (b (n - 1) + 1) * B ^ (n - 1) * d = d * (b (n - 1) + 1) * B ^ (n - 1) := by grind
    rw [Nat.add_mul, Nat.one_mul] at a1
    omega
  have hge : B ^ (n - 1) ≤ nv B v m := by
    rw [h]
    have a1 := hb.ge hn
    have a2 : nv B b n * 1 ≤ nv B b n * d := Nat.mul_le_mul_left _ hd0
    omega
  have hm : m = n := by
    have a1 := len_le hB hv hlt
    have a2 := len_gt hB hv hge
    omega
  subst hm
  refine ⟨rfl, ?_, hd0, h5⟩
  have e2 : nv B v m = nv B v (m - 1) + v (m - 1) * B ^ (m - 1) := by
    obtain ⟨k, rfl⟩ : ∃ k, m = k + 1 := ⟨m - 1, by omega⟩
    rw [nv, Nat.add_sub_cancel]
  have l2 := nv_lt (B := B) (f := v) (n := m - 1) fun j hj => hv.1 j (by omega)
  have h6 : b (m - 1) * d ≤ v (m - 1) := by
    have a1 : b (m - 1) * d * B ^ (m - 1) ≤ nv B v m := by
      rw [h, e1]
      have : (nv B b (m - 1) + b (m - 1) * B ^ (m - 1)) * d = nv B b (m - 1) * d + b (m - 1) * d * B ^ (m - 1) := by grind
      omega
    have a2 : b (m - 1) * d * B ^ (m - 1) < (v (m - 1) + 1) * B ^ (m - 1) := by rw [Nat.add_mul, Nat.one_mul]; omega
    have := Nat.lt_of_mul_lt_mul_right a2
    omega
  omega
theorem scaled_div {a b d : Nat} (hd : 0 < d) : a * d / (b * d) = a / b ∧ a * d % (b * d) / d = a % b := by
  refine ⟨Nat.mul_div_mul_right _ _ hd, ?_⟩
  rw [Nat.mul_mod_mul_right, Nat.mul_div_cancel _ hd]

/-! ### The estimate of a digit -/
/-- What the estimate keeps: X the part, V the divisor. -/
structure EstI (B : Nat) (top x0 v1 v2 X V q r : Nat) : Prop where
  eq : q * v1 + r = top
  up : X < (q + 1) * V
  qb : q ≤ B + 2
/-- The parts of X and V that the estimate looks at. -/
structure EstP (B : Nat) (top x0 v1 v2 X V : Nat) : Prop where
  ex : ∃ b x' v', X = (top * B + x0) * b + x' ∧ V = (v1 * B + v2) * b + v' ∧ x' < b ∧ v' < b
  lt : X < V * B
  x0B : x0 < B
  v1B : v1 < B
  v2B : v2 < B
  half : B ≤ 2 * v1
  tb : top < (v1 + 1) * B
theorem EstP.of {B : Nat} {R v : Nat → Nat} {n : Nat} (hB : 1 < B) (hn : 2 ≤ n) (hR : ∀ j, j < n + 1 → R j < B) (hv : ∀ j, j < n → v j < B) (hX : nv B R (n + 1) < nv B v n * B) (hh : B ≤ 2 * v (n - 1)) :
    EstP B (R n * B + R (n - 1)) (R (n - 2)) (v (n - 1)) (v (n - 2)) (nv B R (n + 1)) (nv B v n) := by
  obtain ⟨k, rfl⟩ : ∃ k, n = k + 2 := ⟨n - 2, by omega⟩
  simp only [show k + 2 - 1 = k + 1 by omega, Nat.add_sub_cancel] at *
  have lv := nv_lt (B := B) (f := v) (n := k) fun j hj => hv j (by omega)
  have lR := nv_lt (B := B) (f := R) (n := k) fun j hj => hR j (by omega)
  have eX : nv B R (k + 2 + 1) = ((R (k + 2) * B + R (k + 1)) * B + R k) * B ^ k + nv B R k := by
    rw [nv, nv, nv, Nat.pow_succ, Nat.pow_succ]; grind
  have eV : nv B v (k + 2) = (v (k + 1) * B + v k) * B ^ k + nv B v k := by
    rw [nv, nv, Nat.pow_succ]; grind
  refine ⟨⟨B ^ k, nv B R k, nv B v k, eX, eV, lR, lv⟩, hX, hR k (by omega), hv (k + 1) (by omega), hv k (by omega), hh, ?_⟩
  have h1 := hv k (by omega)
  have hp : 0 < B ^ k := Nat.pow_pos (by omega)
  refine Nat.lt_of_mul_lt_mul_right (a := B * B ^ k) ?_
  have a1 : nv B v (k + 2) < (v (k + 1) + 1) * B * B ^ k := by
    have : (v (k + 1) * B + v k + 1) * B ^ k ≤ (v (k + 1) + 1) * B * B ^ k := Nat.mul_le_mul_right _ (by rw [Nat.add_mul, Nat.one_mul]; omega)
    rw [Nat.add_mul (v (k + 1) * B + v k), Nat.one_mul] at this
    omega
  have a2 : nv B v (k + 2) * B < (v (k + 1) + 1) * B * B ^ k * B := Nat.mul_lt_mul_of_pos_right a1 (by omega)
  have a3 : (v (k + 1) + 1) * B * B ^ k * B = (v (k + 1) + 1) * B * (B * B ^ k) := by grind
  have a4 : (R (k + 2) * B + R (k + 1)) * (B * B ^ k) ≤ nv B R (k + 2 + 1) := by
    rw [eX]
    have : ((R (k + 2) * B + R (k + 1)) * B + R k) * B ^ k = (R (k + 2) * B + R (k + 1)) * (B * B ^ k) + R k * B ^ k := by grind
    omega
  omega
theorem EstI.start {B top x0 v1 v2 X V : Nat} (hP : EstP B top x0 v1 v2 X V) (hB : 1 < B) : EstI B top x0 v1 v2 X V (top / v1) (top % v1) ∧ top % v1 < B := by
  have hh := hP.half
  have hv1 : 0 < v1 := by omega
  obtain ⟨b, x', v', rfl, rfl, hx', hv'⟩ := hP.ex
  have := Nat.mod_lt top hv1
  have hb := hP.v1B
  exact ⟨⟨by rw [Nat.mul_comm]; exact Nat.div_add_mod _ _, kn_init hx' hP.x0B hv1, kn_bd hh hP.tb⟩, by omega⟩
theorem EstI.down {B top x0 v1 v2 X V q r : Nat} (hP : EstP B top x0 v1 v2 X V) (h : EstI B top x0 v1 v2 X V q r) (hc : B ≤ q ∨ r * B + x0 < q * v2) (hB : 1 < B) : 1 ≤ q ∧ EstI B top x0 v1 v2 X V (q - 1) (r + v1) := by
  obtain ⟨b, x', v', rfl, rfl, hx', hv'⟩ := hP.ex
  have hq : 1 ≤ q := by
    rcases hc with h | h
    · omega
    · rcases Nat.eq_zero_or_pos q with h0 | h0
      · subst h0; simp at h
      · exact h0
  have h1 := kn_down hx' h.eq hP.lt hc
  have h2 := h.eq
  have h3 := h.qb
  refine ⟨hq, ⟨?_, by rw [Nat.sub_add_cancel hq]; exact h1, by omega⟩⟩
  obtain ⟨p, rfl⟩ : ∃ p, q = p + 1 := ⟨q - 1, by omega⟩
  rw [Nat.add_mul, Nat.one_mul] at h2
  rw [Nat.add_sub_cancel]
  omega
/-- Behind the estimate. -/
structure EstD (B X V q : Nat) : Prop where
  qB : q ≤ B
  up : X < (q + 1) * V
  lo : q * V ≤ X + V
theorem EstI.done {B top x0 v1 v2 X V q r : Nat} (hP : EstP B top x0 v1 v2 X V) (h : EstI B top x0 v1 v2 X V q r) (hc : B ≤ r ∨ q < B ∧ q * v2 ≤ r * B + x0) : EstD B X V q := by
  have hh := hP.half
  have h2 := h.eq
  have h3 := hP.tb
  have hq : q ≤ B := by
    rcases hc with hc | hc
    · have : q * v1 < B * v1 := by rw [Nat.add_mul, Nat.one_mul, Nat.mul_comm v1 B] at h3; omega
      have := Nat.lt_of_mul_lt_mul_right this
      omega
    · omega
  have hup := h.up
  have hv1 : 0 < v1 := by
    have := hP.x0B
    omega
  obtain ⟨b, x', v', rfl, rfl, hx', hv'⟩ := hP.ex
  exact ⟨hq, hup, kn_exit hv' hv1 hP.v2B hq h2 (hc.imp id And.right)⟩
end Go.Proofs.YtpligjkbnlfhgaaDoor
