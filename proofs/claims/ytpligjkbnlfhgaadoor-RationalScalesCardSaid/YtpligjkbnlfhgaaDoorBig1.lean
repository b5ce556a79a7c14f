/- One step of each operation on digits. Plain: no program. -/
import Derived.Test.YtpligjkbnlfhgaaDoorBig0
namespace Go.Proofs.YtpligjkbnlfhgaaDoor

/-- A sum's digit and carry (also a product's): d is what comes together at place P. -/
theorem carry_step {B P O A c d e : Nat} (h : O + c * P = A) (hd : d = e + c) : O + d % B * P + d / B * (P * B) = A + e * P := by
  have h1 := Nat.div_add_mod d B
  have h2 : d * P = d / B * (P * B) + d % B * P := by
    have : (B * (d / B) + d % B) * P = d / B * (P * B) + d % B * P := by grind
    rwa [h1] at this
  have h3 : d * P = e * P + c * P := by rw [hd, Nat.add_mul]
  omega

theorem carry_lt {B d : Nat} (m : Nat) (h : d < m * B) : d / B < m := Nat.div_lt_of_lt_mul (by rw [Nat.mul_comm]; exact h)

/-- A difference's digit and borrow. -/
theorem borrow_step {B P O A b c c' o x y : Nat} (h : O + b = A + c * P) (ho : o + c + y = x + B * c') : O + o * P + (b + y * P) = A + x * P + c' * (P * B) := by
  have h1 : (o + c + y) * P = (x + B * c') * P := by rw [ho]
  have e1 : (o + c + y) * P = o * P + c * P + y * P := by grind
  have e2 : (x + B * c') * P = x * P + c' * (P * B) := by grind
  omega

/-- A division by one digit: from the top. -/
theorem small_step {B P T L r d x : Nat} (h : T = L * d + r * (P * B)) : T + x * P = (L + (r * B + x) / d * P) * d + (r * B + x) % d * P := by
  have h1 := Nat.div_add_mod (r * B + x) d
  have h2 : (r * B + x) * P = (r * B + x) / d * P * d + (r * B + x) % d * P := by
    have : (d * ((r * B + x) / d) + (r * B + x) % d) * P = (r * B + x) / d * P * d + (r * B + x) % d * P := by grind
    rwa [h1] at this
  have e1 : (r * B + x) * P = r * (P * B) + x * P := by grind
  have e2 : (L + (r * B + x) / d * P) * d = L * d + (r * B + x) / d * P * d := by grind
  omega

/-- The digits of a list. -/
def dl (L : List Nat) : Nat → Nat := fun i => L.getD i 0
theorem dl_snoc (L : List Nat) (x : Nat) : dl (L ++ [x]) = updN (dl L) L.length x := by
  funext j
  unfold dl
  by_cases h : j = L.length
  · subst h
    rw [updN_same, List.getD_eq_getElem?_getD, List.getElem?_append_right (Nat.le_refl _)]; simp
  · rw [updN_other _ h, List.getD_eq_getElem?_getD, List.getD_eq_getElem?_getD]
    by_cases h2 : j < L.length
    · rw [List.getElem?_append_left h2]
    · rw [List.getElem?_eq_none (by simp; omega), List.getElem?_eq_none (by omega)]

/-- The first k digits are set; the next one is set to x. -/
theorem nv_next {B : Nat} {f : Nat → Nat} {k x : Nat} : nv B (updN f k x) (k + 1) = nv B f k + x * B ^ k := by
  rw [nv, updN_same, nv_upd_out (Nat.le_refl k)]
theorem upd_lt {B : Nat} {f : Nat → Nat} {k x : Nat} (h : ∀ j, j < k → f j < B) (hx : x < B) : ∀ j, j < k + 1 → updN f k x j < B := fun j hj => by
  by_cases e : j = k
  · subst e; rw [updN_same]; exact hx
  · rw [updN_other _ e]; exact h j (by omega)
theorem upd_lt_at {B : Nat} {f : Nat → Nat} {n k x : Nat} (h : ∀ j, j < n → f j < B) (hx : x < B) : ∀ j, j < n → updN f k x j < B := fun j hj => by
  by_cases e : j = k
  · subst e; rw [updN_same]; exact hx
  · rw [updN_other _ e]; exact h j hj

/-! ### Sums -/
structure AddI (B : Nat) (f g o : Nat → Nat) (k c : Nat) : Prop where
  eq : nv B o k + c * B ^ k = nv B f k + nv B g k
  lt : ∀ j, j < k → o j < B
  c1 : c ≤ 1
theorem AddI.zero {B : Nat} {f g o : Nat → Nat} : AddI B f g o 0 0 := ⟨by simp [nv], fun j hj => by omega, by omega⟩
theorem AddI.step {B : Nat} {f g o : Nat → Nat} {k c : Nat} (hB : 1 < B) (h : AddI B f g o k c) (hf : f k < B) (hg : g k < B) : AddI B f g (updN o k ((f k + g k + c) % B)) (k + 1) ((f k + g k + c) / B) := by
  have hc := h.c1
  refine ⟨?_, upd_lt h.lt (Nat.mod_lt _ (by omega)), ?_⟩
  · have := carry_step (B := B) h.eq (d := f k + g k + c) (e := f k + g k) rfl
    rw [nv_next, nv, nv, Nat.pow_succ]
    have e : (f k + g k) * B ^ k = f k * B ^ k + g k * B ^ k := Nat.add_mul _ _ _
    omega
  · have := carry_lt (B := B) (d := f k + g k + c) 2 (by omega)
    omega
theorem AddI.last {B : Nat} {f g o : Nat → Nat} {k c : Nat} (hB : 1 < B) (h : AddI B f g o k c) : nv B (updN o k c) (k + 1) = nv B f k + nv B g k ∧ ∀ j, j < k + 1 → updN o k c j < B := by
  have hc := h.c1
  exact ⟨by rw [nv_next]; exact h.eq, upd_lt h.lt (by omega)⟩

/-! ### Differences -/
structure SubI (B : Nat) (f g o : Nat → Nat) (k c : Nat) : Prop where
  eq : nv B o k + nv B g k = nv B f k + c * B ^ k
  lt : ∀ j, j < k → o j < B
  c1 : c ≤ 1
theorem SubI.zero {B : Nat} {f g o : Nat → Nat} : SubI B f g o 0 0 := ⟨by simp [nv], fun j hj => by omega, by omega⟩
theorem SubI.step {B : Nat} {f g o : Nat → Nat} {k c c' x : Nat} (h : SubI B f g o k c) (hx : x < B) (hc : c' ≤ 1) (he : x + c + g k = f k + B * c') : SubI B f g (updN o k x) (k + 1) c' := by
  refine ⟨?_, upd_lt h.lt hx, hc⟩
  have := borrow_step h.eq he
  rw [nv_next, nv, nv, Nat.pow_succ]
  omega
theorem SubI.done {B : Nat} {f g o : Nat → Nat} {k c : Nat} (hB : 0 < B) (h : SubI B f g o k c) (hle : nv B g k ≤ nv B f k) : c = 0 ∧ nv B o k = nv B f k - nv B g k := by
  have h1 := nv_lt h.lt
  have h2 := h.eq
  have h3 := h.c1
  have hp : 0 < B ^ k := Nat.pow_pos hB
  rcases Nat.eq_zero_or_pos c with h0 | h0
  · subst h0
    rw [Nat.zero_mul] at h2
    exact ⟨rfl, by omega⟩
  · have : c = 1 := by omega
    subst this
    rw [Nat.one_mul] at h2
    omega

/-! ### Products -/
/-- Row i, place k: the whole of out, the carry. -/
structure MulI (B : Nat) (f g o : Nat → Nat) (n m i k c : Nat) : Prop where
  eq : nv B o (n + m) + c * B ^ (i + k) = nv B f i * nv B g m + f i * nv B g k * B ^ i
  lt : ∀ j, j < n + m → o j < B
  zero : ∀ j, i + m ≤ j → j < n + m → o j = 0
  c1 : c < B
structure MulO (B : Nat) (f g o : Nat → Nat) (n m i : Nat) : Prop where
  eq : nv B o (n + m) = nv B f i * nv B g m
  lt : ∀ j, j < n + m → o j < B
  zero : ∀ j, i + m ≤ j → j < n + m → o j = 0
theorem nv_zero {B : Nat} : ∀ {n : Nat} {f : Nat → Nat}, (∀ i, i < n → f i = 0) → nv B f n = 0
  | 0, _, _ => rfl
  | n + 1, f, h => by rw [nv, nv_zero (n := n) (fun i hi => h i (by omega)), h n (by omega)]; simp
theorem MulO.start {B : Nat} {f g o : Nat → Nat} {n m : Nat} (hB : 0 < B) (h : ∀ j, j < n + m → o j = 0) : MulO B f g o n m 0 :=
  ⟨by rw [nv_zero h]; simp [nv], fun j hj => by rw [h j hj]; exact hB, fun j _ hj => h j hj⟩
theorem MulO.enter {B : Nat} {f g o : Nat → Nat} {n m i : Nat} (hB : 0 < B) (h : MulO B f g o n m i) : MulI B f g o n m i 0 0 :=
  ⟨by rw [h.eq]; simp [nv], h.lt, h.zero, hB⟩
theorem MulI.step {B : Nat} {f g o : Nat → Nat} {n m i k c : Nat} (hB : 1 < B) (h : MulI B f g o n m i k c) (hi : i < n) (hk : k < m) (hf : f i < B) (hg : g k < B) :
    MulI B f g (updN o (i + k) ((o (i + k) + f i * g k + c) % B)) n m i (k + 1) ((o (i + k) + f i * g k + c) / B) ∧ o (i + k) + f i * g k + c < B * B := by
  have hc := h.c1
  have ho := h.lt (i + k) (by omega)
  have hp : f i * g k ≤ (B - 1) * (B - 1) := Nat.mul_le_mul (by omega) (by omega)
  have hb : o (i + k) + f i * g k + c < B * B := by
    obtain ⟨b, rfl⟩ : ∃ b, B = b + 1 := ⟨B - 1, by omega⟩
    simp only [Nat.add_sub_cancel] at hp
    have : (b + 1) * (b + 1) = b * b + b + b + 1 := by grind
    omega
  refine ⟨⟨?_, upd_lt_at h.lt (Nat.mod_lt _ (by omega)), fun j h1 h2 => ?_, carry_lt B hb⟩, hb⟩
  · have h1 := nv_upd (B := B) (f := o) (x := (o (i + k) + f i * g k + c) % B) (show i + k < n + m by omega)
    have h2 := carry_step (B := B) (P := B ^ (i + k)) (O := nv B o (n + m)) (c := c) rfl (d := o (i + k) + f i * g k + c) (e := o (i + k) + f i * g k) rfl
    have h3 := h.eq
    rw [← Nat.add_assoc, Nat.pow_succ]
    have e1 : (o (i + k) + f i * g k) * B ^ (i + k) = o (i + k) * B ^ (i + k) + f i * g k * B ^ (i + k) := Nat.add_mul _ _ _
    have e2 : f i * nv B g (k + 1) * B ^ i = f i * nv B g k * B ^ i + f i * g k * B ^ (i + k) := by
      rw [nv, Nat.pow_add]; grind
    omega
  · rw [updN_other _ (by omega)]; exact h.zero j h1 h2
theorem MulI.last {B : Nat} {f g o : Nat → Nat} {n m i c : Nat} (h : MulI B f g o n m i m c) (hi : i < n) : MulO B f g (updN o (i + m) c) n m (i + 1) := by
  refine ⟨?_, upd_lt_at h.lt h.c1, fun j h1 h2 => ?_⟩
  · have h1 := nv_upd (B := B) (f := o) (x := c) (show i + m < n + m by omega)
    rw [h.zero (i + m) (by omega) (by omega)] at h1
    have h3 := h.eq
    have e2 : nv B f (i + 1) * nv B g m = nv B f i * nv B g m + f i * nv B g m * B ^ i := by rw [nv]; grind
    omega
  · rw [updN_other _ (by omega)]; exact h.zero j (by omega) h2

/-! ### Division by one digit -/
structure SmlI (B : Nat) (f o : Nat → Nat) (n d i r : Nat) : Prop where
  eq : nv B f n = nv B f i + (nv B o n * d + r * B ^ i)
  lt : ∀ j, j < n → o j < B
  zero : ∀ j, j < i → o j = 0
  r1 : r < d
theorem SmlI.start {B : Nat} {f o : Nat → Nat} {n d : Nat} (hB : 0 < B) (hd : 0 < d) (h : ∀ j, j < n → o j = 0) : SmlI B f o n d n 0 :=
  ⟨by rw [nv_zero h]; simp, fun j hj => by rw [h j hj]; exact hB, h, hd⟩
theorem SmlI.step {B : Nat} {f o : Nat → Nat} {n d i r : Nat} (_hB : 0 < B) (h : SmlI B f o n d (i + 1) r) (hi : i < n) (hf : f i < B) :
    SmlI B f (updN o i ((r * B + f i) / d)) n d i ((r * B + f i) % d) ∧ (r * B + f i) / d < B := by
  have hr := h.r1
  have hq : (r * B + f i) / d < B := by
    refine Nat.div_lt_of_lt_mul ?_
    have : (r + 1) * B ≤ d * B := Nat.mul_le_mul_right _ hr
    rw [Nat.add_mul, Nat.one_mul] at this
    omega
  refine ⟨⟨?_, upd_lt_at h.lt hq, fun j hj => ?_, Nat.mod_lt _ (by omega)⟩, hq⟩
  · have h1 := nv_upd (B := B) (f := o) (x := (r * B + f i) / d) hi
    rw [h.zero i (by omega)] at h1
    have h2 := small_step (B := B) (P := B ^ i) (T := nv B o n * d + r * (B ^ i * B)) (L := nv B o n) (r := r) (d := d) (x := f i) rfl
    have h3 := h.eq
    rw [nv, Nat.pow_succ] at h3
    have e : nv B (updN o i ((r * B + f i) / d)) n = nv B o n + (r * B + f i) / d * B ^ i := by omega
    rw [e]
    omega
  · rw [updN_other _ (by omega)]; exact h.zero j (by omega)
theorem SmlI.done {B : Nat} {f o : Nat → Nat} {n d r : Nat} (h : SmlI B f o n d 0 r) : nv B o n = nv B f n / d ∧ r = nv B f n % d := by
  have h1 := h.eq
  have hr := h.r1
  simp only [nv, Nat.pow_zero, Nat.mul_one, Nat.zero_add] at h1
  have := mod_top (a := r) (b := d) (q := nv B o n) hr
  rw [h1, Nat.add_comm]
  exact ⟨this.2.symm, this.1.symm⟩

/-! ### Digits of a number -/
structure NatI (B : Nat) (o : Nat → Nat) (k n N : Nat) : Prop where
  eq : nv B o k + n * B ^ k = N
  lt : ∀ j, j < k → o j < B
  top : n = 0 → k ≠ 0 → o (k - 1) ≠ 0
theorem NatI.start {B N : Nat} {o : Nat → Nat} : NatI B o 0 N N := ⟨by simp [nv], fun j hj => by omega, fun _ h => absurd rfl h⟩
theorem NatI.step {B k n N : Nat} {o : Nat → Nat} (hB : 1 < B) (h : NatI B o k n N) (hn : 0 < n) : NatI B (updN o k (n % B)) (k + 1) (n / B) N := by
  refine ⟨?_, upd_lt h.lt (Nat.mod_lt _ (by omega)), fun h0 _ => ?_⟩
  · rw [nv_next, Nat.pow_succ]
    have h1 := Nat.div_add_mod n B
    have h2 : n * B ^ k = n / B * (B ^ k * B) + n % B * B ^ k := by
      have : (B * (n / B) + n % B) * B ^ k = n / B * (B ^ k * B) + n % B * B ^ k := by grind
      rwa [h1] at this
    have := h.eq
    omega
  · rw [Nat.add_sub_cancel, updN_same]
    have h1 := Nat.div_add_mod n B
    rw [h0, Nat.mul_zero, Nat.zero_add] at h1
    omega
theorem NatI.done {B k N : Nat} {o : Nat → Nat} (h : NatI B o k 0 N) : Dig B o k ∧ nv B o k = N :=
  ⟨⟨h.lt, h.top rfl⟩, by have := h.eq; omega⟩

/-! ### Comparison -/
def cmpI (a b : Nat) : Int := if a < b then -1 else if b < a then 1 else 0
theorem cmpI_lt {a b : Nat} (h : a < b) : cmpI a b = -1 := by simp [cmpI, h]
theorem cmpI_gt {a b : Nat} (h : b < a) : cmpI a b = 1 := by unfold cmpI; rw [if_neg (by omega), if_pos h]
theorem cmpI_eq {a b : Nat} (h : a = b) : cmpI a b = 0 := by subst h; simp [cmpI]

/-- The digits without the zeros at the end. -/
theorem trim_dig {B : Nat} {f : Nat → Nat} {n m : Nat} (hf : ∀ i, i < n → f i < B) (hm : m ≤ n) (hz : ∀ i, m ≤ i → i < n → f i = 0) (ht : m ≠ 0 → f (m - 1) ≠ 0) : Dig B f m ∧ nv B f m = nv B f n :=
  ⟨⟨fun i hi => hf i (by omega), ht⟩, (nv_zeros hm hz).symm⟩
end Go.Proofs.YtpligjkbnlfhgaaDoor
