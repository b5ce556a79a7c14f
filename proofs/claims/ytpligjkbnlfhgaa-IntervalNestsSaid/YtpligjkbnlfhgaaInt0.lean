/- What package interval computes, in plain Lean. Plain: no program. -/
namespace Go.Proofs.Ytpligjkbnlfhgaa

/-- A valid interval. -/
def inI (lo hi : Int) : Bool := decide (-2305843009213693952 ≤ lo) && (decide (lo ≤ hi) && decide (hi ≤ 2305843009213693952))
theorem inI_iff {lo hi : Int} : inI lo hi = true ↔ -2305843009213693952 ≤ lo ∧ lo ≤ hi ∧ hi ≤ 2305843009213693952 := by simp [inI]

abbrev IR := Option (Int × Int)
def mkI (lo hi : Int) : IR := if inI lo hi = true then some (lo, hi) else none

def addI (a b c d : Int) : IR := if inI a b = true ∧ inI c d = true then mkI (a + c) (b + d) else none
def subI (a b c d : Int) : IR := if inI a b = true ∧ inI c d = true then mkI (a - d) (b - c) else none
def meetI (a b c d : Int) : IR := if inI a b = true ∧ inI c d = true then mkI (max a c) (min b d) else none
def hullI (a b c d : Int) : IR := if inI a b = true ∧ inI c d = true then some (min a c, max b d) else none

theorem hull_mk {a b c d : Int} (h1 : inI a b = true) (h2 : inI c d = true) : mkI (min a c) (max b d) = some (min a c, max b d) := by
  rw [inI_iff] at h1 h2
  rw [mkI, if_pos (inI_iff.2 (by omega))]

/-- A magnitude with a sign, rounded down and up. -/
def endsI (neg : Bool) (q : Int) (more : Bool) : Int × Int :=
  if neg = true then (-(if more = true then q + 1 else q), -q) else (q, if more = true then q + 1 else q)

/-- The product of two numbers of 32 binary places. -/
def absI (x : Int) : Int := if x < 0 then -x else x
def prodI (x y : Int) : IR := if 19807040628566084398385987584 ≤ absI x * absI y then none else some (endsI (decide (x < 0) != decide (y < 0)) (absI x * absI y / 4294967296) (decide (0 < absI x * absI y % 4294967296)))
def quotI (x y : Int) : IR := if absI y * 18446744073709551616 ≤ absI x * 4294967296 then none else
  if 2305843009213693952 < absI x * 4294967296 / absI y then none else some (endsI (decide (x < 0) != decide (y < 0)) (absI x * 4294967296 / absI y) (decide (0 < absI x * 4294967296 % absI y)))

/-- One that is in range. -/
def fitI (r : IR) : IR := match r with
  | some (lo, hi) => if -2305843009213693952 ≤ lo ∧ hi ≤ 2305843009213693952 then some (lo, hi) else none
  | none => none

/-- The hull of four results, from l and h on. -/
def hull4 (l h : Int) : List IR → IR
  | [] => some (l, h)
  | none :: _ => none
  | some (lo, hi) :: r => hull4 (min l lo) (max h hi) r

def corners (f : Int → Int → IR) (a b c d : Int) : List IR := [f a c, f a d, f b c, f b d]

theorem hull4_none {l h : Int} : ∀ {rs : List IR}, (∃ r ∈ rs, r = none) → hull4 l h rs = none
  | [], ⟨_, hm, _⟩ => by cases hm
  | none :: _, _ => rfl
  | some (lo, hi) :: r, ⟨x, hm, hx⟩ => by
    rw [hull4]
    refine hull4_none ⟨x, ?_, hx⟩
    rcases List.mem_cons.1 hm with rfl | hm
    · cases hx
    · exact hm

theorem hull4_bd {l h : Int} : ∀ {rs : List IR} {lo hi : Int}, hull4 l h rs = some (lo, hi) → lo ≤ l ∧ h ≤ hi ∧ ∀ p q, some (p, q) ∈ rs → lo ≤ p ∧ q ≤ hi
  | [], lo, hi, e => by
    simp only [hull4, Option.some.injEq, Prod.mk.injEq] at e
    exact ⟨by omega, by omega, fun _ _ hm => by cases hm⟩
  | none :: _, _, _, e => by simp [hull4] at e
  | some (a, b) :: r, lo, hi, e => by
    rw [hull4] at e
    obtain ⟨h1, h2, h3⟩ := hull4_bd e
    refine ⟨by omega, by omega, fun p q hm => ?_⟩
    rcases List.mem_cons.1 hm with e2 | hm
    · simp only [Option.some.injEq, Prod.mk.injEq] at e2
      omega
    · exact h3 p q hm

/-- The program makes an interval of the hull, the reference tests each end: the same. -/
theorem hull4_fit : ∀ (rs : List IR) (l h l' h' : Int), (∀ p q, some (p, q) ∈ rs → p ≤ q) →
    (l = l' ∧ h = h' ∧ l ≤ 2305843009213693952 ∧ -2305843009213693952 ≤ h ∧ -2305843009213693952 ≤ l ∧ h ≤ 2305843009213693952 ∧ l ≤ h ∨
      rs ≠ [] ∧ l = 2305843009213693953 ∧ h = -2305843009213693953 ∧ l' = 2305843009213693952 ∧ h' = -2305843009213693952) →
    (hull4 l h rs).bind (fun p => mkI p.1 p.2) = hull4 l' h' (rs.map fitI)
  | [], l, h, l', h', _, hi => by
    rcases hi with ⟨rfl, rfl, h1, h2, h3, h4, h5⟩ | ⟨h0, _⟩
    · simp only [hull4, List.map_nil, Option.bind_some]
      rw [mkI, if_pos (inI_iff.2 (by omega))]
    · exact absurd rfl h0
  | none :: r, l, h, l', h', _, _ => by simp [hull4, fitI]
  | some (a, b) :: r, l, h, l', h', hle, hi => by
    have hab := hle a b (by simp)
    by_cases hf : -2305843009213693952 ≤ a ∧ b ≤ 2305843009213693952
    · have e : fitI (some (a, b)) = some (a, b) := by simp only [fitI, if_pos hf]
      rw [List.map_cons, e, hull4, hull4]
      refine hull4_fit r _ _ _ _ (fun p q hm => hle p q (by simp [hm])) (.inl ?_)
      rcases hi with ⟨rfl, rfl, h1, h2, h3, h4, h5⟩ | ⟨_, rfl, rfl, rfl, rfl⟩ <;> omega
    · have e : fitI (some (a, b)) = none := by simp only [fitI, if_neg hf]
      rw [List.map_cons, e, hull4, hull4]
      cases hh : hull4 (min l a) (max h b) r with
      | none => rfl
      | some p =>
        obtain ⟨lo, hi'⟩ := p
        obtain ⟨h1, h2, _⟩ := hull4_bd hh
        simp only [Option.bind_some]
        rw [mkI, if_neg (fun hc => hf (by have := inI_iff.1 hc; omega))]

def mulI (a b c d : Int) : IR := if inI a b = true ∧ inI c d = true then hull4 2305843009213693952 (-2305843009213693952) ((corners prodI a b c d).map fitI) else none
def divI (a b c d : Int) : IR := if inI a b = true ∧ inI c d = true then (if c ≤ 0 ∧ 0 ≤ d then none else hull4 2305843009213693952 (-2305843009213693952) ((corners quotI a b c d).map fitI)) else none

theorem endsI_le (neg : Bool) (q : Int) (more : Bool) : (endsI neg q more).1 ≤ (endsI neg q more).2 := by
  unfold endsI
  cases neg <;> cases more <;> simp <;> omega
theorem prodI_le {x y p q : Int} (h : prodI x y = some (p, q)) : p ≤ q := by
  unfold prodI at h
  split at h
  · cases h
  · injection h with h
    have := endsI_le (decide (x < 0) != decide (y < 0)) (absI x * absI y / 4294967296) (decide (0 < absI x * absI y % 4294967296))
    rw [h] at this
    exact this
theorem quotI_le {x y p q : Int} (h : quotI x y = some (p, q)) : p ≤ q := by
  unfold quotI at h
  split at h
  · cases h
  · split at h
    · cases h
    · injection h with h
      have := endsI_le (decide (x < 0) != decide (y < 0)) (absI x * 4294967296 / absI y) (decide (0 < absI x * 4294967296 % absI y))
      rw [h] at this
      exact this

/-- The greatest number whose square is at most n. -/
def sqI (n r : Int) : Prop := 0 ≤ r ∧ r * r ≤ n ∧ n < (r + 1) * (r + 1)

theorem sqI_uniq {n r s : Int} (h : sqI n r) (k : sqI n s) : r = s := by
  obtain ⟨h0, h1, h2⟩ := h
  obtain ⟨k0, k1, k2⟩ := k
  rcases Int.lt_trichotomy r s with c | c | c
  · have := Int.mul_le_mul (show r + 1 ≤ s by omega) (show r + 1 ≤ s by omega) (by omega) (by omega)
    omega
  · exact c
  · have := Int.mul_le_mul (show s + 1 ≤ r by omega) (show s + 1 ≤ r by omega) (by omega) (by omega)
    omega

/-- The root by its binary places, from place k on. -/
def rootB (n : Int) : Nat → Int → Int
  | 0, r => r
  | k + 1, r => rootB n k (if (r + (2 : Int) ^ k) * (r + (2 : Int) ^ k) ≤ n then r + (2 : Int) ^ k else r)
theorem pow2_pos (k : Nat) : (1 : Int) ≤ (2 : Int) ^ k := by have := Nat.one_le_two_pow (n := k); exact_mod_cast this
theorem rootB_sq {n : Int} : ∀ (k : Nat) (r : Int), 0 ≤ r → r * r ≤ n → n < (r + (2 : Int) ^ k) * (r + (2 : Int) ^ k) → sqI n (rootB n k r) ∧ r ≤ rootB n k r ∧ rootB n k r < r + (2 : Int) ^ k
  | 0, r, h0, h1, h2 => by simp only [rootB, Int.pow_zero] at *; exact ⟨⟨h0, h1, h2⟩, by omega, by omega⟩
  | k + 1, r, h0, h1, h2 => by
    have hp := pow2_pos k
    have e : (2 : Int) ^ (k + 1) = (2 : Int) ^ k + (2 : Int) ^ k := by rw [Int.pow_succ]; omega
    rw [e] at h2 ⊢
    rw [rootB]
    by_cases h : (r + (2 : Int) ^ k) * (r + (2 : Int) ^ k) ≤ n
    · rw [if_pos h]
      obtain ⟨a, b, c⟩ := rootB_sq k (r + (2 : Int) ^ k) (by omega) h (by rw [Int.add_assoc]; exact h2)
      exact ⟨a, by omega, by omega⟩
    · rw [if_neg h]
      obtain ⟨a, b, c⟩ := rootB_sq k r h0 h1 (by omega)
      exact ⟨a, b, by omega⟩

/-- The root of n / One in parts of One, rounded down. -/
def rootI (n : Int) : Int := rootB (n * 4294967296) 48 0
theorem rootI_sq {n : Int} (h0 : 0 ≤ n) (h1 : n ≤ 2305843009213693952) : sqI (n * 4294967296) (rootI n) ∧ 0 ≤ rootI n ∧ rootI n < 281474976710656 := by
  have e : (2 : Int) ^ 48 = 281474976710656 := by decide
  obtain ⟨a, b, c⟩ := rootB_sq (n := n * 4294967296) 48 0 (by omega) (by omega) (by rw [e]; omega)
  rw [e] at c
  exact ⟨a, b, by unfold rootI; omega⟩
def sqrtI (a b : Int) : IR := if inI a b = true ∧ 0 ≤ a then some (rootI a, if rootI b * rootI b = b * 4294967296 then rootI b else rootI b + 1) else none
end Go.Proofs.Ytpligjkbnlfhgaa
