/- Intervals, turned from another seat: what the operations compute; the program's. No statement is proved here. -/
import Derived.Test.YtpligjkbnlfhgaaDoorIv1
import Derived.Test.YtpligjkbnlfhgaaDoorFrE
import Derived.Deep.LoopGhost
import Derived.Deep.RegionHeld3
namespace Go.Proofs.YtpligjkbnlfhgaaDoor
open Go.RowKit

/-- A valid interval. -/
def inI (lo hi : Int) : Bool := decide (-2305843009213693952 ≤ lo) && (decide (lo ≤ hi) && decide (hi ≤ 2305843009213693952))
theorem inI_iff {lo hi : Int} : inI lo hi = true ↔ -2305843009213693952 ≤ lo ∧ lo ≤ hi ∧ hi ≤ 2305843009213693952 := by simp [inI]

abbrev IR := Option (Int × Int)
def mkI (lo hi : Int) : IR := if inI lo hi = true then some (lo, hi) else none

def addI (a b c d : Int) : IR := if inI a b = true ∧ inI c d = true then mkI (a + c) (b + d) else none
def subI (a b c d : Int) : IR := if inI a b = true ∧ inI c d = true then mkI (a - d) (b - c) else none
def meetI (a b c d : Int) : IR := if inI a b = true ∧ inI c d = true then mkI (max a c) (min b d) else none
def hullI (a b c d : Int) : IR := if inI a b = true ∧ inI c d = true then some (min a c, max b d) else none

theorem hull_mk {a b c d : Int} (h1 : inI a b = true) (h2 : inI c d = true) : mkI (min a c) (max b d) = some (min a c, max b d) := by
  rw [inI_iff] at h1 h2
  rw [mkI, if_pos (inI_iff.2 (by omega))]

/-- A magnitude with a sign, rounded down and up. -/
def endsI (neg : Bool) (q : Int) (more : Bool) : Int × Int :=
  if neg = true then (-(if more = true then q + 1 else q), -q) else (q, if more = true then q + 1 else q)

/-- The product of two numbers of 32 binary places. -/
def absI (x : Int) : Int := if x < 0 then -x else x
def prodI (x y : Int) : IR := if 19807040628566084398385987584 ≤ absI x * absI y then none else some (endsI (decide (x < 0) != decide (y < 0)) (absI x * absI y / 4294967296) (decide (0 < absI x * absI y % 4294967296)))
def quotI (x y : Int) : IR := if absI y * 18446744073709551616 ≤ absI x * 4294967296 then none else
  if 2305843009213693952 < absI x * 4294967296 / absI y then none else some (endsI (decide (x < 0) != decide (y < 0)) (absI x * 4294967296 / absI y) (decide (0 < absI x * 4294967296 % absI y)))

/-- One that is in range. -/
def fitI (r : IR) : IR := match r with
  | some (lo, hi) => if -2305843009213693952 ≤ lo ∧ hi ≤ 2305843009213693952 then some (lo, hi) else none
  | none => none

/-- The hull of four results, from l and h on. -/
def hull4 (l h : Int) : List IR → IR
  | [] => some (l, h)
  | none :: _ => none
  | some (lo, hi) :: r => hull4 (min l lo) (max h hi) r

def corners (f : Int → Int → IR) (a b c d : Int) : List IR := [f a c, f a d, f b c, f b d]

theorem hull4_none {l h : Int} : ∀ {rs : List IR}, (∃ r ∈ rs, r = none) → hull4 l h rs = none
  | [], ⟨_, hm, _⟩ => by cases hm
  | none :: _, _ => rfl
  | some (lo, hi) :: r, ⟨x, hm, hx⟩ => by
    rw [hull4]
    refine hull4_none ⟨x, ?_, hx⟩
    rcases List.mem_cons.1 hm with rfl | hm
    · cases hx
    · exact hm

theorem hull4_bd {l h : Int} : ∀ {rs : List IR} {lo hi : Int}, hull4 l h rs = some (lo, hi) → lo ≤ l ∧ h ≤ hi ∧ ∀ p q, some (p, q) ∈ rs → lo ≤ p ∧ q ≤ hi
  | [], lo, hi, e => by
    simp only [hull4, Option.some.injEq, Prod.mk.injEq] at e
    exact ⟨by omega, by omega, fun _ _ hm => by cases hm⟩
  | none :: _, _, _, e => by simp [hull4] at e
  | some (a, b) :: r, lo, hi, e => by
    rw [hull4] at e
    obtain ⟨h1, h2, h3⟩ := hull4_bd e
    refine ⟨by omega, by omega, fun p q hm => ?_⟩
    rcases List.mem_cons.1 hm with e2 | hm
    · simp only [Option.some.injEq, Prod.mk.injEq] at e2
      omega
    · exact h3 p q hm

/-- The program makes an interval of the hull, the reference tests each end: the same. -/
theorem hull4_fit : ∀ (rs : List IR) (l h l' h' : Int), (∀ p q, some (p, q) ∈ rs → p ≤ q) →
    (l = l' ∧ h = h' ∧ l ≤ 2305843009213693952 ∧ -2305843009213693952 ≤ h ∧ -2305843009213693952 ≤ l ∧ h ≤ 2305843009213693952 ∧ l ≤ h ∨
      rs ≠ [] ∧ l = 2305843009213693953 ∧ h = -2305843009213693953 ∧ l' = 2305843009213693952 ∧ h' = -2305843009213693952) →
    (hull4 l h rs).bind (fun p => mkI p.1 p.2) = hull4 l' h' (rs.map fitI)
  | [], l, h, l', h', _, hi => by
    rcases hi with ⟨rfl, rfl, h1, h2, h3, h4, h5⟩ | ⟨h0, _⟩
    · simp only [hull4, List.map_nil, Option.bind_some]
      rw [mkI, if_pos (inI_iff.2 (by omega))]
    · exact absurd rfl h0
  | none :: r, l, h, l', h', _, _ => by simp [hull4, fitI]
  | some (a, b) :: r, l, h, l', h', hle, hi => by
    have hab := hle a b (by simp)
    by_cases hf : -2305843009213693952 ≤ a ∧ b ≤ 2305843009213693952
    · have e : fitI (some (a, b)) = some (a, b) := by simp only [fitI, if_pos hf]
      rw [List.map_cons, e, hull4, hull4]
      refine hull4_fit r _ _ _ _ (fun p q hm => hle p q (by simp [hm])) (.inl ?_)
      rcases hi with ⟨rfl, rfl, h1, h2, h3, h4, h5⟩ | ⟨_, rfl, rfl, rfl, rfl⟩ <;> omega
    · have e : fitI (some (a, b)) = none := by simp only [fitI, if_neg hf]
      rw [List.map_cons, e, hull4, hull4]
      cases hh : hull4 (min l a) (max h b) r with
      | none => rfl
      | some p =>
        obtain ⟨lo, hi'⟩ := p
        obtain ⟨h1, h2, _⟩ := hull4_bd hh
        simp only [Option.bind_some]
        rw [mkI, if_neg (fun hc => hf (by have := inI_iff.1 hc; omega))]

def mulI (a b c d : Int) : IR := if inI a b = true ∧ inI c d = true then hull4 2305843009213693952 (-2305843009213693952) ((corners prodI a b c d).map fitI) else none
def divI (a b c d : Int) : IR := if inI a b = true ∧ inI c d = true then (if c ≤ 0 ∧ 0 ≤ d then none else hull4 2305843009213693952 (-2305843009213693952) ((corners quotI a b c d).map fitI)) else none

theorem endsI_le (neg : Bool) (q : Int) (more : Bool) : (endsI neg q more).1 ≤ (endsI neg q more).2 := by
  unfold endsI
  cases neg <;> cases more <;> simp <;> omega
theorem prodI_le {x y p q : Int} (h : prodI x y = some (p, q)) : p ≤ q := by
  unfold prodI at h
  split at h
  · cases h
  · injection h with h
    have := endsI_le (decide (x < 0) != decide (y < 0)) (absI x * absI y / 4294967296) (decide (0 < absI x * absI y % 4294967296))
    rw [h] at this
    exact this
theorem quotI_le {x y p q : Int} (h : quotI x y = some (p, q)) : p ≤ q := by
  unfold quotI at h
  split at h
  · cases h
  · split at h
    · cases h
    · injection h with h
      have := endsI_le (decide (x < 0) != decide (y < 0)) (absI x * 4294967296 / absI y) (decide (0 < absI x * 4294967296 % absI y))
      rw [h] at this
      exact this

/-- The greatest number whose square is at most n. -/
def sqI (n r : Int) : Prop := 0 ≤ r ∧ r * r ≤ n ∧ n < (r + 1) * (r + 1)

theorem sqI_uniq {n r s : Int} (h : sqI n r) (k : sqI n s) : r = s := by
  obtain ⟨h0, h1, h2⟩ := h
  obtain ⟨k0, k1, k2⟩ := k
  rcases Int.lt_trichotomy r s with c | c | c
  · have := Int.mul_le_mul (show r + 1 ≤ s by omega) (show r + 1 ≤ s by omega) (by omega) (by omega)
    omega
  · exact c
  · have := Int.mul_le_mul (show s + 1 ≤ r by omega) (show s + 1 ≤ r by omega) (by omega) (by omega)
    omega

/-- The root by its binary places, from place k on. -/
def rootB (n : Int) : Nat → Int → Int
  | 0, r => r
  | k + 1, r => rootB n k (if (r + (2 : Int) ^ k) * (r + (2 : Int) ^ k) ≤ n then r + (2 : Int) ^ k else r)
theorem pow2_pos (k : Nat) : (1 : Int) ≤ (2 : Int) ^ k := by have := Nat.one_le_two_pow (n := k); exact_mod_cast this
theorem rootB_sq {n : Int} : ∀ (k : Nat) (r : Int), 0 ≤ r → r * r ≤ n → n < (r + (2 : Int) ^ k) * (r + (2 : Int) ^ k) → sqI n (rootB n k r) ∧ r ≤ rootB n k r ∧ rootB n k r < r + (2 : Int) ^ k
  | 0, r, h0, h1, h2 => by simp only [rootB, Int.pow_zero] at *; exact ⟨⟨h0, h1, h2⟩, by omega, by omega⟩
  | k + 1, r, h0, h1, h2 => by
    have hp := pow2_pos k
    have e : (2 : Int) ^ (k + 1) = (2 : Int) ^ k + (2 : Int) ^ k := by rw [Int.pow_succ]; omega
    rw [e] at h2 ⊢
    rw [rootB]
    by_cases h : (r + (2 : Int) ^ k) * (r + (2 : Int) ^ k) ≤ n
    · rw [if_pos h]
      obtain ⟨a, b, c⟩ := rootB_sq k (r + (2 : Int) ^ k) (by omega) h (by rw [Int.add_assoc]; exact h2)
      exact ⟨a, by omega, by omega⟩
    · rw [if_neg h]
      obtain ⟨a, b, c⟩ := rootB_sq k r h0 h1 (by omega)
      exact ⟨a, b, by omega⟩

/-- The root of n / One in parts of One, rounded down. -/
def rootI (n : Int) : Int := rootB (n * 4294967296) 48 0
theorem rootI_sq {n : Int} (h0 : 0 ≤ n) (h1 : n ≤ 2305843009213693952) : sqI (n * 4294967296) (rootI n) ∧ 0 ≤ rootI n ∧ rootI n < 281474976710656 := by
  have e : (2 : Int) ^ 48 = 281474976710656 := by decide
  obtain ⟨a, b, c⟩ := rootB_sq (n := n * 4294967296) 48 0 (by omega) (by omega) (by rw [e]; omega)
  rw [e] at c
  exact ⟨a, b, by unfold rootI; omega⟩
def sqrtI (a b : Int) : IR := if inI a b = true ∧ 0 ≤ a then some (rootI a, if rootI b * rootI b = b * 4294967296 then rootI b else rootI b + 1) else none


abbrev ivA (lo hi : Int) : Array Value := #[.int .i64 lo, .int .i64 hi]
/-- A result: the interval and true, or the zero interval and false. -/
def resV : IR → Value
  | some (lo, hi) => .tuple #[.agg #[.int .i64 lo, .int .i64 hi], .bool true]
  | none => .tuple #[.agg #[.int .i64 0, .int .i64 0], .bool false]

theorem valid15 (lo hi : Int) (w : World) : Calls Tryd.prog 100 #[.agg #[.int .i64 lo, .int .i64 hi]] w fun e w' => e = .returned (.bool (inI lo hi)) ∧ Below w.heap.size w w' := by
  have hb : Below w.heap.size w (w.alloc (.cells #[.int .i64 lo, .int .i64 hi] 69)) := (Below.refl _ _).alloc (Nat.le_refl _) _
  by_cases h1 : -2305843009213693952 ≤ lo
  · by_cases h2 : lo ≤ hi
    all_goals
      go_enter Tryd.func100, Tryd.ntmps100
      go_wp2_with fail
      go_ret
      exact ⟨ret_bool (by first | (simp [inI, h1, h2]; done) | (simp [inI]; intros; omega)), hb⟩
  · go_enter Tryd.func100, Tryd.ntmps100
    go_wp2_with fail
    go_ret
    exact ⟨ret_bool (by simp [inI]; try (intros; omega)), hb⟩

theorem valid16 (lo hi : Int) (w : World) : Calls Tryd.prog 101 #[.agg #[.int .i64 lo, .int .i64 hi]] w fun e w' => e = .returned (.bool (inI lo hi)) ∧ Below w.heap.size w w' := by
  have hb : Below w.heap.size w (w.alloc (.cells #[.int .i64 lo, .int .i64 hi] 69)) := (Below.refl _ _).alloc (Nat.le_refl _) _
  by_cases h1 : -2305843009213693952 ≤ lo
  · by_cases h2 : lo ≤ hi
    all_goals
      go_enter Tryd.func101, Tryd.ntmps101
      go_wp2_with fail
      go_ret
      exact ⟨ret_bool (by first | (simp [inI, h1, h2]; done) | (simp [inI]; intros; omega)), hb⟩
  · go_enter Tryd.func101, Tryd.ntmps101
    go_wp2_with fail
    go_ret
    exact ⟨ret_bool (by simp [inI]; try (intros; omega)), hb⟩

theorem both20 (a b c d : Int) (w : World) : Calls Tryd.prog 102 #[.agg #[.int .i64 a, .int .i64 b], .agg #[.int .i64 c, .int .i64 d]] w fun e w' => e = .returned (.bool (inI a b && inI c d)) ∧ Below w.heap.size w w' := by
  obtain ⟨hb, g0, g1⟩ := allocs2 w (ivA a b) (ivA c d) 69 69
  unfold ivA at *
  cases h : inI a b
  all_goals
    go_enter Tryd.func102, Tryd.ntmps102
    go_wp2_with fail
    generalize ((w.alloc (.cells #[.int .i64 a, .int .i64 b] 69)).alloc (.cells #[.int .i64 c, .int .i64 d] 69)) = W at *
    refine (valid15 a b W).mono ?_
    rintro e w1 ⟨rfl, hb1⟩
    rw [h]
    replace g1 := (hb1.block _ (lt_of_blk g1)).trans g1
    have y0 := cell_of_block g1 0
    have y1 := cell_of_block g1 1
    simp only [List.getElem?_toArray, List.getElem?_cons_zero, List.getElem?_cons_succ] at y0 y1
    replace hb := below_trans' hb hb.size hb1
    clear hb1 g0 g1
    go_wp2_with fail
  · go_ret
    exact ⟨rfl, hb⟩
  · refine (valid15 c d w1).mono ?_
    rintro e w2 ⟨rfl, hb2⟩
    go_wp2_with fail
    go_ret
    exact ⟨ret_bool (by simp), below_trans' hb hb.size hb2⟩

theorem abs34 (x : Int) (w : World) (h : -9223372036854775808 ≤ x ∧ x ≤ 9223372036854775807) : Calls Tryd.prog 134 #[.int .i64 x] w fun e w' => e = .returned (.int .u64 (absI x)) ∧ w = w' := by
  by_cases h1 : x < 0
  · have e1 : IntKind.u64.wrap (-IntKind.u64.wrap x) = -x := by rw [IntKind.wrap_u64, IntKind.wrap_u64]; omega
    have E1 := Lib.hid e1
    clear e1
    go_enter Tryd.func134, Tryd.ntmps134
    go_wp2_with fail
    go_ret
    exact ⟨ret_int (by rw [absI, if_pos h1]; exact E1.out), rfl⟩
  · go_enter Tryd.func134, Tryd.ntmps134
    go_wp2_with fail
    go_ret
    exact ⟨ret_int (by unfold absI; split <;> omega), rfl⟩
theorem made21 (lo hi : Int) (w : World) : Calls Tryd.prog 99 #[.int .i64 lo, .int .i64 hi] w fun e w' => e = .returned (resV (mkI lo hi)) ∧ Below w.heap.size w w' := by
  obtain ⟨hb, g0, g1⟩ := allocs2 w #[.int .i64 0, .int .i64 0] (ivA lo hi) 69 69
  unfold ivA at *
  have hw : w.heap.size ≤ w.heap.size := Nat.le_refl _
  cases h : inI lo hi
  all_goals
    have e1 : mkI lo hi = if inI lo hi = true then some (lo, hi) else none := rfl
    rw [h] at e1
    have E1 := Lib.hid e1
    clear e1
    go_enter Tryd.func99, Tryd.ntmps99
    go_wp2_with fail
    generalize ((w.alloc (.cells #[.int .i64 0, .int .i64 0] 69)).alloc (.cells #[.int .i64 lo, .int .i64 hi] 69)) = W at *
    refine (valid15 lo hi W).mono ?_
    rintro e w1 ⟨rfl, hb1⟩
    rw [h]
    replace g0 := (hb1.block _ (lt_of_blk g0)).trans g0
    replace g1 := (hb1.block _ (lt_of_blk g1)).trans g1
    have y0 := cell_of_block g1 0
    have y1 := cell_of_block g1 1
    have x0 := cell_of_block g0 0
    have x1 := cell_of_block g0 1
    have f0 := free_of_block g0 0
    have f1 := free_of_block g0 1
    simp only [List.getElem?_toArray, List.getElem?_cons_zero, List.getElem?_cons_succ] at y0 y1 x0 x1
    replace hb := below_trans' hb hb.size hb1
    clear hb1 g1
    go_wp2_with fail
  · have k := block_set (block_set g0 0 (.int .i64 0)) 1 (.int .i64 0)
    have t0 := cell_of_block k 0
    have t1 := cell_of_block k 1
    simp only [List.getElem?_toArray, List.getElem?_cons_zero, List.getElem?_cons_succ, List.setIfInBounds_toArray, List.set_cons_zero, List.set_cons_succ] at t0 t1
    exact bodyPost_ret (v := .tuple #[.agg #[.int .i64 0, .int .i64 0], .bool false]) (by simp [results, Tryd.results99, go_sem, t0, t1]) rfl ⟨by rw [E1.out]; rfl, (hb.setCell hw _).setCell hw _⟩
  · have k := block_set (block_set g0 0 (.int .i64 lo)) 1 (.int .i64 hi)
    have t0 := cell_of_block k 0
    have t1 := cell_of_block k 1
    simp only [List.getElem?_toArray, List.getElem?_cons_zero, List.getElem?_cons_succ, List.setIfInBounds_toArray, List.set_cons_zero, List.set_cons_succ] at t0 t1
    exact bodyPost_ret (v := .tuple #[.agg #[.int .i64 lo, .int .i64 hi], .bool true]) (by simp [results, Tryd.results99, go_sem, t0, t1]) rfl ⟨by rw [E1.out]; rfl, (hb.setCell hw _).setCell hw _⟩


set_option maxHeartbeats 1000000 in
theorem add17 (a b c d : Int) (w : World) : Calls Tryd.prog 54 #[.agg #[.int .i64 a, .int .i64 b], .agg #[.int .i64 c, .int .i64 d]] w fun e w' => e = .returned (resV (addI a b c d)) ∧ Below w.heap.size w w' := by
  obtain ⟨hb, g0, g1, g2⟩ := allocs3 w (ivA a b) (ivA c d) #[.int .i64 0, .int .i64 0] 69 69 69
  unfold ivA at *
  have hw2 : w.heap.size ≤ w.heap.size + 1 + 1 := by omega
  cases h : (inI a b && inI c d) with
  | false =>
    have e1 : addI a b c d = none := by rw [addI, if_neg (by intro hh; rw [hh.1, hh.2] at h; cases h)]
    have E1 := Lib.hid e1
    clear e1
    go_enter Tryd.func54, Tryd.ntmps54
    go_wp2_with fail
    generalize (((w.alloc (.cells #[.int .i64 a, .int .i64 b] 69)).alloc (.cells #[.int .i64 c, .int .i64 d] 69)).alloc (.cells #[.int .i64 0, .int .i64 0] 69)) = W at *
    generalize w.heap.size + 1 + 1 = G2 at *
    generalize w.heap.size + 1 = G1 at *
    refine (both20 a b c d W).mono ?_
    rintro e w1 ⟨rfl, hb1⟩
    rw [h]
    replace g0 := (hb1.block _ (lt_of_blk g0)).trans g0
    replace g1 := (hb1.block _ (lt_of_blk g1)).trans g1
    replace g2 := (hb1.block _ (lt_of_blk g2)).trans g2
    have y0 := cell_of_block g0 0
    have y1 := cell_of_block g0 1
    have z0 := cell_of_block g1 0
    have z1 := cell_of_block g1 1
    have x0 := cell_of_block g2 0
    have x1 := cell_of_block g2 1
    have f0 := free_of_block g2 0
    have f1 := free_of_block g2 1
    simp only [List.getElem?_toArray, List.getElem?_cons_zero, List.getElem?_cons_succ] at y0 y1 z0 z1 x0 x1
    replace hb := below_trans' hb hb.size hb1
    clear hb1
    go_wp2_with fail
    have k := block_set (block_set g2 0 (.int .i64 0)) 1 (.int .i64 0)
    have t0 := cell_of_block k 0
    have t1 := cell_of_block k 1
    simp only [List.getElem?_toArray, List.getElem?_cons_zero, List.getElem?_cons_succ, List.setIfInBounds_toArray, List.set_cons_zero, List.set_cons_succ] at t0 t1
    exact bodyPost_ret (v := .tuple #[.agg #[.int .i64 0, .int .i64 0], .bool false]) (by simp [results, Tryd.results54, go_sem, t0, t1]) rfl ⟨by rw [E1.out]; rfl, (hb.setCell hw2 _).setCell hw2 _⟩
  | true =>
    have h12 : inI a b = true ∧ inI c d = true := by simpa using h
    have hi1 := inI_iff.1 h12.1
    have hi2 := inI_iff.1 h12.2
    have e1 : addI a b c d = mkI (a + c) (b + d) := by rw [addI, if_pos h12]
    have E1 := Lib.hid e1
    clear e1
    have H12 := Lib.hid h12
    clear h12
    go_enter Tryd.func54, Tryd.ntmps54
    go_wp2_with fail
    generalize (((w.alloc (.cells #[.int .i64 a, .int .i64 b] 69)).alloc (.cells #[.int .i64 c, .int .i64 d] 69)).alloc (.cells #[.int .i64 0, .int .i64 0] 69)) = W at *
    generalize w.heap.size + 1 + 1 = G2 at *
    generalize w.heap.size + 1 = G1 at *
    refine (both20 a b c d W).mono ?_
    rintro e w1 ⟨rfl, hb1⟩
    rw [h]
    replace g0 := (hb1.block _ (lt_of_blk g0)).trans g0
    replace g1 := (hb1.block _ (lt_of_blk g1)).trans g1
    replace g2 := (hb1.block _ (lt_of_blk g2)).trans g2
    have y0 := cell_of_block g0 0
    have y1 := cell_of_block g0 1
    have z0 := cell_of_block g1 0
    have z1 := cell_of_block g1 1
    have x0 := cell_of_block g2 0
    have x1 := cell_of_block g2 1
    have f0 := free_of_block g2 0
    have f1 := free_of_block g2 1
    simp only [List.getElem?_toArray, List.getElem?_cons_zero, List.getElem?_cons_succ] at y0 y1 z0 z1 x0 x1
    replace hb := below_trans' hb hb.size hb1
    clear hb1
    go_wp2_with fail
    refine (made21 (a + c) (b + d) w1).mono ?_
    rintro e w2 ⟨rfl, hb1⟩
    rw [← E1.out]
    clear y0 y1 z0 z1 x0 x1 f0 f1
    replace g0 := (hb1.block _ (lt_of_blk g0)).trans g0
    replace g1 := (hb1.block _ (lt_of_blk g1)).trans g1
    replace g2 := (hb1.block _ (lt_of_blk g2)).trans g2
    have y0 := cell_of_block g0 0
    have y1 := cell_of_block g0 1
    have z0 := cell_of_block g1 0
    have z1 := cell_of_block g1 1
    have x0 := cell_of_block g2 0
    have x1 := cell_of_block g2 1
    have f0 := free_of_block g2 0
    have f1 := free_of_block g2 1
    simp only [List.getElem?_toArray, List.getElem?_cons_zero, List.getElem?_cons_succ] at y0 y1 z0 z1 x0 x1
    replace hb := below_trans' hb hb.size hb1
    clear hb1
    cases hr : addI a b c d with
    | none =>
      rw [show resV none = .tuple #[.agg #[.int .i64 0, .int .i64 0], .bool false] from rfl]
      go_wp2_with fail
      have k := block_set (block_set g2 0 (.int .i64 (0))) 1 (.int .i64 (0))
      have t0 := cell_of_block k 0
      have t1 := cell_of_block k 1
      simp only [List.getElem?_toArray, List.getElem?_cons_zero, List.getElem?_cons_succ, List.setIfInBounds_toArray, List.set_cons_zero, List.set_cons_succ] at t0 t1
      exact bodyPost_ret (v := resV none) (by simp [results, Tryd.results54, go_sem, t0, t1, resV]) rfl ⟨by rw [hr], (hb.setCell hw2 _).setCell hw2 _⟩
    | some p =>
      obtain ⟨lo, hi⟩ := p
      rw [show resV (some (lo, hi)) = .tuple #[.agg #[.int .i64 lo, .int .i64 hi], .bool true] from rfl]
      go_wp2_with fail
      have k := block_set (block_set g2 0 (.int .i64 (lo))) 1 (.int .i64 (hi))
      have t0 := cell_of_block k 0
      have t1 := cell_of_block k 1
      simp only [List.getElem?_toArray, List.getElem?_cons_zero, List.getElem?_cons_succ, List.setIfInBounds_toArray, List.set_cons_zero, List.set_cons_succ] at t0 t1
      exact bodyPost_ret (v := resV (some (lo, hi))) (by simp [results, Tryd.results54, go_sem, t0, t1, resV]) rfl ⟨by rw [hr], (hb.setCell hw2 _).setCell hw2 _⟩

set_option maxHeartbeats 1000000 in
theorem sub18 (a b c d : Int) (w : World) : Calls Tryd.prog 55 #[.agg #[.int .i64 a, .int .i64 b], .agg #[.int .i64 c, .int .i64 d]] w fun e w' => e = .returned (resV (subI a b c d)) ∧ Below w.heap.size w w' := by
  obtain ⟨hb, g0, g1, g2⟩ := allocs3 w (ivA a b) (ivA c d) #[.int .i64 0, .int .i64 0] 69 69 69
  unfold ivA at *
  have hw2 : w.heap.size ≤ w.heap.size + 1 + 1 := by omega
  cases h : (inI a b && inI c d) with
  | false =>
    have e1 : subI a b c d = none := by rw [subI, if_neg (by intro hh; rw [hh.1, hh.2] at h; cases h)]
    have E1 := Lib.hid e1
    clear e1
    go_enter Tryd.func55, Tryd.ntmps55
    go_wp2_with fail
    generalize (((w.alloc (.cells #[.int .i64 a, .int .i64 b] 69)).alloc (.cells #[.int .i64 c, .int .i64 d] 69)).alloc (.cells #[.int .i64 0, .int .i64 0] 69)) = W at *
    generalize w.heap.size + 1 + 1 = G2 at *
    generalize w.heap.size + 1 = G1 at *
    refine (both20 a b c d W).mono ?_
    rintro e w1 ⟨rfl, hb1⟩
    rw [h]
    replace g0 := (hb1.block _ (lt_of_blk g0)).trans g0
    replace g1 := (hb1.block _ (lt_of_blk g1)).trans g1
    replace g2 := (hb1.block _ (lt_of_blk g2)).trans g2
    have y0 := cell_of_block g0 0
    have y1 := cell_of_block g0 1
    have z0 := cell_of_block g1 0
    have z1 := cell_of_block g1 1
    have x0 := cell_of_block g2 0
    have x1 := cell_of_block g2 1
    have f0 := free_of_block g2 0
    have f1 := free_of_block g2 1
    simp only [List.getElem?_toArray, List.getElem?_cons_zero, List.getElem?_cons_succ] at y0 y1 z0 z1 x0 x1
    replace hb := below_trans' hb hb.size hb1
    clear hb1
    go_wp2_with fail
    have k := block_set (block_set g2 0 (.int .i64 0)) 1 (.int .i64 0)
    have t0 := cell_of_block k 0
    have t1 := cell_of_block k 1
    simp only [List.getElem?_toArray, List.getElem?_cons_zero, List.getElem?_cons_succ, List.setIfInBounds_toArray, List.set_cons_zero, List.set_cons_succ] at t0 t1
    exact bodyPost_ret (v := .tuple #[.agg #[.int .i64 0, .int .i64 0], .bool false]) (by simp [results, Tryd.results55, go_sem, t0, t1]) rfl ⟨by rw [E1.out]; rfl, (hb.setCell hw2 _).setCell hw2 _⟩
  | true =>
    have h12 : inI a b = true ∧ inI c d = true := by simpa using h
    have hi1 := inI_iff.1 h12.1
    have hi2 := inI_iff.1 h12.2
    have e1 : subI a b c d = mkI (a - d) (b - c) := by rw [subI, if_pos h12]
    have E1 := Lib.hid e1
    clear e1
    have H12 := Lib.hid h12
    clear h12
    go_enter Tryd.func55, Tryd.ntmps55
    go_wp2_with fail
    generalize (((w.alloc (.cells #[.int .i64 a, .int .i64 b] 69)).alloc (.cells #[.int .i64 c, .int .i64 d] 69)).alloc (.cells #[.int .i64 0, .int .i64 0] 69)) = W at *
    generalize w.heap.size + 1 + 1 = G2 at *
    generalize w.heap.size + 1 = G1 at *
    refine (both20 a b c d W).mono ?_
    rintro e w1 ⟨rfl, hb1⟩
    rw [h]
    replace g0 := (hb1.block _ (lt_of_blk g0)).trans g0
    replace g1 := (hb1.block _ (lt_of_blk g1)).trans g1
    replace g2 := (hb1.block _ (lt_of_blk g2)).trans g2
    have y0 := cell_of_block g0 0
    have y1 := cell_of_block g0 1
    have z0 := cell_of_block g1 0
    have z1 := cell_of_block g1 1
    have x0 := cell_of_block g2 0
    have x1 := cell_of_block g2 1
    have f0 := free_of_block g2 0
    have f1 := free_of_block g2 1
    simp only [List.getElem?_toArray, List.getElem?_cons_zero, List.getElem?_cons_succ] at y0 y1 z0 z1 x0 x1
    replace hb := below_trans' hb hb.size hb1
    clear hb1
    go_wp2_with fail
    refine (made21 (a - d) (b - c) w1).mono ?_
    rintro e w2 ⟨rfl, hb1⟩
    rw [← E1.out]
    clear y0 y1 z0 z1 x0 x1 f0 f1
    replace g0 := (hb1.block _ (lt_of_blk g0)).trans g0
    replace g1 := (hb1.block _ (lt_of_blk g1)).trans g1
    replace g2 := (hb1.block _ (lt_of_blk g2)).trans g2
    have y0 := cell_of_block g0 0
    have y1 := cell_of_block g0 1
    have z0 := cell_of_block g1 0
    have z1 := cell_of_block g1 1
    have x0 := cell_of_block g2 0
    have x1 := cell_of_block g2 1
    have f0 := free_of_block g2 0
    have f1 := free_of_block g2 1
    simp only [List.getElem?_toArray, List.getElem?_cons_zero, List.getElem?_cons_succ] at y0 y1 z0 z1 x0 x1
    replace hb := below_trans' hb hb.size hb1
    clear hb1
    cases hr : subI a b c d with
    | none =>
      rw [show resV none = .tuple #[.agg #[.int .i64 0, .int .i64 0], .bool false] from rfl]
      go_wp2_with fail
      have k := block_set (block_set g2 0 (.int .i64 (0))) 1 (.int .i64 (0))
      have t0 := cell_of_block k 0
      have t1 := cell_of_block k 1
      simp only [List.getElem?_toArray, List.getElem?_cons_zero, List.getElem?_cons_succ, List.setIfInBounds_toArray, List.set_cons_zero, List.set_cons_succ] at t0 t1
      exact bodyPost_ret (v := resV none) (by simp [results, Tryd.results55, go_sem, t0, t1, resV]) rfl ⟨by rw [hr], (hb.setCell hw2 _).setCell hw2 _⟩
    | some p =>
      obtain ⟨lo, hi⟩ := p
      rw [show resV (some (lo, hi)) = .tuple #[.agg #[.int .i64 lo, .int .i64 hi], .bool true] from rfl]
      go_wp2_with fail
      have k := block_set (block_set g2 0 (.int .i64 (lo))) 1 (.int .i64 (hi))
      have t0 := cell_of_block k 0
      have t1 := cell_of_block k 1
      simp only [List.getElem?_toArray, List.getElem?_cons_zero, List.getElem?_cons_succ, List.setIfInBounds_toArray, List.set_cons_zero, List.set_cons_succ] at t0 t1
      exact bodyPost_ret (v := resV (some (lo, hi))) (by simp [results, Tryd.results55, go_sem, t0, t1, resV]) rfl ⟨by rw [hr], (hb.setCell hw2 _).setCell hw2 _⟩


/-- A pair of ends and whether there is one. -/
def pairV : IR → Value
  | some (lo, hi) => .tuple #[.int .i64 lo, .int .i64 hi, .bool true]
  | none => .tuple #[.int .i64 0, .int .i64 0, .bool false]

theorem ends35 (neg more : Bool) (q : Int) (w : World) (h : 0 ≤ q ∧ q ≤ 4611686018427387904) : Calls Tryd.prog 135 #[.bool neg, .int .u64 q, .bool more] w fun e w' => e = .returned (.tuple #[.int .i64 (endsI neg q more).1, .int .i64 (endsI neg q more).2]) ∧ w = w' := by
  cases neg <;> cases more
  all_goals
    go_enter Tryd.func135, Tryd.ntmps135
    go_wp2_with fail
    go_ret2
    exact ⟨by simp [endsI], rfl⟩

/-- Ends that are in range. -/
theorem fit_ends {neg more : Bool} {q : Int} (h : 0 ≤ q) : fitI (some (endsI neg q more)) = if 2305843009213693952 < (if more = true then q + 1 else q) then none else some (endsI neg q more) := by
  cases neg <;> cases more <;> simp only [endsI, fitI, if_true, Bool.false_eq_true, if_false] <;> split <;> split <;> first | rfl | omega

theorem hilo_or {H L : Nat} (hH : H < 1073741824) (hL : L < 18446744073709551616) : bits .or .u64 ((H : Int) * 4294967296) ((L : Int) / 4294967296) = ((H * 4294967296 + L / 4294967296 : Nat) : Int) := by
  have h1 : H * 4294967296 < 18446744073709551616 := by omega
  have h2 : L / 4294967296 < 2 ^ 32 := by omega
  have h3 := Nat.shiftLeft_add_eq_or_of_lt h2 H
  rw [Nat.shiftLeft_eq, show (2 : Nat) ^ 32 = 4294967296 from rfl] at h3
  have h4 := bits_or_u64_nat (H * 4294967296) (L / 4294967296) h1 (by omega)
  rw [← h3] at h4
  rw [← h4]
  rfl

theorem absI_bd {x : Int} (h : -2305843009213693952 ≤ x ∧ x ≤ 2305843009213693952) : ∃ X : Nat, absI x = X ∧ X ≤ 2305843009213693952 := by
  refine ⟨(absI x).toNat, ?_, ?_⟩ <;> unfold absI <;> split <;> omega

theorem sgn_ne (x y : Int) : (decide (x < 0) != decide (y < 0)) = (decide (x < 0) != decide (y < 0)) := rfl

set_option maxRecDepth 100000 in
set_option maxHeartbeats 1000000 in
theorem product24 (x y : Int) (w : World) (hx : -2305843009213693952 ≤ x ∧ x ≤ 2305843009213693952) (hy : -2305843009213693952 ≤ y ∧ y ≤ 2305843009213693952) :
    Calls Tryd.prog 104 #[.int .i64 x, .int .i64 y] w fun e w' => e = .returned (pairV (prodI x y)) ∧ w = w' := by
  obtain ⟨X, eX, hX⟩ := absI_bd hx
  obtain ⟨Y, eY, hY⟩ := absI_bd hy
  have hN : X * Y ≤ 2305843009213693952 * 2305843009213693952 := Nat.mul_le_mul hX hY
  have hP : prodI x y = if 19807040628566084398385987584 ≤ ((X * Y : Nat) : Int) then none else some (endsI (decide (x < 0) != decide (y < 0)) (((X * Y : Nat) : Int) / 4294967296) (decide (0 < ((X * Y : Nat) : Int) % 4294967296))) := by
    rw [prodI, eX, eY, Int.natCast_mul]
  have hdm := Nat.div_add_mod (X * Y) 18446744073709551616
  have hml := Nat.mod_lt (X * Y) (show 0 < 18446744073709551616 by omega)
  have EX := Lib.hid eX
  have EY := Lib.hid eY
  generalize hn : X * Y = N at *
  generalize hh : N / 18446744073709551616 = H at *
  generalize hl : N % 18446744073709551616 = L at *
  have HN := Lib.hid hn
  have HH := Lib.hid hh
  have HL := Lib.hid hl
  clear hn hh hl eX eY
  by_cases hbig : 1073741824 ≤ H
  · have e1 : prodI x y = none := by rw [hP, if_pos (by omega)]
    have E1 := Lib.hid e1
    clear hP e1 hdm hN
    obtain ⟨h, eh⟩ : ∃ h : Int, (H : Int) = h := ⟨_, rfl⟩
    obtain ⟨l, el⟩ : ∃ h : Int, (L : Int) = h := ⟨_, rfl⟩
    have hb1 : 1073741824 ≤ h := by omega
    have EH := Lib.hid eh
    have EL := Lib.hid el
    clear eh el hbig hml
    go_enter Tryd.func104, Tryd.ntmps104
    go_wp2_with fail
    refine (abs34 x w (by omega)).mono ?_
    rintro e _ ⟨rfl, rfl⟩
    rw [EX.out]
    go_wp2_with fail
    refine (abs34 y w (by omega)).mono ?_
    rintro e _ ⟨rfl, rfl⟩
    rw [EY.out]
    go_wp2_with fail
    refine (Tryd.bits_Mul64 X Y (by omega) (by omega) w).mono ?_
    rintro e _ ⟨rfl, rfl⟩
    rw [HN.out, HH.out, HL.out, EH.out, EL.out]
    go_wp2_with fail
    go_ret3
    exact ⟨by rw [E1.out]; rfl, rfl⟩
  · have hor := hilo_or (H := H) (L := L) (by omega) hml
    have e1 : prodI x y = some (endsI (decide (x < 0) != decide (y < 0)) ((H * 4294967296 + L / 4294967296 : Nat) : Int) (decide (0 < (L : Int) % 4294967296))) := by
      have q1 : N / 4294967296 = H * 4294967296 + L / 4294967296 := by omega
      have q2 : N % 4294967296 = L % 4294967296 := by omega
      rw [hP, if_neg (by omega), show ((N : Int) / 4294967296) = ((N / 4294967296 : Nat) : Int) by omega, q1, show ((N : Int) % 4294967296) = ((N % 4294967296 : Nat) : Int) by omega, q2, show ((L % 4294967296 : Nat) : Int) = (L : Int) % 4294967296 by omega]
    have hq : (0 : Int) ≤ ((H * 4294967296 + L / 4294967296 : Nat) : Int) ∧ ((H * 4294967296 + L / 4294967296 : Nat) : Int) ≤ 4611686018427387904 := by omega
    generalize ((H * 4294967296 + L / 4294967296 : Nat) : Int) = Q at *
    obtain ⟨h, eh⟩ : ∃ h : Int, (H : Int) = h := ⟨_, rfl⟩
    obtain ⟨l, el⟩ : ∃ h : Int, (L : Int) = h := ⟨_, rfl⟩
    have hb1 : 0 ≤ h ∧ h < 1073741824 := by omega
    have hb2 : 0 ≤ l ∧ l < 18446744073709551616 := by omega
    rw [eh, el] at hor
    rw [el] at e1
    have E1 := Lib.hid e1
    have EH := Lib.hid eh
    have EL := Lib.hid el
    clear eh el hbig hml hP e1 hdm hN
    by_cases sx : x < 0 <;> by_cases sy : y < 0
    all_goals
      go_enter Tryd.func104, Tryd.ntmps104
      go_wp2_with fail
      refine (abs34 x w (by omega)).mono ?_
      rintro e _ ⟨rfl, rfl⟩
      rw [EX.out]
      go_wp2_with fail
      refine (abs34 y w (by omega)).mono ?_
      rintro e _ ⟨rfl, rfl⟩
      rw [EY.out]
      go_wp2_with fail
      refine (Tryd.bits_Mul64 X Y (by omega) (by omega) w).mono ?_
      rintro e _ ⟨rfl, rfl⟩
      rw [HN.out, HH.out, HL.out, EH.out, EL.out]
      go_wp2_with fail
      refine (ends35 _ _ Q _ hq).mono ?_
      rintro e _ ⟨rfl, rfl⟩
      go_wp2_with fail
      go_ret3
      exact ⟨by rw [E1.out]; first | (simp [pairV, sx, sy]; done) | (cases decide (x < 0) <;> cases decide (y < 0) <;> rfl), rfl⟩


/-- The figures of a quotient. -/
theorem quot_fig {X Y : Nat} : (Y ≤ X * 4294967296 / 18446744073709551616 ↔ Y * 18446744073709551616 ≤ X * 4294967296) := Nat.le_div_iff_mul_le (by omega)

set_option maxRecDepth 100000 in
set_option maxHeartbeats 1000000 in
theorem quotient32 (x y : Int) (w : World) (hx : -2305843009213693952 ≤ x ∧ x ≤ 2305843009213693952) (hy : -2305843009213693952 ≤ y ∧ y ≤ 2305843009213693952) (hy0 : y ≠ 0) :
    Calls Tryd.prog 105 #[.int .i64 x, .int .i64 y] w fun e w' => e = .returned (pairV (quotI x y)) ∧ ∃ m, w' = w.drewN m := by
  obtain ⟨X, eX, hX⟩ := absI_bd hx
  obtain ⟨Y, eY, hY⟩ := absI_bd hy
  have hY1 : 1 ≤ Y := by unfold absI at eY; split at eY <;> omega
  have hP : quotI x y = if ((Y * 18446744073709551616 : Nat) : Int) ≤ ((X * 4294967296 : Nat) : Int) then none else if 2305843009213693952 < ((X * 4294967296 / Y : Nat) : Int) then none else some (endsI (decide (x < 0) != decide (y < 0)) ((X * 4294967296 / Y : Nat) : Int) (decide (0 < ((X * 4294967296 % Y : Nat) : Int)))) := by
    rw [quotI, eX, eY, Int.natCast_ediv, Int.natCast_emod, Int.natCast_mul, Int.natCast_mul]; rfl
  have hfig := quot_fig (X := X) (Y := Y)
  have ax := fun w => abs34 x w (by omega)
  have ay := fun w => abs34 y w (by omega)
  rw [eX] at ax
  rw [eY] at ay
  have mu := fun w => Tryd.bits_Mul64 X 4294967296 (by omega) (by omega) w
  have hml := Nat.mod_lt (X * 4294967296) (show 0 < 18446744073709551616 by omega)
  have hdm := Nat.div_add_mod (X * 4294967296) 18446744073709551616
  have hmy := Nat.mod_lt (X * 4294967296) (show 0 < Y by omega)
  generalize hh : X * 4294967296 / 18446744073709551616 = H at *
  generalize hl : X * 4294967296 % 18446744073709551616 = L at *
  have AX := Lib.hid ax
  have AY := Lib.hid ay
  have MU := Lib.hid mu
  clear ax ay mu eX eY hh hl
  by_cases hbig : Y ≤ H
  · have e1 : quotI x y = none := by rw [hP, if_pos (by have := hfig.1 hbig; omega)]
    have E1 := Lib.hid e1
    clear hP e1 hfig hdm hmy hml
    go_enter Tryd.func105, Tryd.ntmps105
    go_wp2_with fail
    refine (AX.out w).mono ?_
    rintro e _ ⟨rfl, rfl⟩
    go_wp2_with fail
    refine (MU.out w).mono ?_
    rintro e w1 ⟨rfl, hw⟩
    cases hw
    go_wp2_with fail
    refine (AY.out w).mono ?_
    rintro e _ ⟨rfl, rfl⟩
    go_wp2_with fail
    go_ret3
    exact ⟨by rw [E1.out]; rfl, 0, rfl⟩
  · have dv := fun w => div88 H L Y w (by omega) (by omega) hml
    have e0 : H * 18446744073709551616 + L = X * 4294967296 := by omega
    rw [e0] at dv
    rw [if_neg (fun hc => hbig (hfig.2 (by omega)))] at hP
    generalize hq : X * 4294967296 / Y = q at *
    generalize hr : X * 4294967296 % Y = r at *
    have DV := Lib.hid dv
    clear dv e0 hfig hdm hml hmy hq hr
    by_cases hbq : 2305843009213693952 < (q : Int)
    · rw [if_pos hbq] at hP
      have E1 := Lib.hid hP
      clear hP
      go_enter Tryd.func105, Tryd.ntmps105
      go_wp2_with fail
      refine (AX.out w).mono ?_
      rintro e _ ⟨rfl, rfl⟩
      go_wp2_with fail
      refine (MU.out w).mono ?_
      rintro e w1 ⟨rfl, hw⟩
      cases hw
      go_wp2_with fail
      refine (AY.out w).mono ?_
      rintro e _ ⟨rfl, rfl⟩
      go_wp2_with fail
      refine (AY.out w).mono ?_
      rintro e _ ⟨rfl, rfl⟩
      go_wp2_with fail
      refine (DV.out w).mono ?_
      rintro e _ ⟨rfl, m, rfl⟩
      go_wp2_with fail
      go_ret3
      exact ⟨by rw [E1.out]; rfl, m, rfl⟩
    · rw [if_neg hbq] at hP
      obtain ⟨Q, eQ⟩ : ∃ Q : Int, (q : Int) = Q := ⟨_, rfl⟩
      obtain ⟨Rr, eR⟩ : ∃ Q : Int, (r : Int) = Q := ⟨_, rfl⟩
      have hq : 0 ≤ Q ∧ Q ≤ 4611686018427387904 := by omega
      have hq2 : ¬ 2305843009213693952 < Q := by omega
      rw [eQ, eR] at hP
      have E1 := Lib.hid hP
      have EQ := Lib.hid eQ
      have ER := Lib.hid eR
      clear hP eQ eR hbq
      by_cases sx : x < 0 <;> by_cases sy : y < 0
      all_goals
        go_enter Tryd.func105, Tryd.ntmps105
        go_wp2_with fail
        refine (AX.out w).mono ?_
        rintro e _ ⟨rfl, rfl⟩
        go_wp2_with fail
        refine (MU.out w).mono ?_
        rintro e w1 ⟨rfl, hw⟩
        cases hw
        go_wp2_with fail
        refine (AY.out w).mono ?_
        rintro e _ ⟨rfl, rfl⟩
        go_wp2_with fail
        refine (AY.out w).mono ?_
        rintro e _ ⟨rfl, rfl⟩
        go_wp2_with fail
        refine (DV.out w).mono ?_
        rintro e _ ⟨rfl, m, rfl⟩
        rw [EQ.out, ER.out]
        go_wp2_with fail
        refine (ends35 _ _ Q _ hq).mono ?_
        rintro e _ ⟨rfl, rfl⟩
        go_wp2_with fail
        go_ret3
        exact ⟨by rw [E1.out]; first | (simp [pairV, sx, sy]; done) | (cases decide (x < 0) <;> cases decide (y < 0) <;> rfl), m, rfl⟩

open Go.RowKit
end Go.Proofs.YtpligjkbnlfhgaaDoor
