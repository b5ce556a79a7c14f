/- Intervals, turned from other seats: what the operations compute; program and reference. No statement is proved here. -/
import Derived.Laws.Bits64b
import Derived.Lib.ItoaNum
import Derived.Test.YtpligjkbnlfhgaaGreatDoorFrE
import Derived.Deep.LoopGhost
import Derived.Deep.RegionHeld3
import Derived.Test.YtpligjkbnlfhgaaGreatDoorScB
import Derived.LoopN
import Derived.Test.YtpligjkbnlfhgaaGreatDoorPair
import Derived.Test.YtpligjkbnlfhgaaGreatDoorLate2
import Derived.Deep.DeepCutAuto
namespace Go.Proofs.YtpligjkbnlfhgaaGreatDoor
open Go.RowKit

/-- A valid interval. -/
def inI (lo hi : Int) : Bool := decide (-2305843009213693952 ≤ lo) && (decide (lo ≤ hi) && decide (hi ≤ 2305843009213693952))
theorem inI_iff {lo hi : Int} : inI lo hi = true ↔ -2305843009213693952 ≤ lo ∧ lo ≤ hi ∧ hi ≤ 2305843009213693952 := by simp [inI]

abbrev IR := Option (Int × Int)
def mkI (lo hi : Int) : IR := if inI lo hi = true then some (lo, hi) else none

def addI (a b c d : Int) : IR := if inI a b = true ∧ inI c d = true then mkI (a + c) (b + d) else none
def subI (a b c d : Int) : IR := if inI a b = true ∧ inI c d = true then mkI (a - d) (b - c) else none
def meetI (a b c d : Int) : IR := if inI a b = true ∧ inI c d = true then mkI (max a c) (min b d) else none
def hullI (a b c d : Int) : IR := if inI a b = true ∧ inI c d = true then some (min a c, max b d) else none

theorem hull_mk {a b c d : Int} (h1 : inI a b = true) (h2 : inI c d = true) : mkI (min a c) (max b d) = some (min a c, max b d) := by
  rw [inI_iff] at h1 h2
  rw [mkI, if_pos (inI_iff.2 (by omega))]

/-- A magnitude with a sign, rounded down and up. -/
def endsI (neg : Bool) (q : Int) (more : Bool) : Int × Int :=
  if neg = true then (-(if more = true then q + 1 else q), -q) else (q, if more = true then q + 1 else q)

/-- The product of two numbers of 32 binary places. -/
def absI (x : Int) : Int := if x < 0 then -x else x
def prodI (x y : Int) : IR := if 19807040628566084398385987584 ≤ absI x * absI y then none else some (endsI (decide (x < 0) != decide (y < 0)) (absI x * absI y / 4294967296) (decide (0 < absI x * absI y % 4294967296)))
def quotI (x y : Int) : IR := if absI y * 18446744073709551616 ≤ absI x * 4294967296 then none else
  if 2305843009213693952 < absI x * 4294967296 / absI y then none else some (endsI (decide (x < 0) != decide (y < 0)) (absI x * 4294967296 / absI y) (decide (0 < absI x * 4294967296 % absI y)))

/-- One that is in range. -/
def fitI (r : IR) : IR := match r with
  | some (lo, hi) => if -2305843009213693952 ≤ lo ∧ hi ≤ 2305843009213693952 then some (lo, hi) else none
  | none => none

/-- The hull of four results, from l and h on. -/
def hull4 (l h : Int) : List IR → IR
  | [] => some (l, h)
  | none :: _ => none
  | some (lo, hi) :: r => hull4 (min l lo) (max h hi) r

def corners (f : Int → Int → IR) (a b c d : Int) : List IR := [f a c, f a d, f b c, f b d]

theorem hull4_none {l h : Int} : ∀ {rs : List IR}, (∃ r ∈ rs, r = none) → hull4 l h rs = none
  | [], ⟨_, hm, _⟩ => by cases hm
  | none :: _, _ => rfl
  | some (lo, hi) :: r, ⟨x, hm, hx⟩ => by
    rw [hull4]
    refine hull4_none ⟨x, ?_, hx⟩
    rcases List.mem_cons.1 hm with rfl | hm
    · cases hx
    · exact hm

theorem hull4_bd {l h : Int} : ∀ {rs : List IR} {lo hi : Int}, hull4 l h rs = some (lo, hi) → lo ≤ l ∧ h ≤ hi ∧ ∀ p q, some (p, q) ∈ rs → lo ≤ p ∧ q ≤ hi
  | [], lo, hi, e => by
    simp only [hull4, Option.some.injEq, Prod.mk.injEq] at e
    exact ⟨by omega, by omega, fun _ _ hm => by cases hm⟩
  | none :: _, _, _, e => by simp [hull4] at e
  | some (a, b) :: r, lo, hi, e => by
    rw [hull4] at e
    obtain ⟨h1, h2, h3⟩ := hull4_bd e
    refine ⟨by omega, by omega, fun p q hm => ?_⟩
    rcases List.mem_cons.1 hm with e2 | hm
    · simp only [Option.some.injEq, Prod.mk.injEq] at e2
      omega
    · exact h3 p q hm

/-- The program makes an interval of the hull, the reference tests each end: the same. -/
theorem hull4_fit : ∀ (rs : List IR) (l h l' h' : Int), (∀ p q, some (p, q) ∈ rs → p ≤ q) →
    (l = l' ∧ h = h' ∧ l ≤ 2305843009213693952 ∧ -2305843009213693952 ≤ h ∧ -2305843009213693952 ≤ l ∧ h ≤ 2305843009213693952 ∧ l ≤ h ∨
      rs ≠ [] ∧ l = 2305843009213693953 ∧ h = -2305843009213693953 ∧ l' = 2305843009213693952 ∧ h' = -2305843009213693952) →
    (hull4 l h rs).bind (fun p => mkI p.1 p.2) = hull4 l' h' (rs.map fitI)
  | [], l, h, l', h', _, hi => by
    rcases hi with ⟨rfl, rfl, h1, h2, h3, h4, h5⟩ | ⟨h0, _⟩
    · simp only [hull4, List.map_nil, Option.bind_some]
      rw [mkI, if_pos (inI_iff.2 (by omega))]
    · exact absurd rfl h0
  | none :: r, l, h, l', h', _, _ => by simp [hull4, fitI]
  | some (a, b) :: r, l, h, l', h', hle, hi => by
    have hab := hle a b (by simp)
    by_cases hf : -2305843009213693952 ≤ a ∧ b ≤ 2305843009213693952
    · have e : fitI (some (a, b)) = some (a, b) := by simp only [fitI, if_pos hf]
      rw [List.map_cons, e, hull4, hull4]
      refine hull4_fit r _ _ _ _ (fun p q hm => hle p q (by simp [hm])) (.inl ?_)
      rcases hi with ⟨rfl, rfl, h1, h2, h3, h4, h5⟩ | ⟨_, rfl, rfl, rfl, rfl⟩ <;> omega
    · have e : fitI (some (a, b)) = none := by simp only [fitI, if_neg hf]
      rw [List.map_cons, e, hull4, hull4]
      cases hh : hull4 (min l a) (max h b) r with
      | none => rfl
      | some p =>
        obtain ⟨lo, hi'⟩ := p
        obtain ⟨h1, h2, _⟩ := hull4_bd hh
        simp only [Option.bind_some]
        rw [mkI, if_neg (fun hc => hf (by have := inI_iff.1 hc; omega))]

def mulI (a b c d : Int) : IR := if inI a b = true ∧ inI c d = true then hull4 2305843009213693952 (-2305843009213693952) ((corners prodI a b c d).map fitI) else none
def divI (a b c d : Int) : IR := if inI a b = true ∧ inI c d = true then (if c ≤ 0 ∧ 0 ≤ d then none else hull4 2305843009213693952 (-2305843009213693952) ((corners quotI a b c d).map fitI)) else none

theorem endsI_le (neg : Bool) (q : Int) (more : Bool) : (endsI neg q more).1 ≤ (endsI neg q more).2 := by
  unfold endsI
  cases neg <;> cases more <;> simp <;> omega
theorem prodI_le {x y p q : Int} (h : prodI x y = some (p, q)) : p ≤ q := by
  unfold prodI at h
  split at h
  · cases h
  · injection h with h
    have := endsI_le (decide (x < 0) != decide (y < 0)) (absI x * absI y / 4294967296) (decide (0 < absI x * absI y % 4294967296))
    rw [h] at this
    exact this
theorem quotI_le {x y p q : Int} (h : quotI x y = some (p, q)) : p ≤ q := by
  unfold quotI at h
  split at h
  · cases h
  · split at h
    · cases h
    · injection h with h
      have := endsI_le (decide (x < 0) != decide (y < 0)) (absI x * 4294967296 / absI y) (decide (0 < absI x * 4294967296 % absI y))
      rw [h] at this
      exact this

/-- The greatest number whose square is at most n. -/
def sqI (n r : Int) : Prop := 0 ≤ r ∧ r * r ≤ n ∧ n < (r + 1) * (r + 1)

theorem sqI_uniq {n r s : Int} (h : sqI n r) (k : sqI n s) : r = s := by
  obtain ⟨h0, h1, h2⟩ := h
  obtain ⟨k0, k1, k2⟩ := k
  rcases Int.lt_trichotomy r s with c | c | c
  · have := Int.mul_le_mul (show r + 1 ≤ s by omega) (show r + 1 ≤ s by omega) (by omega) (by omega)
    omega
  · exact c
  · have := Int.mul_le_mul (show s + 1 ≤ r by omega) (show s + 1 ≤ r by omega) (by omega) (by omega)
    omega

/-- The root by its binary places, from place k on. -/
def rootB (n : Int) : Nat → Int → Int
  | 0, r => r
  | k + 1, r => rootB n k (if (r + (2 : Int) ^ k) * (r + (2 : Int) ^ k) ≤ n then r + (2 : Int) ^ k else r)
theorem pow2_pos (k : Nat) : (1 : Int) ≤ (2 : Int) ^ k := by have := Nat.one_le_two_pow (n := k); exact_mod_cast this
theorem rootB_sq {n : Int} : ∀ (k : Nat) (r : Int), 0 ≤ r → r * r ≤ n → n < (r + (2 : Int) ^ k) * (r + (2 : Int) ^ k) → sqI n (rootB n k r) ∧ r ≤ rootB n k r ∧ rootB n k r < r + (2 : Int) ^ k
  | 0, r, h0, h1, h2 => by simp only [rootB, Int.pow_zero] at *; exact ⟨⟨h0, h1, h2⟩, by omega, by omega⟩
  | k + 1, r, h0, h1, h2 => by
    have hp := pow2_pos k
    have e : (2 : Int) ^ (k + 1) = (2 : Int) ^ k + (2 : Int) ^ k := by rw [Int.pow_succ]; omega
    rw [e] at h2 ⊢
    rw [rootB]
    by_cases h : (r + (2 : Int) ^ k) * (r + (2 : Int) ^ k) ≤ n
    · rw [if_pos h]
      obtain ⟨a, b, c⟩ := rootB_sq k (r + (2 : Int) ^ k) (by omega) h (by rw [Int.add_assoc]; exact h2)
      exact ⟨a, by omega, by omega⟩
    · rw [if_neg h]
      obtain ⟨a, b, c⟩ := rootB_sq k r h0 h1 (by omega)
      exact ⟨a, b, by omega⟩

/-- The root of n / One in parts of One, rounded down. -/
def rootI (n : Int) : Int := rootB (n * 4294967296) 48 0
theorem rootI_sq {n : Int} (h0 : 0 ≤ n) (h1 : n ≤ 2305843009213693952) : sqI (n * 4294967296) (rootI n) ∧ 0 ≤ rootI n ∧ rootI n < 281474976710656 := by
  have e : (2 : Int) ^ 48 = 281474976710656 := by decide
  obtain ⟨a, b, c⟩ := rootB_sq (n := n * 4294967296) 48 0 (by omega) (by omega) (by rw [e]; omega)
  rw [e] at c
  exact ⟨a, b, by unfold rootI; omega⟩
def sqrtI (a b : Int) : IR := if inI a b = true ∧ 0 ≤ a then some (rootI a, if rootI b * rootI b = b * 4294967296 then rootI b else rootI b + 1) else none


abbrev ivA (lo hi : Int) : Array Value := #[.int .i64 lo, .int .i64 hi]
/-- A result: the interval and true, or the zero interval and false. -/
def resV : IR → Value
  | some (lo, hi) => .tuple #[.agg #[.int .i64 lo, .int .i64 hi], .bool true]
  | none => .tuple #[.agg #[.int .i64 0, .int .i64 0], .bool false]

theorem valid15 (lo hi : Int) (w : World) : Calls Tryz.prog 79 #[.agg #[.int .i64 lo, .int .i64 hi]] w fun e w' => e = .returned (.bool (inI lo hi)) ∧ Below w.heap.size w w' := by
  have hb : Below w.heap.size w (w.alloc (.cells #[.int .i64 lo, .int .i64 hi] 36)) := (Below.refl _ _).alloc (Nat.le_refl _) _
  by_cases h1 : -2305843009213693952 ≤ lo
  · by_cases h2 : lo ≤ hi
    all_goals
      go_enter Tryz.func79, Tryz.ntmps79
      go_wp2_with fail
      go_ret
      exact ⟨ret_bool (by first | (simp [inI, h1, h2]; done) | (simp [inI]; intros; omega)), hb⟩
  · go_enter Tryz.func79, Tryz.ntmps79
    go_wp2_with fail
    go_ret
    exact ⟨ret_bool (by simp [inI]; try (intros; omega)), hb⟩

theorem valid16 (lo hi : Int) (w : World) : Calls Tryz.prog 81 #[.agg #[.int .i64 lo, .int .i64 hi]] w fun e w' => e = .returned (.bool (inI lo hi)) ∧ Below w.heap.size w w' := by
  have hb : Below w.heap.size w (w.alloc (.cells #[.int .i64 lo, .int .i64 hi] 36)) := (Below.refl _ _).alloc (Nat.le_refl _) _
  by_cases h1 : -2305843009213693952 ≤ lo
  · by_cases h2 : lo ≤ hi
    all_goals
      go_enter Tryz.func81, Tryz.ntmps81
      go_wp2_with fail
      go_ret
      exact ⟨ret_bool (by first | (simp [inI, h1, h2]; done) | (simp [inI]; intros; omega)), hb⟩
  · go_enter Tryz.func81, Tryz.ntmps81
    go_wp2_with fail
    go_ret
    exact ⟨ret_bool (by simp [inI]; try (intros; omega)), hb⟩

theorem both20 (a b c d : Int) (w : World) : Calls Tryz.prog 76 #[.agg #[.int .i64 a, .int .i64 b], .agg #[.int .i64 c, .int .i64 d]] w fun e w' => e = .returned (.bool (inI a b && inI c d)) ∧ Below w.heap.size w w' := by
  obtain ⟨hb, g0, g1⟩ := allocs2 w (ivA a b) (ivA c d) 36 36
  unfold ivA at *
  cases h : inI a b
  all_goals
    go_enter Tryz.func76, Tryz.ntmps76
    go_wp2_with fail
    generalize ((w.alloc (.cells #[.int .i64 a, .int .i64 b] 36)).alloc (.cells #[.int .i64 c, .int .i64 d] 36)) = W at *
    refine (valid15 a b W).mono ?_
    rintro e w1 ⟨rfl, hb1⟩
    rw [h]
    replace g1 := (hb1.block _ (lt_of_blk g1)).trans g1
    have y0 := cell_of_block g1 0
    have y1 := cell_of_block g1 1
    simp only [List.getElem?_toArray, List.getElem?_cons_zero, List.getElem?_cons_succ] at y0 y1
    replace hb := below_trans' hb hb.size hb1
    clear hb1 g0 g1
    go_wp2_with fail
  · go_ret
    exact ⟨rfl, hb⟩
  · refine (valid15 c d w1).mono ?_
    rintro e w2 ⟨rfl, hb2⟩
    go_wp2_with fail
    go_ret
    exact ⟨ret_bool (by simp), below_trans' hb hb.size hb2⟩

theorem abs34 (x : Int) (w : World) (h : -9223372036854775808 ≤ x ∧ x ≤ 9223372036854775807) : Calls Tryz.prog 114 #[.int .i64 x] w fun e w' => e = .returned (.int .u64 (absI x)) ∧ w = w' := by
  by_cases h1 : x < 0
  · have e1 : IntKind.u64.wrap (-IntKind.u64.wrap x) = -x := by rw [IntKind.wrap_u64, IntKind.wrap_u64]; omega
    have E1 := Lib.hid e1
    clear e1
    go_enter Tryz.func114, Tryz.ntmps114
    go_wp2_with fail
    go_ret
    exact ⟨ret_int (by rw [absI, if_pos h1]; exact E1.out), rfl⟩
  · go_enter Tryz.func114, Tryz.ntmps114
    go_wp2_with fail
    go_ret
    exact ⟨ret_int (by unfold absI; split <;> omega), rfl⟩
theorem made21 (lo hi : Int) (w : World) : Calls Tryz.prog 75 #[.int .i64 lo, .int .i64 hi] w fun e w' => e = .returned (resV (mkI lo hi)) ∧ Below w.heap.size w w' := by
  obtain ⟨hb, g0, g1⟩ := allocs2 w #[.int .i64 0, .int .i64 0] (ivA lo hi) 36 36
  unfold ivA at *
  have hw : w.heap.size ≤ w.heap.size := Nat.le_refl _
  cases h : inI lo hi
  all_goals
    have e1 : mkI lo hi = if inI lo hi = true then some (lo, hi) else none := rfl
    rw [h] at e1
    have E1 := Lib.hid e1
    clear e1
    go_enter Tryz.func75, Tryz.ntmps75
    go_wp2_with fail
    generalize ((w.alloc (.cells #[.int .i64 0, .int .i64 0] 36)).alloc (.cells #[.int .i64 lo, .int .i64 hi] 36)) = W at *
    refine (valid15 lo hi W).mono ?_
    rintro e w1 ⟨rfl, hb1⟩
    rw [h]
    replace g0 := (hb1.block _ (lt_of_blk g0)).trans g0
    replace g1 := (hb1.block _ (lt_of_blk g1)).trans g1
    have y0 := cell_of_block g1 0
    have y1 := cell_of_block g1 1
    have x0 := cell_of_block g0 0
    have x1 := cell_of_block g0 1
    have f0 := free_of_block g0 0
    have f1 := free_of_block g0 1
    simp only [List.getElem?_toArray, List.getElem?_cons_zero, List.getElem?_cons_succ] at y0 y1 x0 x1
    replace hb := below_trans' hb hb.size hb1
    clear hb1 g1
    go_wp2_with fail
  · have k := block_set (block_set g0 0 (.int .i64 0)) 1 (.int .i64 0)
    have t0 := cell_of_block k 0
    have t1 := cell_of_block k 1
    simp only [List.getElem?_toArray, List.getElem?_cons_zero, List.getElem?_cons_succ, List.setIfInBounds_toArray, List.set_cons_zero, List.set_cons_succ] at t0 t1
    exact bodyPost_ret (v := .tuple #[.agg #[.int .i64 0, .int .i64 0], .bool false]) (by simp [results, Tryz.results75, go_sem, t0, t1]) rfl ⟨by rw [E1.out]; rfl, (hb.setCell hw _).setCell hw _⟩
  · have k := block_set (block_set g0 0 (.int .i64 lo)) 1 (.int .i64 hi)
    have t0 := cell_of_block k 0
    have t1 := cell_of_block k 1
    simp only [List.getElem?_toArray, List.getElem?_cons_zero, List.getElem?_cons_succ, List.setIfInBounds_toArray, List.set_cons_zero, List.set_cons_succ] at t0 t1
    exact bodyPost_ret (v := .tuple #[.agg #[.int .i64 lo, .int .i64 hi], .bool true]) (by simp [results, Tryz.results75, go_sem, t0, t1]) rfl ⟨by rw [E1.out]; rfl, (hb.setCell hw _).setCell hw _⟩


set_option maxHeartbeats 1000000 in
theorem add17 (a b c d : Int) (w : World) : Calls Tryz.prog 43 #[.agg #[.int .i64 a, .int .i64 b], .agg #[.int .i64 c, .int .i64 d]] w fun e w' => e = .returned (resV (addI a b c d)) ∧ Below w.heap.size w w' := by
  obtain ⟨hb, g0, g1, g2⟩ := allocs3 w (ivA a b) (ivA c d) #[.int .i64 0, .int .i64 0] 36 36 36
  unfold ivA at *
  have hw2 : w.heap.size ≤ w.heap.size + 1 + 1 := by omega
  cases h : (inI a b && inI c d) with
  | false =>
    have e1 : addI a b c d = none := by rw [addI, if_neg (by intro hh; rw [hh.1, hh.2] at h; cases h)]
    have E1 := Lib.hid e1
    clear e1
    go_enter Tryz.func43, Tryz.ntmps43
    go_wp2_with fail
    generalize (((w.alloc (.cells #[.int .i64 a, .int .i64 b] 36)).alloc (.cells #[.int .i64 c, .int .i64 d] 36)).alloc (.cells #[.int .i64 0, .int .i64 0] 36)) = W at *
    generalize w.heap.size + 1 + 1 = G2 at *
    generalize w.heap.size + 1 = G1 at *
    refine (both20 a b c d W).mono ?_
    rintro e w1 ⟨rfl, hb1⟩
    rw [h]
    replace g0 := (hb1.block _ (lt_of_blk g0)).trans g0
    replace g1 := (hb1.block _ (lt_of_blk g1)).trans g1
    replace g2 := (hb1.block _ (lt_of_blk g2)).trans g2
    have y0 := cell_of_block g0 0
    have y1 := cell_of_block g0 1
    have z0 := cell_of_block g1 0
    have z1 := cell_of_block g1 1
    have x0 := cell_of_block g2 0
    have x1 := cell_of_block g2 1
    have f0 := free_of_block g2 0
    have f1 := free_of_block g2 1
    simp only [List.getElem?_toArray, List.getElem?_cons_zero, List.getElem?_cons_succ] at y0 y1 z0 z1 x0 x1
    replace hb := below_trans' hb hb.size hb1
    clear hb1
    go_wp2_with fail
    have k := block_set (block_set g2 0 (.int .i64 0)) 1 (.int .i64 0)
    have t0 := cell_of_block k 0
    have t1 := cell_of_block k 1
    simp only [List.getElem?_toArray, List.getElem?_cons_zero, List.getElem?_cons_succ, List.setIfInBounds_toArray, List.set_cons_zero, List.set_cons_succ] at t0 t1
    exact bodyPost_ret (v := .tuple #[.agg #[.int .i64 0, .int .i64 0], .bool false]) (by simp [results, Tryz.results43, go_sem, t0, t1]) rfl ⟨by rw [E1.out]; rfl, (hb.setCell hw2 _).setCell hw2 _⟩
  | true =>
    have h12 : inI a b = true ∧ inI c d = true := by simpa using h
    have hi1 := inI_iff.1 h12.1
    have hi2 := inI_iff.1 h12.2
    have e1 : addI a b c d = mkI (a + c) (b + d) := by rw [addI, if_pos h12]
    have E1 := Lib.hid e1
    clear e1
    have H12 := Lib.hid h12
    clear h12
    go_enter Tryz.func43, Tryz.ntmps43
    go_wp2_with fail
    generalize (((w.alloc (.cells #[.int .i64 a, .int .i64 b] 36)).alloc (.cells #[.int .i64 c, .int .i64 d] 36)).alloc (.cells #[.int .i64 0, .int .i64 0] 36)) = W at *
    generalize w.heap.size + 1 + 1 = G2 at *
    generalize w.heap.size + 1 = G1 at *
    refine (both20 a b c d W).mono ?_
    rintro e w1 ⟨rfl, hb1⟩
    rw [h]
    replace g0 := (hb1.block _ (lt_of_blk g0)).trans g0
    replace g1 := (hb1.block _ (lt_of_blk g1)).trans g1
    replace g2 := (hb1.block _ (lt_of_blk g2)).trans g2
    have y0 := cell_of_block g0 0
    have y1 := cell_of_block g0 1
    have z0 := cell_of_block g1 0
    have z1 := cell_of_block g1 1
    have x0 := cell_of_block g2 0
    have x1 := cell_of_block g2 1
    have f0 := free_of_block g2 0
    have f1 := free_of_block g2 1
    simp only [List.getElem?_toArray, List.getElem?_cons_zero, List.getElem?_cons_succ] at y0 y1 z0 z1 x0 x1
    replace hb := below_trans' hb hb.size hb1
    clear hb1
    go_wp2_with fail
    refine (made21 (a + c) (b + d) w1).mono ?_
    rintro e w2 ⟨rfl, hb1⟩
    rw [← E1.out]
    clear y0 y1 z0 z1 x0 x1 f0 f1
    replace g0 := (hb1.block _ (lt_of_blk g0)).trans g0
    replace g1 := (hb1.block _ (lt_of_blk g1)).trans g1
    replace g2 := (hb1.block _ (lt_of_blk g2)).trans g2
    have y0 := cell_of_block g0 0
    have y1 := cell_of_block g0 1
    have z0 := cell_of_block g1 0
    have z1 := cell_of_block g1 1
    have x0 := cell_of_block g2 0
    have x1 := cell_of_block g2 1
    have f0 := free_of_block g2 0
    have f1 := free_of_block g2 1
    simp only [List.getElem?_toArray, List.getElem?_cons_zero, List.getElem?_cons_succ] at y0 y1 z0 z1 x0 x1
    replace hb := below_trans' hb hb.size hb1
    clear hb1
    cases hr : addI a b c d with
    | none =>
      rw [show resV none = .tuple #[.agg #[.int .i64 0, .int .i64 0], .bool false] from rfl]
      go_wp2_with fail
      have k := block_set (block_set g2 0 (.int .i64 (0))) 1 (.int .i64 (0))
      have t0 := cell_of_block k 0
      have t1 := cell_of_block k 1
      simp only [List.getElem?_toArray, List.getElem?_cons_zero, List.getElem?_cons_succ, List.setIfInBounds_toArray, List.set_cons_zero, List.set_cons_succ] at t0 t1
      exact bodyPost_ret (v := resV none) (by simp [results, Tryz.results43, go_sem, t0, t1, resV]) rfl ⟨by rw [hr], (hb.setCell hw2 _).setCell hw2 _⟩
    | some p =>
      obtain ⟨lo, hi⟩ := p
      rw [show resV (some (lo, hi)) = .tuple #[.agg #[.int .i64 lo, .int .i64 hi], .bool true] from rfl]
      go_wp2_with fail
      have k := block_set (block_set g2 0 (.int .i64 (lo))) 1 (.int .i64 (hi))
      have t0 := cell_of_block k 0
      have t1 := cell_of_block k 1
      simp only [List.getElem?_toArray, List.getElem?_cons_zero, List.getElem?_cons_succ, List.setIfInBounds_toArray, List.set_cons_zero, List.set_cons_succ] at t0 t1
      exact bodyPost_ret (v := resV (some (lo, hi))) (by simp [results, Tryz.results43, go_sem, t0, t1, resV]) rfl ⟨by rw [hr], (hb.setCell hw2 _).setCell hw2 _⟩

set_option maxHeartbeats 1000000 in
theorem sub18 (a b c d : Int) (w : World) : Calls Tryz.prog 42 #[.agg #[.int .i64 a, .int .i64 b], .agg #[.int .i64 c, .int .i64 d]] w fun e w' => e = .returned (resV (subI a b c d)) ∧ Below w.heap.size w w' := by
  obtain ⟨hb, g0, g1, g2⟩ := allocs3 w (ivA a b) (ivA c d) #[.int .i64 0, .int .i64 0] 36 36 36
  unfold ivA at *
  have hw2 : w.heap.size ≤ w.heap.size + 1 + 1 := by omega
  cases h : (inI a b && inI c d) with
  | false =>
    have e1 : subI a b c d = none := by rw [subI, if_neg (by intro hh; rw [hh.1, hh.2] at h; cases h)]
    have E1 := Lib.hid e1
    clear e1
    go_enter Tryz.func42, Tryz.ntmps42
    go_wp2_with fail
    generalize (((w.alloc (.cells #[.int .i64 a, .int .i64 b] 36)).alloc (.cells #[.int .i64 c, .int .i64 d] 36)).alloc (.cells #[.int .i64 0, .int .i64 0] 36)) = W at *
    generalize w.heap.size + 1 + 1 = G2 at *
    generalize w.heap.size + 1 = G1 at *
    refine (both20 a b c d W).mono ?_
    rintro e w1 ⟨rfl, hb1⟩
    rw [h]
    replace g0 := (hb1.block _ (lt_of_blk g0)).trans g0
    replace g1 := (hb1.block _ (lt_of_blk g1)).trans g1
    replace g2 := (hb1.block _ (lt_of_blk g2)).trans g2
    have y0 := cell_of_block g0 0
    have y1 := cell_of_block g0 1
    have z0 := cell_of_block g1 0
    have z1 := cell_of_block g1 1
    have x0 := cell_of_block g2 0
    have x1 := cell_of_block g2 1
    have f0 := free_of_block g2 0
    have f1 := free_of_block g2 1
    simp only [List.getElem?_toArray, List.getElem?_cons_zero, List.getElem?_cons_succ] at y0 y1 z0 z1 x0 x1
    replace hb := below_trans' hb hb.size hb1
    clear hb1
    go_wp2_with fail
    have k := block_set (block_set g2 0 (.int .i64 0)) 1 (.int .i64 0)
    have t0 := cell_of_block k 0
    have t1 := cell_of_block k 1
    simp only [List.getElem?_toArray, List.getElem?_cons_zero, List.getElem?_cons_succ, List.setIfInBounds_toArray, List.set_cons_zero, List.set_cons_succ] at t0 t1
    exact bodyPost_ret (v := .tuple #[.agg #[.int .i64 0, .int .i64 0], .bool false]) (by simp [results, Tryz.results42, go_sem, t0, t1]) rfl ⟨by rw [E1.out]; rfl, (hb.setCell hw2 _).setCell hw2 _⟩
  | true =>
    have h12 : inI a b = true ∧ inI c d = true := by simpa using h
    have hi1 := inI_iff.1 h12.1
    have hi2 := inI_iff.1 h12.2
    have e1 : subI a b c d = mkI (a - d) (b - c) := by rw [subI, if_pos h12]
    have E1 := Lib.hid e1
    clear e1
    have H12 := Lib.hid h12
    clear h12
    go_enter Tryz.func42, Tryz.ntmps42
    go_wp2_with fail
    generalize (((w.alloc (.cells #[.int .i64 a, .int .i64 b] 36)).alloc (.cells #[.int .i64 c, .int .i64 d] 36)).alloc (.cells #[.int .i64 0, .int .i64 0] 36)) = W at *
    generalize w.heap.size + 1 + 1 = G2 at *
    generalize w.heap.size + 1 = G1 at *
    refine (both20 a b c d W).mono ?_
    rintro e w1 ⟨rfl, hb1⟩
    rw [h]
    replace g0 := (hb1.block _ (lt_of_blk g0)).trans g0
    replace g1 := (hb1.block _ (lt_of_blk g1)).trans g1
    replace g2 := (hb1.block _ (lt_of_blk g2)).trans g2
    have y0 := cell_of_block g0 0
    have y1 := cell_of_block g0 1
    have z0 := cell_of_block g1 0
    have z1 := cell_of_block g1 1
    have x0 := cell_of_block g2 0
    have x1 := cell_of_block g2 1
    have f0 := free_of_block g2 0
    have f1 := free_of_block g2 1
    simp only [List.getElem?_toArray, List.getElem?_cons_zero, List.getElem?_cons_succ] at y0 y1 z0 z1 x0 x1
    replace hb := below_trans' hb hb.size hb1
    clear hb1
    go_wp2_with fail
    refine (made21 (a - d) (b - c) w1).mono ?_
    rintro e w2 ⟨rfl, hb1⟩
    rw [← E1.out]
    clear y0 y1 z0 z1 x0 x1 f0 f1
    replace g0 := (hb1.block _ (lt_of_blk g0)).trans g0
    replace g1 := (hb1.block _ (lt_of_blk g1)).trans g1
    replace g2 := (hb1.block _ (lt_of_blk g2)).trans g2
    have y0 := cell_of_block g0 0
    have y1 := cell_of_block g0 1
    have z0 := cell_of_block g1 0
    have z1 := cell_of_block g1 1
    have x0 := cell_of_block g2 0
    have x1 := cell_of_block g2 1
    have f0 := free_of_block g2 0
    have f1 := free_of_block g2 1
    simp only [List.getElem?_toArray, List.getElem?_cons_zero, List.getElem?_cons_succ] at y0 y1 z0 z1 x0 x1
    replace hb := below_trans' hb hb.size hb1
    clear hb1
    cases hr : subI a b c d with
    | none =>
      rw [show resV none = .tuple #[.agg #[.int .i64 0, .int .i64 0], .bool false] from rfl]
      go_wp2_with fail
      have k := block_set (block_set g2 0 (.int .i64 (0))) 1 (.int .i64 (0))
      have t0 := cell_of_block k 0
      have t1 := cell_of_block k 1
      simp only [List.getElem?_toArray, List.getElem?_cons_zero, List.getElem?_cons_succ, List.setIfInBounds_toArray, List.set_cons_zero, List.set_cons_succ] at t0 t1
      exact bodyPost_ret (v := resV none) (by simp [results, Tryz.results42, go_sem, t0, t1, resV]) rfl ⟨by rw [hr], (hb.setCell hw2 _).setCell hw2 _⟩
    | some p =>
      obtain ⟨lo, hi⟩ := p
      rw [show resV (some (lo, hi)) = .tuple #[.agg #[.int .i64 lo, .int .i64 hi], .bool true] from rfl]
      go_wp2_with fail
      have k := block_set (block_set g2 0 (.int .i64 (lo))) 1 (.int .i64 (hi))
      have t0 := cell_of_block k 0
      have t1 := cell_of_block k 1
      simp only [List.getElem?_toArray, List.getElem?_cons_zero, List.getElem?_cons_succ, List.setIfInBounds_toArray, List.set_cons_zero, List.set_cons_succ] at t0 t1
      exact bodyPost_ret (v := resV (some (lo, hi))) (by simp [results, Tryz.results42, go_sem, t0, t1, resV]) rfl ⟨by rw [hr], (hb.setCell hw2 _).setCell hw2 _⟩


/-- A pair of ends and whether there is one. -/
def pairV : IR → Value
  | some (lo, hi) => .tuple #[.int .i64 lo, .int .i64 hi, .bool true]
  | none => .tuple #[.int .i64 0, .int .i64 0, .bool false]

theorem ends35 (neg more : Bool) (q : Int) (w : World) (h : 0 ≤ q ∧ q ≤ 4611686018427387904) : Calls Tryz.prog 115 #[.bool neg, .int .u64 q, .bool more] w fun e w' => e = .returned (.tuple #[.int .i64 (endsI neg q more).1, .int .i64 (endsI neg q more).2]) ∧ w = w' := by
  cases neg <;> cases more
  all_goals
    go_enter Tryz.func115, Tryz.ntmps115
    go_wp2_with fail
    go_ret2
    exact ⟨by simp [endsI], rfl⟩

/-- Ends that are in range. -/
theorem fit_ends {neg more : Bool} {q : Int} (h : 0 ≤ q) : fitI (some (endsI neg q more)) = if 2305843009213693952 < (if more = true then q + 1 else q) then none else some (endsI neg q more) := by
  cases neg <;> cases more <;> simp only [endsI, fitI, if_true, Bool.false_eq_true, if_false] <;> split <;> split <;> first | rfl | omega

theorem hilo_or {H L : Nat} (hH : H < 1073741824) (hL : L < 18446744073709551616) : bits .or .u64 ((H : Int) * 4294967296) ((L : Int) / 4294967296) = ((H * 4294967296 + L / 4294967296 : Nat) : Int) := by
  have h1 : H * 4294967296 < 18446744073709551616 := by omega
  have h2 : L / 4294967296 < 2 ^ 32 := by omega
  have h3 := Nat.shiftLeft_add_eq_or_of_lt h2 H
  rw [Nat.shiftLeft_eq, show (2 : Nat) ^ 32 = 4294967296 from rfl] at h3
  have h4 := bits_or_u64_nat (H * 4294967296) (L / 4294967296) h1 (by omega)
  rw [← h3] at h4
  rw [← h4]
  rfl

theorem absI_bd {x : Int} (h : -2305843009213693952 ≤ x ∧ x ≤ 2305843009213693952) : ∃ X : Nat, absI x = X ∧ X ≤ 2305843009213693952 := by
  refine ⟨(absI x).toNat, ?_, ?_⟩ <;> unfold absI <;> split <;> omega

theorem sgn_ne (x y : Int) : (decide (x < 0) != decide (y < 0)) = (decide (x < 0) != decide (y < 0)) := rfl

set_option maxRecDepth 100000 in
set_option maxHeartbeats 1000000 in
theorem product24 (x y : Int) (w : World) (hx : -2305843009213693952 ≤ x ∧ x ≤ 2305843009213693952) (hy : -2305843009213693952 ≤ y ∧ y ≤ 2305843009213693952) :
    Calls Tryz.prog 78 #[.int .i64 x, .int .i64 y] w fun e w' => e = .returned (pairV (prodI x y)) ∧ w = w' := by
  obtain ⟨X, eX, hX⟩ := absI_bd hx
  obtain ⟨Y, eY, hY⟩ := absI_bd hy
  have hN : X * Y ≤ 2305843009213693952 * 2305843009213693952 := Nat.mul_le_mul hX hY
  have hP : prodI x y = if 19807040628566084398385987584 ≤ ((X * Y : Nat) : Int) then none else some (endsI (decide (x < 0) != decide (y < 0)) (((X * Y : Nat) : Int) / 4294967296) (decide (0 < ((X * Y : Nat) : Int) % 4294967296))) := by
    rw [prodI, eX, eY, Int.natCast_mul]
  have hdm := Nat.div_add_mod (X * Y) 18446744073709551616
  have hml := Nat.mod_lt (X * Y) (show 0 < 18446744073709551616 by omega)
  have EX := Lib.hid eX
  have EY := Lib.hid eY
  generalize hn : X * Y = N at *
  generalize hh : N / 18446744073709551616 = H at *
  generalize hl : N % 18446744073709551616 = L at *
  have HN := Lib.hid hn
  have HH := Lib.hid hh
  have HL := Lib.hid hl
  clear hn hh hl eX eY
  by_cases hbig : 1073741824 ≤ H
  · have e1 : prodI x y = none := by rw [hP, if_pos (by omega)]
    have E1 := Lib.hid e1
    clear hP e1 hdm hN
    obtain ⟨h, eh⟩ : ∃ h : Int, (H : Int) = h := ⟨_, rfl⟩
    obtain ⟨l, el⟩ : ∃ h : Int, (L : Int) = h := ⟨_, rfl⟩
    have hb1 : 1073741824 ≤ h := by omega
    have EH := Lib.hid eh
    have EL := Lib.hid el
    clear eh el hbig hml
    go_enter Tryz.func78, Tryz.ntmps78
    go_wp2_with fail
    refine (abs34 x w (by omega)).mono ?_
    rintro e _ ⟨rfl, rfl⟩
    rw [EX.out]
    go_wp2_with fail
    refine (abs34 y w (by omega)).mono ?_
    rintro e _ ⟨rfl, rfl⟩
    rw [EY.out]
    go_wp2_with fail
    refine (Tryz.bits_Mul64 X Y (by omega) (by omega) w).mono ?_
    rintro e _ ⟨rfl, rfl⟩
    rw [HN.out, HH.out, HL.out, EH.out, EL.out]
    go_wp2_with fail
    go_ret3
    exact ⟨by rw [E1.out]; rfl, rfl⟩
  · have hor := hilo_or (H := H) (L := L) (by omega) hml
    have e1 : prodI x y = some (endsI (decide (x < 0) != decide (y < 0)) ((H * 4294967296 + L / 4294967296 : Nat) : Int) (decide (0 < (L : Int) % 4294967296))) := by
      have q1 : N / 4294967296 = H * 4294967296 + L / 4294967296 := by omega
      have q2 : N % 4294967296 = L % 4294967296 := by omega
      rw [hP, if_neg (by omega), show ((N : Int) / 4294967296) = ((N / 4294967296 : Nat) : Int) by omega, q1, show ((N : Int) % 4294967296) = ((N % 4294967296 : Nat) : Int) by omega, q2, show ((L % 4294967296 : Nat) : Int) = (L : Int) % 4294967296 by omega]
    have hq : (0 : Int) ≤ ((H * 4294967296 + L / 4294967296 : Nat) : Int) ∧ ((H * 4294967296 + L / 4294967296 : Nat) : Int) ≤ 4611686018427387904 := by omega
    generalize ((H * 4294967296 + L / 4294967296 : Nat) : Int) = Q at *
    obtain ⟨h, eh⟩ : ∃ h : Int, (H : Int) = h := ⟨_, rfl⟩
    obtain ⟨l, el⟩ : ∃ h : Int, (L : Int) = h := ⟨_, rfl⟩
    have hb1 : 0 ≤ h ∧ h < 1073741824 := by omega
    have hb2 : 0 ≤ l ∧ l < 18446744073709551616 := by omega
    rw [eh, el] at hor
    rw [el] at e1
    have E1 := Lib.hid e1
    have EH := Lib.hid eh
    have EL := Lib.hid el
    clear eh el hbig hml hP e1 hdm hN
    by_cases sx : x < 0 <;> by_cases sy : y < 0
    all_goals
      go_enter Tryz.func78, Tryz.ntmps78
      go_wp2_with fail
      refine (abs34 x w (by omega)).mono ?_
      rintro e _ ⟨rfl, rfl⟩
      rw [EX.out]
      go_wp2_with fail
      refine (abs34 y w (by omega)).mono ?_
      rintro e _ ⟨rfl, rfl⟩
      rw [EY.out]
      go_wp2_with fail
      refine (Tryz.bits_Mul64 X Y (by omega) (by omega) w).mono ?_
      rintro e _ ⟨rfl, rfl⟩
      rw [HN.out, HH.out, HL.out, EH.out, EL.out]
      go_wp2_with fail
      refine (ends35 _ _ Q _ hq).mono ?_
      rintro e _ ⟨rfl, rfl⟩
      go_wp2_with fail
      go_ret3
      exact ⟨by rw [E1.out]; first | (simp [pairV, sx, sy]; done) | (cases decide (x < 0) <;> cases decide (y < 0) <;> rfl), rfl⟩


/-- The figures of a quotient. -/
theorem quot_fig {X Y : Nat} : (Y ≤ X * 4294967296 / 18446744073709551616 ↔ Y * 18446744073709551616 ≤ X * 4294967296) := Nat.le_div_iff_mul_le (by omega)

open Go.RowKit

set_option maxRecDepth 100000 in
set_option maxHeartbeats 2000000 in
theorem root22 (n : Int) (w : World) (h0 : 0 ≤ n) (h1 : n ≤ 2305843009213693952) :
    Calls Tryz.prog 80 #[.int .i64 n] w fun e w' => e = .returned (.tuple #[.int .i64 (rootI n), .bool (!decide (rootI n * rootI n = n * 4294967296))]) ∧ w = w' := by
  obtain ⟨X, rfl⟩ := Int.eq_ofNat_of_zero_le h0
  have hX : X ≤ 2305843009213693952 := by omega
  obtain ⟨hsq, hr0, hr1⟩ := rootI_sq h0 h1
  have mu := fun w => Tryz.bits_Mul64 X 4294967296 (by omega) (by omega) w
  have hT : rootB ((X : Int) * 4294967296) 48 0 = rootI X := rfl
  generalize rootI (X : Int) = T at *
  obtain ⟨N, hN⟩ : ∃ N, X * 4294967296 = N := ⟨_, rfl⟩
  have hNi : (X : Int) * 4294967296 = (N : Int) := by omega
  rw [hN] at mu
  rw [hNi] at hT hsq ⊢
  have hNb : N ≤ 9903520314283042199192993792 := by omega
  obtain ⟨nh, enh⟩ : ∃ h : Int, ((N / 18446744073709551616 : Nat) : Int) = h := ⟨_, rfl⟩
  obtain ⟨nl, enl⟩ : ∃ h : Int, ((N % 18446744073709551616 : Nat) : Int) = h := ⟨_, rfl⟩
  rw [enh, enl] at mu
  have MU := Lib.hid mu
  have HT := Lib.hid hT
  have HSQ := Lib.hid hsq
  have ENH := Lib.hid enh
  have ENL := Lib.hid enl
  have HNB := Lib.hid hNb
  have T2 := Int.eq_ofNat_of_zero_le hr0
  clear mu hT hsq enh enl hN hNi hNb
  go_enter Tryz.func80, Tryz.ntmps80
  go_wp2_with fail
  refine (MU.out w).mono ?_
  rintro e w1 ⟨rfl, hw⟩
  cases hw
  go_wp2_with fail
  go_loopg [6, 7] 48 (fun m s t wr => ∃ (k R : Nat), k ≤ 48 ∧ m = k ∧ s = .int .u64 (R : Int) ∧ t = .int .u64 ((2 ^ k / 2 : Nat) : Int) ∧ rootB (N : Int) k (R : Int) = T ∧ R + 2 ^ k ≤ 281474976710656 ∧ wr = w)
  case atStart => exact ⟨48, 0, by omega, rfl, rfl, rfl, HT.out, by decide, rfl⟩
  case round =>
    obtain ⟨k, R, hk, hm, rfl, rfl, hB, hR, rfl⟩ := hrel
    have HM := Lib.hid hm
    have HB := Lib.hid hB
    clear hm hB
    cases k with
    | zero =>
      have hRT : (R : Int) = T := HB.out
      have mr := fun w => Tryz.bits_Mul64 R R (by omega) (by omega) w
      obtain ⟨ph, eph⟩ : ∃ h : Int, ((R * R / 18446744073709551616 : Nat) : Int) = h := ⟨_, rfl⟩
      obtain ⟨pl, epl⟩ : ∃ h : Int, ((R * R % 18446744073709551616 : Nat) : Int) = h := ⟨_, rfl⟩
      rw [eph, epl] at mr
      have hTR : T * T = ((R * R : Nat) : Int) := by rw [← hRT, Int.natCast_mul]
      have hz : ((2 ^ 0 / 2 : Nat) : Int) = 0 := rfl
      have hcmp : (ph = nh ∧ pl = nl) ↔ T * T = N := by
        rw [hTR, ← eph, ← epl, ← ENH.out, ← ENL.out]; omega
      have MR := Lib.hid mr
      have HC := Lib.hid hcmp
      have HRT := Lib.hid hRT
      have hRb : (R : Int) ≤ 281474976710656 := by omega
      clear mr hcmp hTR eph epl hRT
      rw [hz]
      clear hz
      go_wp2_with fail
      refine (MR.out wr).mono ?_
      rintro e w1 ⟨rfl, hw⟩
      cases hw
      by_cases c1 : ph = nh
      · by_cases c2 : pl = nl
        · have hd := HC.out.1 ⟨c1, c2⟩
          have HD := Lib.hid hd
          have d1 : (ph == nh) = true := by simp [c1]
          have d2 : (ph != nh) = false := by simp [c1]
          have d3 : (pl != nl) = false := by simp [c2]
          clear c1 c2 hd
          go_wp2_with fail
          go_ret2
          exact ⟨by rw [HRT.out, HD.out]; simp, rfl⟩
        · have hd : ¬ (T * T = N) := fun h => c2 (HC.out.2 h).2
          have HD := Lib.hid hd
          have d2 : (ph != nh) = false := by simp [c1]
          have d3 : (pl != nl) = true := by simp [c2]
          clear c1 c2 hd
          go_wp2_with fail
          go_ret2
          exact ⟨by rw [HRT.out]; simp [HD.out], rfl⟩
      · have hd : ¬ (T * T = N) := fun h => c1 (HC.out.2 h).1
        have HD := Lib.hid hd
        have d2 : (ph != nh) = true := by simp [c1]
        clear c1 hd
        go_wp2_with fail
        go_ret2
        exact ⟨by rw [HRT.out]; simp [HD.out], rfl⟩
    | succ j =>
      obtain ⟨B, hBe⟩ : ∃ B, 2 ^ j = B := ⟨_, rfl⟩
      have hb1 : 2 ^ (j + 1) / 2 = B := by rw [Nat.pow_succ, hBe]; omega
      have hb2 : 2 ^ (j + 1) = 2 * B := by rw [Nat.pow_succ, hBe]; omega
      have hb3 : 1 ≤ B := by rw [← hBe]; exact Nat.one_le_two_pow
      rw [hb2] at hR
      rw [hb1]
      have hstep : rootB (N : Int) (j + 1) (R : Int) = rootB (N : Int) j (if (((R + B) * (R + B) : Nat) : Int) ≤ (N : Int) then ((R + B : Nat) : Int) else (R : Int)) := by
        rw [rootB]
        have e : ((R : Int) + (2 : Int) ^ j) = ((R + B : Nat) : Int) := by rw [← hBe]; push_cast; rfl
        rw [e, ← Int.natCast_mul]
      rw [HB.out] at hstep
      have mr := fun w => Tryz.bits_Mul64 (R + B) (R + B) (by omega) (by omega) w
      obtain ⟨ph, eph⟩ : ∃ h : Int, (((R + B) * (R + B) / 18446744073709551616 : Nat) : Int) = h := ⟨_, rfl⟩
      obtain ⟨pl, epl⟩ : ∃ h : Int, (((R + B) * (R + B) % 18446744073709551616 : Nat) : Int) = h := ⟨_, rfl⟩
      rw [eph, epl] at mr
      have hcmp : (ph < nh ∨ ph = nh ∧ pl ≤ nl) ↔ ((((R + B) * (R + B) : Nat) : Int) ≤ (N : Int)) := by
        rw [← eph, ← epl, ← ENH.out, ← ENL.out]; omega
      have hRB : ((R + B : Nat) : Int) = (R : Int) + (B : Int) := by omega
      rw [hRB] at mr
      have MR := Lib.hid mr
      have HC := Lib.hid hcmp
      have HS := Lib.hid hstep
      have HBE := Lib.hid hBe
      have HRB := Lib.hid hRB
      have hRb : (R : Int) + (B : Int) ≤ 281474976710656 := by omega
      have hBb : (0 : Int) < (B : Int) := by omega
      have hBn : 0 < B := by omega
      clear mr hcmp eph epl hstep hb1 hb2 hBe hRB
      by_cases hc : (((R + B) * (R + B) : Nat) : Int) ≤ (N : Int)
      · have hs := HS.out
        rw [if_pos hc] at hs
        have HS2 := Lib.hid hs
        rcases HC.out.2 hc with c1 | ⟨c1, c2⟩
        · clear hc hs
          go_wp2_with fail
          refine (MR.out wr).mono ?_
          rintro e w1 ⟨rfl, hw⟩
          cases hw
          go_wp2_with fail
          go_roundg j
          case measure => have := HM.out; omega
          case rel => exact ⟨j, R + B, by omega, rfl, by rw [HRB.out], by rw [HBE.out]; go_num, HS2.out.symm, by rw [HBE.out]; omega, rfl⟩
        · have d1 : ¬ ph < nh := by omega
          have d2 : (ph == nh) = true := by simp [c1]
          clear hc hs c1
          go_wp2_with fail
          refine (MR.out wr).mono ?_
          rintro e w1 ⟨rfl, hw⟩
          cases hw
          go_wp2_with fail
          go_roundg j
          case measure => have := HM.out; omega
          case rel => exact ⟨j, R + B, by omega, rfl, by rw [HRB.out], by rw [HBE.out]; go_num, HS2.out.symm, by rw [HBE.out]; omega, rfl⟩
      · have hs := HS.out
        rw [if_neg hc] at hs
        have HS2 := Lib.hid hs
        have hn := fun h => hc (HC.out.1 h)
        have d1 : ¬ ph < nh := fun h => hn (.inl h)
        by_cases c1 : ph = nh
        · have d2 : (ph == nh) = true := by simp [c1]
          have d3 : ¬ pl ≤ nl := fun h => hn (.inr ⟨c1, h⟩)
          clear hc hs c1 hn
          go_wp2_with fail
          refine (MR.out wr).mono ?_
          rintro e w1 ⟨rfl, hw⟩
          cases hw
          go_wp2_with fail
          go_roundg j
          case measure => have := HM.out; omega
          case rel => exact ⟨j, R, by omega, rfl, rfl, by rw [HBE.out]; go_num, HS2.out.symm, by rw [HBE.out]; omega, rfl⟩
        · have d2 : (ph == nh) = false := by simp [c1]
          clear hc hs c1 hn
          go_wp2_with fail
          refine (MR.out wr).mono ?_
          rintro e w1 ⟨rfl, hw⟩
          cases hw
          go_wp2_with fail
          go_roundg j
          case measure => have := HM.out; omega
          case rel => exact ⟨j, R, by omega, rfl, rfl, by rw [HBE.out]; go_num, HS2.out.symm, by rw [HBE.out]; omega, rfl⟩


/-- The root rounded up. -/
def rootU (n : Int) : Int := if rootI n * rootI n = n * 4294967296 then rootI n else rootI n + 1

theorem sq_mono {a b : Int} (h0 : 0 ≤ a) (h : a ≤ b) : a * a ≤ b * b := Int.mul_le_mul h h h0 (by omega)
theorem rootU_iff {n m : Int} (h0 : 0 ≤ n) (h1 : n ≤ 2305843009213693952) (hm : 0 ≤ m) : n * 4294967296 ≤ m * m ↔ rootU n ≤ m := by
  obtain ⟨⟨q0, q1, q2⟩, _, _⟩ := rootI_sq h0 h1
  unfold rootU
  constructor
  · intro h
    have : rootI n ≤ m := by
      refine Int.not_lt.1 fun hc => ?_
      have := sq_mono (a := m + 1) (b := rootI n) (by omega) (by omega)
      have e : (m + 1) * (m + 1) = m * m + m + m + 1 := by grind
      omega
    split
    · exact this
    · rename_i hne
      rcases Int.lt_or_le (rootI n) m with h3 | h3
      · omega
      · have : rootI n = m := by omega
        rw [this] at hne q1
        omega
  · intro h
    split at h
    · rename_i he
      have := sq_mono q0 h
      omega
    · have := sq_mono (a := rootI n + 1) (by omega) h
      omega
theorem rootU_bd {n : Int} (h0 : 0 ≤ n) (h1 : n ≤ 2305843009213693952) : 0 ≤ rootU n ∧ rootU n ≤ 140737488355328 := by
  obtain ⟨⟨q0, q1, q2⟩, _, _⟩ := rootI_sq h0 h1
  refine ⟨by unfold rootU; split <;> omega, (rootU_iff h0 h1 (by omega)).1 (by omega)⟩


theorem root_le {a b : Int} (h0 : 0 ≤ a) (h : a ≤ b) (h1 : b ≤ 2305843009213693952) : rootI a ≤ rootU b := by
  obtain ⟨⟨q0, q1, q2⟩, _, _⟩ := rootI_sq h0 (by omega)
  obtain ⟨u0, u1⟩ := rootU_bd (n := b) (by omega) h1
  have h2 := (rootU_iff (n := b) (m := rootU b) (by omega) h1 u0).2 (Int.le_refl _)
  refine Int.not_lt.1 fun hc => ?_
  have := sq_mono (a := rootU b + 1) (b := rootI a) (by omega) (by omega)
  have e : (rootU b + 1) * (rootU b + 1) = rootU b * rootU b + rootU b + rootU b + 1 := by grind
  omega

set_option maxRecDepth 100000 in
set_option maxHeartbeats 2000000 in
theorem sqrt12 (a b : Int) (w : World) : Calls Tryz.prog 40 #[.agg #[.int .i64 a, .int .i64 b]] w fun e w' => e = .returned (resV (sqrtI a b)) ∧ Below w.heap.size w w' := by
  obtain ⟨hb, g0, g1⟩ := allocs2 w (ivA a b) #[.int .i64 0, .int .i64 0] 36 36
  unfold ivA at *
  have hw1 : w.heap.size ≤ w.heap.size + 1 := by omega
  by_cases hok : inI a b = true ∧ 0 ≤ a
  · have hi1 := inI_iff.1 hok.1
    have r1 := fun w => root22 a w hok.2 (by omega)
    have r2 := fun w => root22 b w (by omega) (by omega)
    have hle := root_le hok.2 hi1.2.1 hi1.2.2
    obtain ⟨_, lo0, lo1⟩ := rootI_sq (n := a) hok.2 (by omega)
    obtain ⟨_, hi0, hi2⟩ := rootI_sq (n := b) (by omega) (by omega)
    obtain ⟨u0, u1⟩ := rootU_bd (n := b) (by omega) (by omega)
    have e1 : sqrtI a b = mkI (rootI a) (rootU b) := by
      rw [mkI, if_pos (inI_iff.2 (by omega)), sqrtI, if_pos hok]; rfl
    have hU : rootU b = if rootI b * rootI b = b * 4294967296 then rootI b else rootI b + 1 := rfl
    have md := fun w => made21 (rootI a) (rootU b) w
    rw [← e1] at md
    have e2 : sqrtI a b = some (rootI a, rootU b) := by rw [sqrtI, if_pos hok]; rfl
    rw [e2] at md
    change ∀ w, Calls Tryz.prog 75 #[.int .i64 (rootI a), .int .i64 (rootU b)] w (fun e w' => e = .returned (.tuple #[.agg #[.int .i64 (rootI a), .int .i64 (rootU b)], .bool true]) ∧ Below w.heap.size w w') at md
    have E2 := Lib.hid e2
    generalize rootI a = lo at *
    generalize hX : decide (rootI b * rootI b = b * 4294967296) = X at *
    have hU2 : rootU b = if X = true then rootI b else rootI b + 1 := by rw [hU, ← hX]; simp
    generalize rootU b = U at *
    generalize rootI b = T at *
    have HV := Lib.hid hok.1
    have R1 := Lib.hid r1
    have R2 := Lib.hid r2
    have MD := Lib.hid md
    have HU2 := Lib.hid hU2
    have ha0 := hok.2
    clear hok r1 r2 md e1 e2 hU hX hU2
    cases X
    all_goals
      go_enter Tryz.func40, Tryz.ntmps40
      go_wp2_with fail
      generalize ((w.alloc (.cells #[.int .i64 a, .int .i64 b] 36)).alloc (.cells #[.int .i64 0, .int .i64 0] 36)) = W at *
      generalize w.heap.size + 1 = G1 at *
      refine (valid15 a b W).mono ?_
      rintro e w1 ⟨rfl, hb1⟩
      rw [HV.out]
      replace g0 := (hb1.block _ (lt_of_blk g0)).trans g0
      replace g1 := (hb1.block _ (lt_of_blk g1)).trans g1
      have y0 := cell_of_block g0 0
      have y1 := cell_of_block g0 1
      simp only [List.getElem?_toArray, List.getElem?_cons_zero, List.getElem?_cons_succ] at y0 y1
      replace hb := below_trans' hb hb.size hb1
      clear hb1
      go_wp2_with fail
      refine (R1.out w1).mono ?_
      rintro e _ ⟨rfl, rfl⟩
      go_wp2_with fail
      refine (R2.out w1).mono ?_
      rintro e _ ⟨rfl, rfl⟩
      have hu := HU2.out
      simp only [if_true, Bool.false_eq_true, if_false] at hu
      subst hu
      go_wp2_with fail
      refine (MD.out w1).mono ?_
      rintro e w2 ⟨rfl, hb1⟩
      replace g1 := (hb1.block _ (lt_of_blk g1)).trans g1
      have x0 := cell_of_block g1 0
      have x1 := cell_of_block g1 1
      have f0 := free_of_block g1 0
      have f1 := free_of_block g1 1
      simp only [List.getElem?_toArray, List.getElem?_cons_zero, List.getElem?_cons_succ] at x0 x1
      replace hb := below_trans' hb hb.size hb1
      clear hb1 y0 y1
      go_wp2_with fail
      first
        | (have k := block_set (block_set g1 0 (.int .i64 lo)) 1 (.int .i64 (T + 1))
           have t0 := cell_of_block k 0
           have t1 := cell_of_block k 1
           simp only [List.getElem?_toArray, List.getElem?_cons_zero, List.getElem?_cons_succ, List.setIfInBounds_toArray, List.set_cons_zero, List.set_cons_succ] at t0 t1
           exact bodyPost_ret (v := resV (some (lo, T + 1))) (by simp [results, Tryz.results40, go_sem, t0, t1, resV]) rfl ⟨by rw [E2.out], (hb.setCell hw1 _).setCell hw1 _⟩)
        | (have k := block_set (block_set g1 0 (.int .i64 lo)) 1 (.int .i64 U)
           have t0 := cell_of_block k 0
           have t1 := cell_of_block k 1
           simp only [List.getElem?_toArray, List.getElem?_cons_zero, List.getElem?_cons_succ, List.setIfInBounds_toArray, List.set_cons_zero, List.set_cons_succ] at t0 t1
           exact bodyPost_ret (v := resV (some (lo, U))) (by simp [results, Tryz.results40, go_sem, t0, t1, resV]) rfl ⟨by rw [E2.out], (hb.setCell hw1 _).setCell hw1 _⟩)
  · have e1 : sqrtI a b = none := by rw [sqrtI, if_neg hok]
    have E1 := Lib.hid e1
    clear e1
    cases hv : inI a b with
    | false =>
      go_enter Tryz.func40, Tryz.ntmps40
      go_wp2_with fail
      generalize ((w.alloc (.cells #[.int .i64 a, .int .i64 b] 36)).alloc (.cells #[.int .i64 0, .int .i64 0] 36)) = W at *
      generalize w.heap.size + 1 = G1 at *
      refine (valid15 a b W).mono ?_
      rintro e w1 ⟨rfl, hb1⟩
      rw [hv]
      replace g0 := (hb1.block _ (lt_of_blk g0)).trans g0
      replace g1 := (hb1.block _ (lt_of_blk g1)).trans g1
      have y0 := cell_of_block g0 0
      have y1 := cell_of_block g0 1
      have x0 := cell_of_block g1 0
      have x1 := cell_of_block g1 1
      have f0 := free_of_block g1 0
      have f1 := free_of_block g1 1
      simp only [List.getElem?_toArray, List.getElem?_cons_zero, List.getElem?_cons_succ] at y0 y1 x0 x1
      replace hb := below_trans' hb hb.size hb1
      clear hb1 g0
      go_wp2_with fail
      have k := block_set (block_set g1 0 (.int .i64 0)) 1 (.int .i64 0)
      have t0 := cell_of_block k 0
      have t1 := cell_of_block k 1
      simp only [List.getElem?_toArray, List.getElem?_cons_zero, List.getElem?_cons_succ, List.setIfInBounds_toArray, List.set_cons_zero, List.set_cons_succ] at t0 t1
      exact bodyPost_ret (v := .tuple #[.agg #[.int .i64 0, .int .i64 0], .bool false]) (by simp [results, Tryz.results40, go_sem, t0, t1]) rfl ⟨by rw [E1.out]; rfl, (hb.setCell hw1 _).setCell hw1 _⟩
    | true =>
      have ha : a < 0 := by
        refine Decidable.byContradiction fun h => hok ⟨hv, by omega⟩
      go_enter Tryz.func40, Tryz.ntmps40
      go_wp2_with fail
      generalize ((w.alloc (.cells #[.int .i64 a, .int .i64 b] 36)).alloc (.cells #[.int .i64 0, .int .i64 0] 36)) = W at *
      generalize w.heap.size + 1 = G1 at *
      refine (valid15 a b W).mono ?_
      rintro e w1 ⟨rfl, hb1⟩
      rw [hv]
      replace g0 := (hb1.block _ (lt_of_blk g0)).trans g0
      replace g1 := (hb1.block _ (lt_of_blk g1)).trans g1
      have y0 := cell_of_block g0 0
      have y1 := cell_of_block g0 1
      have x0 := cell_of_block g1 0
      have x1 := cell_of_block g1 1
      have f0 := free_of_block g1 0
      have f1 := free_of_block g1 1
      simp only [List.getElem?_toArray, List.getElem?_cons_zero, List.getElem?_cons_succ] at y0 y1 x0 x1
      replace hb := below_trans' hb hb.size hb1
      clear hb1 g0
      go_wp2_with fail
      have k := block_set (block_set g1 0 (.int .i64 0)) 1 (.int .i64 0)
      have t0 := cell_of_block k 0
      have t1 := cell_of_block k 1
      simp only [List.getElem?_toArray, List.getElem?_cons_zero, List.getElem?_cons_succ, List.setIfInBounds_toArray, List.set_cons_zero, List.set_cons_succ] at t0 t1
      exact bodyPost_ret (v := .tuple #[.agg #[.int .i64 0, .int .i64 0], .bool false]) (by simp [results, Tryz.results40, go_sem, t0, t1]) rfl ⟨by rw [E1.out]; rfl, (hb.setCell hw1 _).setCell hw1 _⟩


theorem rootU_dec {n : Int} (h0 : 0 ≤ n) (h1 : n ≤ 2305843009213693952) : (if rootU n * rootU n = n * 4294967296 then rootU n else rootU n - 1) = rootI n := by
  obtain ⟨⟨q0, q1, q2⟩, _, _⟩ := rootI_sq h0 h1
  unfold rootU
  by_cases h : rootI n * rootI n = n * 4294967296
  · rw [if_pos h, if_pos h]
  · rw [if_neg h, if_neg (by omega)]; omega

/-- The ends of a multiple are next to each other. -/
theorem scale_next {t : Txt} {u a b : Int} (h : scaleT t u = some (a, b)) : -2305843009213693952 ≤ a ∧ a ≤ b ∧ b ≤ 2305843009213693952 ∧ (b - a = 0 ∨ b - a = 1) := by
  unfold scaleT at h
  cases e : rdR t with
  | none => rw [e] at h; cases h
  | some x =>
    rw [e] at h
    simp only at h
    by_cases hu : u < 1
    · rw [if_pos hu] at h; cases h
    · rw [if_neg hu, scale_parts] at h
      by_cases h0 : x.num.natAbs * u.toNat % x.den = 0
      · rw [if_pos h0] at h
        generalize x.num.natAbs * u.toNat / x.den = q at h
        by_cases hg : 2305843009213693952 < q
        · rw [if_pos hg] at h; cases h
        · rw [if_neg hg] at h
          by_cases hs : x.num < 0
          · rw [if_pos hs] at h
            simp only [Option.some.injEq, Prod.mk.injEq] at h
            omega
          · rw [if_neg hs] at h
            simp only [Option.some.injEq, Prod.mk.injEq] at h
            omega
      · rw [if_neg h0] at h
        generalize x.num.natAbs * u.toNat / x.den = q at h
        by_cases hg : 2305843009213693952 < q + 1
        · rw [if_pos hg] at h; cases h
        · rw [if_neg hg] at h
          by_cases hs : x.num < 0
          · rw [if_pos hs] at h
            simp only [Option.some.injEq, Prod.mk.injEq] at h
            omega
          · rw [if_neg hs] at h
            simp only [Option.some.injEq, Prod.mk.injEq] at h
            omega
/-- The interval of a fraction. -/
noncomputable def ofI (t : Txt) : IR := scaleT t 4294967296
theorem mk_next {t : Txt} {a b : Int} (h : ofI t = some (a, b)) : mkI a b = some (a, b) := by
  have := scale_next h
  rw [mkI, if_pos (inI_iff.2 (by omega))]
theorem cells2i {w : World} {g : Nat} {x y : Value} {t : TypeId} (h : w.heap[g]? = some (.cells #[x, y] t (0, 0))) : w.cell? ⟨g, 0, none⟩ = some x ∧ w.cell? ⟨g, 1, none⟩ = some y := ⟨cell_of_block h 0, cell_of_block h 1⟩
theorem ret2i {wv : World} {z : Nat} {a b A B : Int} (hg : wv.heap[z]? = some (.cells #[.int .i64 a, .int .i64 b] 36 (0, 0))) :
    ((wv.setCell ⟨z, 0, none⟩ (.int .i64 A)).setCell ⟨z, 1, none⟩ (.int .i64 B)).cell? ⟨z, 0, none⟩ = some (.int .i64 A) ∧ ((wv.setCell ⟨z, 0, none⟩ (.int .i64 A)).setCell ⟨z, 1, none⟩ (.int .i64 B)).cell? ⟨z, 1, none⟩ = some (.int .i64 B) :=
  cells2i (block_set (block_set hg 0 _) 1 _)

set_option maxRecDepth 100000 in
set_option maxHeartbeats 2000000 in
theorem of49 (N D : ByteArray) (w : World) (hN : N.size ≤ maxLen) (hD : D.size ≤ maxLen) :
    Calls Tryz.prog 38 #[.agg #[.string N, .string D]] w fun e w' => e = .returned (resV (ofI (N.data.toList, D.data.toList))) ∧ Below w.heap.size w w' := by
  obtain ⟨R, hR⟩ : ∃ R, ofI (N.data.toList, D.data.toList) = R := ⟨_, rfl⟩
  have hmk := fun a b => mk_next (t := (N.data.toList, D.data.toList)) (a := a) (b := b)
  have hsc := fun w => scale19 N D 4294967296 w hN hD (by decide) (by decide)
  have e : scaleT (N.data.toList, D.data.toList) 4294967296 = R := hR
  rw [e] at hsc
  rw [hR] at hmk ⊢
  obtain ⟨hbW, g0, g1⟩ := allocs2' w #[.string N, .string D] #[.int .i64 0, .int .i64 0] 26 36
  have k0 := cells2 g0
  clear e hR
  cases R with
  | none =>
    have HSC : Hid (∀ w, Calls Tryz.prog 74 #[.agg #[.string N, .string D], .int .i64 4294967296] w fun e w' => e = .returned (.tuple #[.int .i64 0, .int .i64 0, .bool false]) ∧ Below w.heap.size w w') := Lib.hid hsc
    clear hsc hmk
    go_enter Tryz.func38, Tryz.ntmps38
    go_wp2_with fail
    refine (HSC.out _).mono ?_
    rintro e w1 ⟨rfl, hb1⟩
    have hB := below_trans' hbW hbW.size hb1
    have h1 := blk_below hb1 g1
    have z1 := cells2i h1
    have f1 := free_of_block h1
    obtain ⟨y0, y1⟩ := ret2i (A := 0) (B := 0) h1
    have hbe := below_sets2 hB (show w.heap.size ≤ w.heap.size + 1 by omega) (.int .i64 0) (.int .i64 0)
    clear k0 g0 g1 hB h1
    go_wp2_with fail
    exact bodyPost_ret (v := .tuple #[.agg #[.int .i64 0, .int .i64 0], .bool false]) (by simp [results, Tryz.results38, go_sem, y0, y1]) rfl ⟨rfl, hbe⟩
  | some r =>
    obtain ⟨a, b⟩ := r
    have HSC : Hid (∀ w, Calls Tryz.prog 74 #[.agg #[.string N, .string D], .int .i64 4294967296] w fun e w' => e = .returned (.tuple #[.int .i64 a, .int .i64 b, .bool true]) ∧ Below w.heap.size w w') := Lib.hid hsc
    have hm := hmk a b rfl
    have hmd := fun w => made21 a b w
    rw [hm] at hmd
    have HMD : Hid (∀ w, Calls Tryz.prog 75 #[.int .i64 a, .int .i64 b] w fun e w' => e = .returned (.tuple #[.agg #[.int .i64 a, .int .i64 b], .bool true]) ∧ Below w.heap.size w w') := Lib.hid hmd
    clear hsc hmk hm hmd
    go_enter Tryz.func38, Tryz.ntmps38
    go_wp2_with fail
    refine (HSC.out _).mono ?_
    rintro e w1 ⟨rfl, hb1⟩
    have hB := below_trans' hbW hbW.size hb1
    clear k0
    go_wp2_with fail
    refine (HMD.out _).mono ?_
    rintro e w2 ⟨rfl, hb2⟩
    have hB2 := below_trans' hB hB.size hb2
    have h1 := blk_below hb2 (blk_below hb1 g1)
    have z1 := cells2i h1
    have f1 := free_of_block h1
    obtain ⟨y0, y1⟩ := ret2i (A := a) (B := b) h1
    have hbe := below_sets2 hB2 (show w.heap.size ≤ w.heap.size + 1 by omega) (.int .i64 a) (.int .i64 b)
    clear g0 g1 hB h1
    go_wp2_with fail
    exact bodyPost_ret (v := .tuple #[.agg #[.int .i64 a, .int .i64 b], .bool true]) (by simp [results, Tryz.results38, go_sem, y0, y1]) rfl ⟨rfl, hbe⟩

set_option maxRecDepth 100000 in
set_option maxHeartbeats 2000000 in
theorem of50 (N D : ByteArray) (w : World) (hN : N.size ≤ maxLen) (hD : D.size ≤ maxLen) :
    Calls Tryz.prog 44 #[.agg #[.string N, .string D]] w fun e w' => e = .returned (resV (ofI (N.data.toList, D.data.toList))) ∧ Below w.heap.size w w' := by
  obtain ⟨R, hR⟩ : ∃ R, ofI (N.data.toList, D.data.toList) = R := ⟨_, rfl⟩
  have hsc := fun w => scale20 N D 4294967296 w hN hD (by decide) (by decide)
  have e : scaleT (N.data.toList, D.data.toList) 4294967296 = R := hR
  rw [e] at hsc
  rw [hR]
  obtain ⟨a, b, ok, hv, hr⟩ : ∃ a b ok, scV R = .tuple #[.int .i64 a, .int .i64 b, .bool ok] ∧ resV R = .tuple #[.agg #[.int .i64 a, .int .i64 b], .bool ok] := by
    cases R with
    | none => exact ⟨0, 0, false, rfl, rfl⟩
    | some r => exact ⟨r.1, r.2, true, rfl, rfl⟩
  rw [hv] at hsc
  rw [hr]
  have HSC := Lib.hid hsc
  obtain ⟨hbW, g0, g1⟩ := allocs2' w #[.string N, .string D] #[.int .i64 0, .int .i64 0] 26 36
  have k0 := cells2 g0
  clear e hR hsc hv hr
  go_enter Tryz.func44, Tryz.ntmps44
  go_wp2_with fail
  refine (HSC.out _).mono ?_
  rintro e w1 ⟨rfl, hb1⟩
  have hB := below_trans' hbW hbW.size hb1
  have h1 := blk_below hb1 g1
  have z1 := cells2i h1
  have f1 := free_of_block h1
  obtain ⟨y0, y1⟩ := ret2i (A := a) (B := b) h1
  have hbe := below_sets2 hB (show w.heap.size ≤ w.heap.size + 1 by omega) (.int .i64 a) (.int .i64 b)
  clear k0 g0 g1 hB h1
  go_wp2_with fail
  exact bodyPost_ret (v := .tuple #[.agg #[.int .i64 a, .int .i64 b], .bool ok]) (by simp [results, Tryz.results44, go_sem, y0, y1]) rfl ⟨rfl, hbe⟩

def cornP (f : Int → Int → IR) (a b c d : Int) : IR := (hull4 2305843009213693953 (-2305843009213693953) (corners f a b c d)).bind fun p => mkI p.1 p.2
theorem cornP_fit {f : Int → Int → IR} {a b c d : Int} (hle : ∀ x y p q, f x y = some (p, q) → p ≤ q) : cornP f a b c d = hull4 2305843009213693952 (-2305843009213693952) ((corners f a b c d).map fitI) := by
  refine hull4_fit (corners f a b c d) _ _ _ _ (fun p q hm => ?_) (.inr ⟨by simp [corners], rfl, rfl, rfl, rfl⟩)
  simp only [corners, List.mem_cons, List.not_mem_nil, or_false] at hm
  rcases hm with h | h | h | h <;> exact hle _ _ _ _ h.symm

set_option maxRecDepth 100000 in
set_option maxHeartbeats 8000000 in
theorem corners_product (a b c d : Int) (w : World) (ha : -2305843009213693952 ≤ a ∧ a ≤ 2305843009213693952) (hb : -2305843009213693952 ≤ b ∧ b ≤ 2305843009213693952) (hc : -2305843009213693952 ≤ c ∧ c ≤ 2305843009213693952) (hd : -2305843009213693952 ≤ d ∧ d ≤ 2305843009213693952) :
    Calls Tryz.prog 77 #[.agg #[.int .i64 a, .int .i64 b], .agg #[.int .i64 c, .int .i64 d], .func (Fn.func 78) #[] #[]] w fun e w' => e = .returned (resV (cornP prodI a b c d)) ∧ Below w.heap.size w w' := by
  obtain ⟨R, hR⟩ : ∃ R, cornP prodI a b c d = R := ⟨_, rfl⟩
  rw [hR]
  obtain ⟨hbW, g0, g1, g2⟩ := allocs3 w (ivA a b) (ivA c d) #[.int .i64 0, .int .i64 0] 36 36 36
  unfold ivA at *
  have P1 := fun w => product24 a c w ha hc
  have P2 := fun w => product24 a d w ha hd
  have P3 := fun w => product24 b c w hb hc
  have P4 := fun w => product24 b d w hb hd
  have hR' : (hull4 2305843009213693953 (-2305843009213693953) [prodI a c, prodI a d, prodI b c, prodI b d]).bind (fun p => mkI p.1 p.2) = R := hR
  obtain ⟨r1, h1⟩ : ∃ r, prodI a c = r := ⟨_, rfl⟩
  obtain ⟨r2, h2⟩ : ∃ r, prodI a d = r := ⟨_, rfl⟩
  obtain ⟨r3, h3⟩ : ∃ r, prodI b c = r := ⟨_, rfl⟩
  obtain ⟨r4, h4⟩ : ∃ r, prodI b d = r := ⟨_, rfl⟩
  rw [h1] at P1 hR'
  rw [h2] at P2 hR'
  rw [h3] at P3 hR'
  rw [h4] at P4 hR'
  have HR := Lib.hid hR'
  have p1 := Lib.hid P1
  have p2 := Lib.hid P2
  have p3 := Lib.hid P3
  have p4 := Lib.hid P4
  clear P1 P2 P3 P4 hR hR' h1 h2 h3 h4
  have ix0 : ∀ w, (Instr.index 131 (.agg #[.int .i64 a, .int .i64 b]) (.int .i64 0)).run Tryz.prog w = .ok (.int .i64 a) w := fun _ => by kernel_rfl
  have ix1 : ∀ w, (Instr.index 131 (.agg #[.int .i64 a, .int .i64 b]) (.int .i64 1)).run Tryz.prog w = .ok (.int .i64 b) w := fun _ => by kernel_rfl
  have iy0 : ∀ w, (Instr.index 131 (.agg #[.int .i64 c, .int .i64 d]) (.int .i64 0)).run Tryz.prog w = .ok (.int .i64 c) w := fun _ => by kernel_rfl
  have iy1 : ∀ w, (Instr.index 131 (.agg #[.int .i64 c, .int .i64 d]) (.int .i64 1)).run Tryz.prog w = .ok (.int .i64 d) w := fun _ => by kernel_rfl
  have k0 := cells2i g0
  have k1 := cells2i g1
  have k2 := cells2i g2
  have f2 := free_of_block g2
  go_enter Tryz.func77, Tryz.ntmps77
  go_wp2_with fail
  generalize (((w.alloc (.cells #[.int .i64 a, .int .i64 b] 36)).alloc (.cells #[.int .i64 c, .int .i64 d] 36)).alloc (.cells #[.int .i64 0, .int .i64 0] 36)) = W at *
  refine wp_loop_rounds 3 ?_
  rw [rounds_succ]
  go_wp2_with fail
  refine wp_loop_rounds 3 ?_
  rw [rounds_succ]
  go_wp2_with fail
  refine (p1.out _).mono ?_
  rintro e w' ⟨rfl, rfl⟩
  cases r1 with
  | none =>
    simp only [pairV]
    obtain ⟨y0, y1⟩ := ret2i (A := 0) (B := 0) g2
    have hbe := below_sets2 hbW (show w.heap.size ≤ w.heap.size + 1 + 1 by omega) (.int .i64 0) (.int .i64 0)
    have hn : none = R := HR.out
    clear g2 hbW
    go_wp2_with fail
    subst hn
    exact bodyPost_ret (v := .tuple #[.agg #[.int .i64 0, .int .i64 0], .bool false]) (by simp [results, Tryz.results77, go_sem, y0, y1]) rfl ⟨rfl, hbe⟩
  | some r =>
    obtain ⟨l1, m1⟩ := r
    simp only [pairV]
    go_wp2_with fail
    rw [rounds_succ]
    go_wp2_with fail
    refine (p2.out _).mono ?_
    rintro e w' ⟨rfl, rfl⟩
    cases r2 with
    | none =>
      simp only [pairV]
      obtain ⟨y0, y1⟩ := ret2i (A := 0) (B := 0) g2
      have hbe := below_sets2 hbW (show w.heap.size ≤ w.heap.size + 1 + 1 by omega) (.int .i64 0) (.int .i64 0)
      have hn : none = R := HR.out
      clear g2 hbW
      go_wp2_with fail
      subst hn
      exact bodyPost_ret (v := .tuple #[.agg #[.int .i64 0, .int .i64 0], .bool false]) (by simp [results, Tryz.results77, go_sem, y0, y1]) rfl ⟨rfl, hbe⟩
    | some r =>
      obtain ⟨l2, m2⟩ := r
      simp only [pairV]
      go_wp2_with fail
      rw [rounds_succ]
      go_wp2_with fail
      rw [rounds_succ]
      go_wp2_with fail
      refine wp_loop_rounds 3 ?_
      rw [rounds_succ]
      go_wp2_with fail
      refine (p3.out _).mono ?_
      rintro e w' ⟨rfl, rfl⟩
      cases r3 with
      | none =>
        simp only [pairV]
        obtain ⟨y0, y1⟩ := ret2i (A := 0) (B := 0) g2
        have hbe := below_sets2 hbW (show w.heap.size ≤ w.heap.size + 1 + 1 by omega) (.int .i64 0) (.int .i64 0)
        have hn : none = R := HR.out
        clear g2 hbW
        go_wp2_with fail
        subst hn
        exact bodyPost_ret (v := .tuple #[.agg #[.int .i64 0, .int .i64 0], .bool false]) (by simp [results, Tryz.results77, go_sem, y0, y1]) rfl ⟨rfl, hbe⟩
      | some r =>
        obtain ⟨l3, m3⟩ := r
        simp only [pairV]
        go_wp2_with fail
        rw [rounds_succ]
        go_wp2_with fail
        refine (p4.out _).mono ?_
        rintro e w' ⟨rfl, rfl⟩
        cases r4 with
        | none =>
          simp only [pairV]
          obtain ⟨y0, y1⟩ := ret2i (A := 0) (B := 0) g2
          have hbe := below_sets2 hbW (show w.heap.size ≤ w.heap.size + 1 + 1 by omega) (.int .i64 0) (.int .i64 0)
          have hn : none = R := HR.out
          clear g2 hbW
          go_wp2_with fail
          subst hn
          exact bodyPost_ret (v := .tuple #[.agg #[.int .i64 0, .int .i64 0], .bool false]) (by simp [results, Tryz.results77, go_sem, y0, y1]) rfl ⟨rfl, hbe⟩
        | some r =>
          obtain ⟨l4, m4⟩ := r
          simp only [pairV]
          go_wp2_with fail
          rw [rounds_succ]
          go_wp2_with fail
          rw [rounds_succ]
          go_wp2_with fail
          refine (made21 _ _ _).mono ?_
          rintro e w1 ⟨rfl, hb1⟩
          have hr' : mkI (min (min (min (min 2305843009213693953 l1) l2) l3) l4) (max (max (max (max (-2305843009213693953) m1) m2) m3) m4) = R := HR.out
          have hr : mkI (min 2305843009213693953 (min l1 (min l2 (min l3 l4)))) (max (-2305843009213693953) (max m1 (max m2 (max m3 m4)))) = R := by rw [← hr']; congr 1 <;> omega
          clear hr'
          have Hr := Lib.hid hr
          have hB := below_trans' hbW hbW.size hb1
          have G2 := blk_below hb1 g2
          have q2 := cells2i G2
          have j2 := free_of_block G2
          clear hr k1 k2 f2 g1 g2 hbW
          obtain ⟨X, Y, ok, hX⟩ : ∃ X Y ok, resV R = .tuple #[.agg #[.int .i64 X, .int .i64 Y], .bool ok] := by
            cases R with
            | none => exact ⟨_, _, _, rfl⟩
            | some r => exact ⟨_, _, _, rfl⟩
          rw [Hr.out, hX]
          obtain ⟨y0, y1⟩ := ret2i (A := X) (B := Y) G2
          have hbe := below_sets2 hB (show w.heap.size ≤ w.heap.size + 1 + 1 by omega) (.int .i64 X) (.int .i64 Y)
          clear G2 hB hb1
          have HX := Lib.hid hX
          clear hX
          go_wp2_with fail
          exact bodyPost_ret (v := .tuple #[.agg #[.int .i64 X, .int .i64 Y], .bool ok]) (by simp [results, Tryz.results77, go_sem, y0, y1]) rfl ⟨congrArg Ending.returned HX.out.symm, hbe⟩

set_option maxRecDepth 100000 in
set_option maxHeartbeats 4000000 in
theorem mul56 (a b c d : Int) (w : World) : Calls Tryz.prog 39 #[.agg #[.int .i64 a, .int .i64 b], .agg #[.int .i64 c, .int .i64 d]] w fun e w' => e = .returned (resV (mulI a b c d)) ∧ Below w.heap.size w w' := by
  obtain ⟨hbW, g0, g1, g2⟩ := allocs3 w (ivA a b) (ivA c d) #[.int .i64 0, .int .i64 0] 36 36 36
  unfold ivA at *
  have k0 := cells2i g0
  have k1 := cells2i g1
  obtain ⟨R, hR⟩ : ∃ R, mulI a b c d = R := ⟨_, rfl⟩
  rw [hR]
  have hbo := both20 a b c d
  obtain ⟨o, ho⟩ : ∃ o, (inI a b && inI c d) = o := ⟨_, rfl⟩
  rw [ho] at hbo
  have HBo := Lib.hid hbo
  clear hbo
  cases o with
  | false =>
    have e1 : R = none := by
      rw [← hR]; unfold mulI
      rw [if_neg (by intro hh; rw [hh.1, hh.2] at ho; cases ho)]
    have E1 := Lib.hid e1
    clear e1 hR ho
    go_enter Tryz.func39, Tryz.ntmps39
    go_wp2_with fail
    generalize (((w.alloc (.cells #[.int .i64 a, .int .i64 b] 36)).alloc (.cells #[.int .i64 c, .int .i64 d] 36)).alloc (.cells #[.int .i64 0, .int .i64 0] 36)) = W at *
    refine (HBo.out W).mono ?_
    rintro e w1 ⟨rfl, hb1⟩
    have hB := below_trans' hbW hbW.size hb1
    replace g0 := blk_below hb1 g0
    replace g1 := blk_below hb1 g1
    replace g2 := blk_below hb1 g2
    replace k0 := cells2i g0
    replace k1 := cells2i g1
    have k2 := cells2i g2
    have f2 := free_of_block g2
    clear hbW
    obtain ⟨y0, y1⟩ := ret2i (A := 0) (B := 0) g2
    have hbe := below_sets2 hB (show w.heap.size ≤ w.heap.size + 1 + 1 by omega) (.int .i64 0) (.int .i64 0)
    clear hB hb1
    go_wp2_with fail
    exact bodyPost_ret (v := .tuple #[.agg #[.int .i64 0, .int .i64 0], .bool false]) (by simp [results, Tryz.results39, go_sem, y0, y1]) rfl ⟨by rw [E1.out]; rfl, hbe⟩
  | true =>
    have h12 : inI a b = true ∧ inI c d = true := by simpa using ho
    have hi1 := inI_iff.1 h12.1
    have hi2 := inI_iff.1 h12.2
    have e1 : cornP prodI a b c d = R := by
      rw [← hR]; unfold mulI
      rw [if_pos h12, cornP_fit fun x y p q => prodI_le]
    have E1 := Lib.hid e1
    have ha : -2305843009213693952 ≤ a ∧ a ≤ 2305843009213693952 := by omega
    have hb : -2305843009213693952 ≤ b ∧ b ≤ 2305843009213693952 := by omega
    have hc : -2305843009213693952 ≤ c ∧ c ≤ 2305843009213693952 := by omega
    have hd : -2305843009213693952 ≤ d ∧ d ≤ 2305843009213693952 := by omega
    clear e1 hR ho h12
    go_enter Tryz.func39, Tryz.ntmps39
    go_wp2_with fail
    generalize (((w.alloc (.cells #[.int .i64 a, .int .i64 b] 36)).alloc (.cells #[.int .i64 c, .int .i64 d] 36)).alloc (.cells #[.int .i64 0, .int .i64 0] 36)) = W at *
    refine (HBo.out W).mono ?_
    rintro e w1 ⟨rfl, hb1⟩
    have hB := below_trans' hbW hbW.size hb1
    replace g0 := blk_below hb1 g0
    replace g1 := blk_below hb1 g1
    replace g2 := blk_below hb1 g2
    replace k0 := cells2i g0
    replace k1 := cells2i g1
    have k2 := cells2i g2
    have f2 := free_of_block g2
    clear hbW
    go_wp2_with fail
    refine (corners_product a b c d _ ha hb hc hd).mono ?_
    rintro e w2 ⟨rfl, hb2⟩
    have hB2 := below_trans' hB hB.size hb2
    have G2 := blk_below hb2 g2
    have q2 := cells2i G2
    have j2 := free_of_block G2
    obtain ⟨X, Y, ok, hX⟩ : ∃ X Y ok, resV R = .tuple #[.agg #[.int .i64 X, .int .i64 Y], .bool ok] := by
      cases R with
      | none => exact ⟨_, _, _, rfl⟩
      | some r => exact ⟨_, _, _, rfl⟩
    rw [E1.out, hX]
    obtain ⟨y0, y1⟩ := ret2i (A := X) (B := Y) G2
    have hbe := below_sets2 hB2 (show w.heap.size ≤ w.heap.size + 1 + 1 by omega) (.int .i64 X) (.int .i64 Y)
    clear G2 hB hB2 hb1 hb2 k0 k1 g0 g1 g2 f2
    have HX := Lib.hid hX
    clear hX
    go_wp2_with fail
    exact bodyPost_ret (v := .tuple #[.agg #[.int .i64 X, .int .i64 Y], .bool ok]) (by simp [results, Tryz.results39, go_sem, y0, y1]) rfl ⟨congrArg Ending.returned HX.out.symm, hbe⟩

theorem size41 (x : Int) (w : World) (h : -9223372036854775808 ≤ x ∧ x ≤ 9223372036854775807) : Calls Tryz.prog 117 #[.int .i64 x] w fun e w' => e = .returned (.tuple #[.int .u64 (absI x), .bool (decide (x < 0))]) ∧ w = w' := by
  by_cases h1 : x < 0
  · have e1 : IntKind.u64.wrap (-IntKind.u64.wrap x) = -x := by rw [IntKind.wrap_u64, IntKind.wrap_u64]; omega
    have e2 : absI x = -x := by rw [absI, if_pos h1]
    have E1 := Lib.hid e1
    have E2 := Lib.hid e2
    clear e1 e2
    go_enter Tryz.func117, Tryz.ntmps117
    go_wp2_with fail
    go_ret2
    exact ⟨by rw [E2.out, E1.out]; simp [h1], rfl⟩
  · have e2 : absI x = x := by rw [absI, if_neg h1]
    have E2 := Lib.hid e2
    clear e2
    go_enter Tryz.func117, Tryz.ntmps117
    go_wp2_with fail
    go_ret2
    exact ⟨by rw [E2.out]; simp; omega, rfl⟩

theorem made36 (lo hi : Int) (w : World) : Calls Tryz.prog 85 #[.int .i64 lo, .int .i64 hi] w fun e w' => e = .returned (resV (mkI lo hi)) ∧ Below w.heap.size w w' := by
  obtain ⟨hb, g0, g1⟩ := allocs2 w #[.int .i64 0, .int .i64 0] (ivA lo hi) 36 36
  unfold ivA at *
  have hw : w.heap.size ≤ w.heap.size := Nat.le_refl _
  cases h : inI lo hi
  all_goals
    have e1 : mkI lo hi = if inI lo hi = true then some (lo, hi) else none := rfl
    rw [h] at e1
    have E1 := Lib.hid e1
    clear e1
    go_enter Tryz.func85, Tryz.ntmps85
    go_wp2_with fail
    generalize ((w.alloc (.cells #[.int .i64 0, .int .i64 0] 36)).alloc (.cells #[.int .i64 lo, .int .i64 hi] 36)) = W at *
    refine (valid16 lo hi W).mono ?_
    rintro e w1 ⟨rfl, hb1⟩
    rw [h]
    replace g0 := (hb1.block _ (lt_of_blk g0)).trans g0
    replace g1 := (hb1.block _ (lt_of_blk g1)).trans g1
    have y0 := cell_of_block g1 0
    have y1 := cell_of_block g1 1
    have x0 := cell_of_block g0 0
    have x1 := cell_of_block g0 1
    have f0 := free_of_block g0 0
    have f1 := free_of_block g0 1
    simp only [List.getElem?_toArray, List.getElem?_cons_zero, List.getElem?_cons_succ] at y0 y1 x0 x1
    replace hb := below_trans' hb hb.size hb1
    clear hb1 g1
    go_wp2_with fail
  · have k := block_set (block_set g0 0 (.int .i64 0)) 1 (.int .i64 0)
    have t0 := cell_of_block k 0
    have t1 := cell_of_block k 1
    simp only [List.getElem?_toArray, List.getElem?_cons_zero, List.getElem?_cons_succ, List.setIfInBounds_toArray, List.set_cons_zero, List.set_cons_succ] at t0 t1
    exact bodyPost_ret (v := .tuple #[.agg #[.int .i64 0, .int .i64 0], .bool false]) (by simp [results, Tryz.results85, go_sem, t0, t1]) rfl ⟨by rw [E1.out]; rfl, (hb.setCell hw _).setCell hw _⟩
  · have k := block_set (block_set g0 0 (.int .i64 lo)) 1 (.int .i64 hi)
    have t0 := cell_of_block k 0
    have t1 := cell_of_block k 1
    simp only [List.getElem?_toArray, List.getElem?_cons_zero, List.getElem?_cons_succ, List.setIfInBounds_toArray, List.set_cons_zero, List.set_cons_succ] at t0 t1
    exact bodyPost_ret (v := .tuple #[.agg #[.int .i64 lo, .int .i64 hi], .bool true]) (by simp [results, Tryz.results85, go_sem, t0, t1]) rfl ⟨by rw [E1.out]; rfl, (hb.setCell hw _).setCell hw _⟩

set_option maxHeartbeats 1000000 in
theorem hull10 (a b c d : Int) (w : World) : Calls Tryz.prog 41 #[.agg #[.int .i64 a, .int .i64 b], .agg #[.int .i64 c, .int .i64 d]] w fun e w' => e = .returned (resV (hullI a b c d)) ∧ Below w.heap.size w w' := by
  obtain ⟨hb, g0, g1, g2⟩ := allocs3 w (ivA a b) (ivA c d) #[.int .i64 0, .int .i64 0] 36 36 36
  unfold ivA at *
  have hw2 : w.heap.size ≤ w.heap.size + 1 + 1 := by omega
  cases h : (inI a b && inI c d) with
  | false =>
    have e1 : hullI a b c d = none := by rw [hullI, if_neg (by intro hh; rw [hh.1, hh.2] at h; cases h)]
    have E1 := Lib.hid e1
    clear e1
    go_enter Tryz.func41, Tryz.ntmps41
    go_wp2_with fail
    generalize (((w.alloc (.cells #[.int .i64 a, .int .i64 b] 36)).alloc (.cells #[.int .i64 c, .int .i64 d] 36)).alloc (.cells #[.int .i64 0, .int .i64 0] 36)) = W at *
    generalize w.heap.size + 1 + 1 = G2 at *
    generalize w.heap.size + 1 = G1 at *
    refine (both20 a b c d W).mono ?_
    rintro e w1 ⟨rfl, hb1⟩
    rw [h]
    replace g0 := (hb1.block _ (lt_of_blk g0)).trans g0
    replace g1 := (hb1.block _ (lt_of_blk g1)).trans g1
    replace g2 := (hb1.block _ (lt_of_blk g2)).trans g2
    have y0 := cell_of_block g0 0
    have y1 := cell_of_block g0 1
    have z0 := cell_of_block g1 0
    have z1 := cell_of_block g1 1
    have x0 := cell_of_block g2 0
    have x1 := cell_of_block g2 1
    have f0 := free_of_block g2 0
    have f1 := free_of_block g2 1
    simp only [List.getElem?_toArray, List.getElem?_cons_zero, List.getElem?_cons_succ] at y0 y1 z0 z1 x0 x1
    replace hb := below_trans' hb hb.size hb1
    clear hb1
    go_wp2_with fail
    have k := block_set (block_set g2 0 (.int .i64 0)) 1 (.int .i64 0)
    have t0 := cell_of_block k 0
    have t1 := cell_of_block k 1
    simp only [List.getElem?_toArray, List.getElem?_cons_zero, List.getElem?_cons_succ, List.setIfInBounds_toArray, List.set_cons_zero, List.set_cons_succ] at t0 t1
    exact bodyPost_ret (v := .tuple #[.agg #[.int .i64 0, .int .i64 0], .bool false]) (by simp [results, Tryz.results41, go_sem, t0, t1]) rfl ⟨by rw [E1.out]; rfl, (hb.setCell hw2 _).setCell hw2 _⟩
  | true =>
    have h12 : inI a b = true ∧ inI c d = true := by simpa using h
    have hi1 := inI_iff.1 h12.1
    have hi2 := inI_iff.1 h12.2
    have e1 : hullI a b c d = mkI (min a c) (max b d) := by rw [hullI, if_pos h12]; exact (hull_mk h12.1 h12.2).symm
    have E1 := Lib.hid e1
    clear e1
    have H12 := Lib.hid h12
    clear h12
    go_enter Tryz.func41, Tryz.ntmps41
    go_wp2_with fail
    generalize (((w.alloc (.cells #[.int .i64 a, .int .i64 b] 36)).alloc (.cells #[.int .i64 c, .int .i64 d] 36)).alloc (.cells #[.int .i64 0, .int .i64 0] 36)) = W at *
    generalize w.heap.size + 1 + 1 = G2 at *
    generalize w.heap.size + 1 = G1 at *
    refine (both20 a b c d W).mono ?_
    rintro e w1 ⟨rfl, hb1⟩
    rw [h]
    replace g0 := (hb1.block _ (lt_of_blk g0)).trans g0
    replace g1 := (hb1.block _ (lt_of_blk g1)).trans g1
    replace g2 := (hb1.block _ (lt_of_blk g2)).trans g2
    have y0 := cell_of_block g0 0
    have y1 := cell_of_block g0 1
    have z0 := cell_of_block g1 0
    have z1 := cell_of_block g1 1
    have x0 := cell_of_block g2 0
    have x1 := cell_of_block g2 1
    have f0 := free_of_block g2 0
    have f1 := free_of_block g2 1
    simp only [List.getElem?_toArray, List.getElem?_cons_zero, List.getElem?_cons_succ] at y0 y1 z0 z1 x0 x1
    replace hb := below_trans' hb hb.size hb1
    clear hb1
    go_wp2_with fail
    refine (made21 (min a c) (max b d) w1).mono ?_
    rintro e w2 ⟨rfl, hb1⟩
    rw [← E1.out]
    clear y0 y1 z0 z1 x0 x1 f0 f1
    replace g0 := (hb1.block _ (lt_of_blk g0)).trans g0
    replace g1 := (hb1.block _ (lt_of_blk g1)).trans g1
    replace g2 := (hb1.block _ (lt_of_blk g2)).trans g2
    have y0 := cell_of_block g0 0
    have y1 := cell_of_block g0 1
    have z0 := cell_of_block g1 0
    have z1 := cell_of_block g1 1
    have x0 := cell_of_block g2 0
    have x1 := cell_of_block g2 1
    have f0 := free_of_block g2 0
    have f1 := free_of_block g2 1
    simp only [List.getElem?_toArray, List.getElem?_cons_zero, List.getElem?_cons_succ] at y0 y1 z0 z1 x0 x1
    replace hb := below_trans' hb hb.size hb1
    clear hb1
    cases hr : hullI a b c d with
    | none =>
      rw [show resV none = .tuple #[.agg #[.int .i64 0, .int .i64 0], .bool false] from rfl]
      go_wp2_with fail
      have k := block_set (block_set g2 0 (.int .i64 (0))) 1 (.int .i64 (0))
      have t0 := cell_of_block k 0
      have t1 := cell_of_block k 1
      simp only [List.getElem?_toArray, List.getElem?_cons_zero, List.getElem?_cons_succ, List.setIfInBounds_toArray, List.set_cons_zero, List.set_cons_succ] at t0 t1
      exact bodyPost_ret (v := resV none) (by simp [results, Tryz.results41, go_sem, t0, t1, resV]) rfl ⟨by rw [hr], (hb.setCell hw2 _).setCell hw2 _⟩
    | some p =>
      obtain ⟨lo, hi⟩ := p
      rw [show resV (some (lo, hi)) = .tuple #[.agg #[.int .i64 lo, .int .i64 hi], .bool true] from rfl]
      go_wp2_with fail
      have k := block_set (block_set g2 0 (.int .i64 (lo))) 1 (.int .i64 (hi))
      have t0 := cell_of_block k 0
      have t1 := cell_of_block k 1
      simp only [List.getElem?_toArray, List.getElem?_cons_zero, List.getElem?_cons_succ, List.setIfInBounds_toArray, List.set_cons_zero, List.set_cons_succ] at t0 t1
      exact bodyPost_ret (v := resV (some (lo, hi))) (by simp [results, Tryz.results41, go_sem, t0, t1, resV]) rfl ⟨by rw [hr], (hb.setCell hw2 _).setCell hw2 _⟩

set_option maxHeartbeats 1000000 in
theorem add25 (a b c d : Int) (w : World) : Calls Tryz.prog 48 #[.agg #[.int .i64 a, .int .i64 b], .agg #[.int .i64 c, .int .i64 d]] w fun e w' => e = .returned (resV (addI a b c d)) ∧ Below w.heap.size w w' := by
  obtain ⟨hb, g0, g1, g2⟩ := allocs3 w (ivA a b) (ivA c d) #[.int .i64 0, .int .i64 0] 36 36 36
  unfold ivA at *
  have hw2 : w.heap.size ≤ w.heap.size + 1 + 1 := by omega
  cases h : (inI a b && inI c d) with
  | false =>
    have e1 : addI a b c d = none := by rw [addI, if_neg (by intro hh; rw [hh.1, hh.2] at h; cases h)]
    have E1 := Lib.hid e1
    clear e1
    cases ha : inI a b with
    | false =>
      go_enter Tryz.func48, Tryz.ntmps48
      go_wp2_with fail
      generalize (((w.alloc (.cells #[.int .i64 a, .int .i64 b] 36)).alloc (.cells #[.int .i64 c, .int .i64 d] 36)).alloc (.cells #[.int .i64 0, .int .i64 0] 36)) = W at *
      generalize w.heap.size + 1 + 1 = G2 at *
      generalize w.heap.size + 1 = G1 at *
      refine (valid16 a b W).mono ?_
      rintro e w1 ⟨rfl, hb1⟩
      rw [ha]
      replace g0 := (hb1.block _ (lt_of_blk g0)).trans g0
      replace g1 := (hb1.block _ (lt_of_blk g1)).trans g1
      replace g2 := (hb1.block _ (lt_of_blk g2)).trans g2
      have y0 := cell_of_block g0 0
      have y1 := cell_of_block g0 1
      have z0 := cell_of_block g1 0
      have z1 := cell_of_block g1 1
      have x0 := cell_of_block g2 0
      have x1 := cell_of_block g2 1
      have f0 := free_of_block g2 0
      have f1 := free_of_block g2 1
      simp only [List.getElem?_toArray, List.getElem?_cons_zero, List.getElem?_cons_succ] at y0 y1 z0 z1 x0 x1
      replace hb := below_trans' hb hb.size hb1
      clear hb1
      go_wp2_with fail
      have k := block_set (block_set g2 0 (.int .i64 0)) 1 (.int .i64 0)
      have t0 := cell_of_block k 0
      have t1 := cell_of_block k 1
      simp only [List.getElem?_toArray, List.getElem?_cons_zero, List.getElem?_cons_succ, List.setIfInBounds_toArray, List.set_cons_zero, List.set_cons_succ] at t0 t1
      exact bodyPost_ret (v := .tuple #[.agg #[.int .i64 0, .int .i64 0], .bool false]) (by simp [results, Tryz.results48, go_sem, t0, t1]) rfl ⟨by rw [E1.out]; rfl, (hb.setCell hw2 _).setCell hw2 _⟩
    | true =>
      have hc : inI c d = false := by rw [ha] at h; simpa using h
      go_enter Tryz.func48, Tryz.ntmps48
      go_wp2_with fail
      generalize (((w.alloc (.cells #[.int .i64 a, .int .i64 b] 36)).alloc (.cells #[.int .i64 c, .int .i64 d] 36)).alloc (.cells #[.int .i64 0, .int .i64 0] 36)) = W at *
      generalize w.heap.size + 1 + 1 = G2 at *
      generalize w.heap.size + 1 = G1 at *
      refine (valid16 a b W).mono ?_
      rintro e w1 ⟨rfl, hb1⟩
      rw [ha]
      replace g0 := (hb1.block _ (lt_of_blk g0)).trans g0
      replace g1 := (hb1.block _ (lt_of_blk g1)).trans g1
      replace g2 := (hb1.block _ (lt_of_blk g2)).trans g2
      have y0 := cell_of_block g0 0
      have y1 := cell_of_block g0 1
      have z0 := cell_of_block g1 0
      have z1 := cell_of_block g1 1
      have x0 := cell_of_block g2 0
      have x1 := cell_of_block g2 1
      have f0 := free_of_block g2 0
      have f1 := free_of_block g2 1
      simp only [List.getElem?_toArray, List.getElem?_cons_zero, List.getElem?_cons_succ] at y0 y1 z0 z1 x0 x1
      replace hb := below_trans' hb hb.size hb1
      clear hb1
      go_wp2_with fail
      refine (valid16 c d w1).mono ?_
      rintro e w2 ⟨rfl, hb1⟩
      rw [hc]
      clear y0 y1 z0 z1 x0 x1 f0 f1
      replace g0 := (hb1.block _ (lt_of_blk g0)).trans g0
      replace g1 := (hb1.block _ (lt_of_blk g1)).trans g1
      replace g2 := (hb1.block _ (lt_of_blk g2)).trans g2
      have y0 := cell_of_block g0 0
      have y1 := cell_of_block g0 1
      have z0 := cell_of_block g1 0
      have z1 := cell_of_block g1 1
      have x0 := cell_of_block g2 0
      have x1 := cell_of_block g2 1
      have f0 := free_of_block g2 0
      have f1 := free_of_block g2 1
      simp only [List.getElem?_toArray, List.getElem?_cons_zero, List.getElem?_cons_succ] at y0 y1 z0 z1 x0 x1
      replace hb := below_trans' hb hb.size hb1
      clear hb1
      go_wp2_with fail
      have k := block_set (block_set g2 0 (.int .i64 0)) 1 (.int .i64 0)
      have t0 := cell_of_block k 0
      have t1 := cell_of_block k 1
      simp only [List.getElem?_toArray, List.getElem?_cons_zero, List.getElem?_cons_succ, List.setIfInBounds_toArray, List.set_cons_zero, List.set_cons_succ] at t0 t1
      exact bodyPost_ret (v := .tuple #[.agg #[.int .i64 0, .int .i64 0], .bool false]) (by simp [results, Tryz.results48, go_sem, t0, t1]) rfl ⟨by rw [E1.out]; rfl, (hb.setCell hw2 _).setCell hw2 _⟩
  | true =>
    have h12 : inI a b = true ∧ inI c d = true := by simpa using h
    have hi1 := inI_iff.1 h12.1
    have hi2 := inI_iff.1 h12.2
    have e1 : addI a b c d = mkI (a + c) (b + d) := by rw [addI, if_pos h12]
    have E1 := Lib.hid e1
    clear e1
    have H12 := Lib.hid h12
    clear h12
    go_enter Tryz.func48, Tryz.ntmps48
    go_wp2_with fail
    generalize (((w.alloc (.cells #[.int .i64 a, .int .i64 b] 36)).alloc (.cells #[.int .i64 c, .int .i64 d] 36)).alloc (.cells #[.int .i64 0, .int .i64 0] 36)) = W at *
    generalize w.heap.size + 1 + 1 = G2 at *
    generalize w.heap.size + 1 = G1 at *
    refine (valid16 a b W).mono ?_
    rintro e w0 ⟨rfl, hb1⟩
    rw [H12.out.1]
    replace g0 := (hb1.block _ (lt_of_blk g0)).trans g0
    replace g1 := (hb1.block _ (lt_of_blk g1)).trans g1
    replace g2 := (hb1.block _ (lt_of_blk g2)).trans g2
    have y0 := cell_of_block g0 0
    have y1 := cell_of_block g0 1
    have z0 := cell_of_block g1 0
    have z1 := cell_of_block g1 1
    have x0 := cell_of_block g2 0
    have x1 := cell_of_block g2 1
    have f0 := free_of_block g2 0
    have f1 := free_of_block g2 1
    simp only [List.getElem?_toArray, List.getElem?_cons_zero, List.getElem?_cons_succ] at y0 y1 z0 z1 x0 x1
    replace hb := below_trans' hb hb.size hb1
    clear hb1
    go_wp2_with fail
    refine (valid16 c d w0).mono ?_
    rintro e w1 ⟨rfl, hb1⟩
    rw [H12.out.2]
    clear y0 y1 z0 z1 x0 x1 f0 f1
    replace g0 := (hb1.block _ (lt_of_blk g0)).trans g0
    replace g1 := (hb1.block _ (lt_of_blk g1)).trans g1
    replace g2 := (hb1.block _ (lt_of_blk g2)).trans g2
    have y0 := cell_of_block g0 0
    have y1 := cell_of_block g0 1
    have z0 := cell_of_block g1 0
    have z1 := cell_of_block g1 1
    have x0 := cell_of_block g2 0
    have x1 := cell_of_block g2 1
    have f0 := free_of_block g2 0
    have f1 := free_of_block g2 1
    simp only [List.getElem?_toArray, List.getElem?_cons_zero, List.getElem?_cons_succ] at y0 y1 z0 z1 x0 x1
    replace hb := below_trans' hb hb.size hb1
    clear hb1
    go_wp2_with fail
    refine (made36 (a + c) (b + d) w1).mono ?_
    rintro e w2 ⟨rfl, hb1⟩
    rw [← E1.out]
    clear y0 y1 z0 z1 x0 x1 f0 f1
    replace g0 := (hb1.block _ (lt_of_blk g0)).trans g0
    replace g1 := (hb1.block _ (lt_of_blk g1)).trans g1
    replace g2 := (hb1.block _ (lt_of_blk g2)).trans g2
    have y0 := cell_of_block g0 0
    have y1 := cell_of_block g0 1
    have z0 := cell_of_block g1 0
    have z1 := cell_of_block g1 1
    have x0 := cell_of_block g2 0
    have x1 := cell_of_block g2 1
    have f0 := free_of_block g2 0
    have f1 := free_of_block g2 1
    simp only [List.getElem?_toArray, List.getElem?_cons_zero, List.getElem?_cons_succ] at y0 y1 z0 z1 x0 x1
    replace hb := below_trans' hb hb.size hb1
    clear hb1
    cases hr : addI a b c d with
    | none =>
      rw [show resV none = .tuple #[.agg #[.int .i64 0, .int .i64 0], .bool false] from rfl]
      go_wp2_with fail
      have k := block_set (block_set g2 0 (.int .i64 (0))) 1 (.int .i64 (0))
      have t0 := cell_of_block k 0
      have t1 := cell_of_block k 1
      simp only [List.getElem?_toArray, List.getElem?_cons_zero, List.getElem?_cons_succ, List.setIfInBounds_toArray, List.set_cons_zero, List.set_cons_succ] at t0 t1
      exact bodyPost_ret (v := resV none) (by simp [results, Tryz.results48, go_sem, t0, t1, resV]) rfl ⟨by rw [hr], (hb.setCell hw2 _).setCell hw2 _⟩
    | some p =>
      obtain ⟨lo, hi⟩ := p
      rw [show resV (some (lo, hi)) = .tuple #[.agg #[.int .i64 lo, .int .i64 hi], .bool true] from rfl]
      go_wp2_with fail
      have k := block_set (block_set g2 0 (.int .i64 (lo))) 1 (.int .i64 (hi))
      have t0 := cell_of_block k 0
      have t1 := cell_of_block k 1
      simp only [List.getElem?_toArray, List.getElem?_cons_zero, List.getElem?_cons_succ, List.setIfInBounds_toArray, List.set_cons_zero, List.set_cons_succ] at t0 t1
      exact bodyPost_ret (v := resV (some (lo, hi))) (by simp [results, Tryz.results48, go_sem, t0, t1, resV]) rfl ⟨by rw [hr], (hb.setCell hw2 _).setCell hw2 _⟩

set_option maxHeartbeats 1000000 in
theorem sub26 (a b c d : Int) (w : World) : Calls Tryz.prog 47 #[.agg #[.int .i64 a, .int .i64 b], .agg #[.int .i64 c, .int .i64 d]] w fun e w' => e = .returned (resV (subI a b c d)) ∧ Below w.heap.size w w' := by
  obtain ⟨hb, g0, g1, g2⟩ := allocs3 w (ivA a b) (ivA c d) #[.int .i64 0, .int .i64 0] 36 36 36
  unfold ivA at *
  have hw2 : w.heap.size ≤ w.heap.size + 1 + 1 := by omega
  cases h : (inI a b && inI c d) with
  | false =>
    have e1 : subI a b c d = none := by rw [subI, if_neg (by intro hh; rw [hh.1, hh.2] at h; cases h)]
    have E1 := Lib.hid e1
    clear e1
    cases ha : inI a b with
    | false =>
      go_enter Tryz.func47, Tryz.ntmps47
      go_wp2_with fail
      generalize (((w.alloc (.cells #[.int .i64 a, .int .i64 b] 36)).alloc (.cells #[.int .i64 c, .int .i64 d] 36)).alloc (.cells #[.int .i64 0, .int .i64 0] 36)) = W at *
      generalize w.heap.size + 1 + 1 = G2 at *
      generalize w.heap.size + 1 = G1 at *
      refine (valid16 a b W).mono ?_
      rintro e w1 ⟨rfl, hb1⟩
      rw [ha]
      replace g0 := (hb1.block _ (lt_of_blk g0)).trans g0
      replace g1 := (hb1.block _ (lt_of_blk g1)).trans g1
      replace g2 := (hb1.block _ (lt_of_blk g2)).trans g2
      have y0 := cell_of_block g0 0
      have y1 := cell_of_block g0 1
      have z0 := cell_of_block g1 0
      have z1 := cell_of_block g1 1
      have x0 := cell_of_block g2 0
      have x1 := cell_of_block g2 1
      have f0 := free_of_block g2 0
      have f1 := free_of_block g2 1
      simp only [List.getElem?_toArray, List.getElem?_cons_zero, List.getElem?_cons_succ] at y0 y1 z0 z1 x0 x1
      replace hb := below_trans' hb hb.size hb1
      clear hb1
      go_wp2_with fail
      have k := block_set (block_set g2 0 (.int .i64 0)) 1 (.int .i64 0)
      have t0 := cell_of_block k 0
      have t1 := cell_of_block k 1
      simp only [List.getElem?_toArray, List.getElem?_cons_zero, List.getElem?_cons_succ, List.setIfInBounds_toArray, List.set_cons_zero, List.set_cons_succ] at t0 t1
      exact bodyPost_ret (v := .tuple #[.agg #[.int .i64 0, .int .i64 0], .bool false]) (by simp [results, Tryz.results47, go_sem, t0, t1]) rfl ⟨by rw [E1.out]; rfl, (hb.setCell hw2 _).setCell hw2 _⟩
    | true =>
      have hc : inI c d = false := by rw [ha] at h; simpa using h
      go_enter Tryz.func47, Tryz.ntmps47
      go_wp2_with fail
      generalize (((w.alloc (.cells #[.int .i64 a, .int .i64 b] 36)).alloc (.cells #[.int .i64 c, .int .i64 d] 36)).alloc (.cells #[.int .i64 0, .int .i64 0] 36)) = W at *
      generalize w.heap.size + 1 + 1 = G2 at *
      generalize w.heap.size + 1 = G1 at *
      refine (valid16 a b W).mono ?_
      rintro e w1 ⟨rfl, hb1⟩
      rw [ha]
      replace g0 := (hb1.block _ (lt_of_blk g0)).trans g0
      replace g1 := (hb1.block _ (lt_of_blk g1)).trans g1
      replace g2 := (hb1.block _ (lt_of_blk g2)).trans g2
      have y0 := cell_of_block g0 0
      have y1 := cell_of_block g0 1
      have z0 := cell_of_block g1 0
      have z1 := cell_of_block g1 1
      have x0 := cell_of_block g2 0
      have x1 := cell_of_block g2 1
      have f0 := free_of_block g2 0
      have f1 := free_of_block g2 1
      simp only [List.getElem?_toArray, List.getElem?_cons_zero, List.getElem?_cons_succ] at y0 y1 z0 z1 x0 x1
      replace hb := below_trans' hb hb.size hb1
      clear hb1
      go_wp2_with fail
      refine (valid16 c d w1).mono ?_
      rintro e w2 ⟨rfl, hb1⟩
      rw [hc]
      clear y0 y1 z0 z1 x0 x1 f0 f1
      replace g0 := (hb1.block _ (lt_of_blk g0)).trans g0
      replace g1 := (hb1.block _ (lt_of_blk g1)).trans g1
      replace g2 := (hb1.block _ (lt_of_blk g2)).trans g2
      have y0 := cell_of_block g0 0
      have y1 := cell_of_block g0 1
      have z0 := cell_of_block g1 0
      have z1 := cell_of_block g1 1
      have x0 := cell_of_block g2 0
      have x1 := cell_of_block g2 1
      have f0 := free_of_block g2 0
      have f1 := free_of_block g2 1
      simp only [List.getElem?_toArray, List.getElem?_cons_zero, List.getElem?_cons_succ] at y0 y1 z0 z1 x0 x1
      replace hb := below_trans' hb hb.size hb1
      clear hb1
      go_wp2_with fail
      have k := block_set (block_set g2 0 (.int .i64 0)) 1 (.int .i64 0)
      have t0 := cell_of_block k 0
      have t1 := cell_of_block k 1
      simp only [List.getElem?_toArray, List.getElem?_cons_zero, List.getElem?_cons_succ, List.setIfInBounds_toArray, List.set_cons_zero, List.set_cons_succ] at t0 t1
      exact bodyPost_ret (v := .tuple #[.agg #[.int .i64 0, .int .i64 0], .bool false]) (by simp [results, Tryz.results47, go_sem, t0, t1]) rfl ⟨by rw [E1.out]; rfl, (hb.setCell hw2 _).setCell hw2 _⟩
  | true =>
    have h12 : inI a b = true ∧ inI c d = true := by simpa using h
    have hi1 := inI_iff.1 h12.1
    have hi2 := inI_iff.1 h12.2
    have e1 : subI a b c d = mkI (a - d) (b - c) := by rw [subI, if_pos h12]
    have E1 := Lib.hid e1
    clear e1
    have H12 := Lib.hid h12
    clear h12
    go_enter Tryz.func47, Tryz.ntmps47
    go_wp2_with fail
    generalize (((w.alloc (.cells #[.int .i64 a, .int .i64 b] 36)).alloc (.cells #[.int .i64 c, .int .i64 d] 36)).alloc (.cells #[.int .i64 0, .int .i64 0] 36)) = W at *
    generalize w.heap.size + 1 + 1 = G2 at *
    generalize w.heap.size + 1 = G1 at *
    refine (valid16 a b W).mono ?_
    rintro e w0 ⟨rfl, hb1⟩
    rw [H12.out.1]
    replace g0 := (hb1.block _ (lt_of_blk g0)).trans g0
    replace g1 := (hb1.block _ (lt_of_blk g1)).trans g1
    replace g2 := (hb1.block _ (lt_of_blk g2)).trans g2
    have y0 := cell_of_block g0 0
    have y1 := cell_of_block g0 1
    have z0 := cell_of_block g1 0
    have z1 := cell_of_block g1 1
    have x0 := cell_of_block g2 0
    have x1 := cell_of_block g2 1
    have f0 := free_of_block g2 0
    have f1 := free_of_block g2 1
    simp only [List.getElem?_toArray, List.getElem?_cons_zero, List.getElem?_cons_succ] at y0 y1 z0 z1 x0 x1
    replace hb := below_trans' hb hb.size hb1
    clear hb1
    go_wp2_with fail
    refine (valid16 c d w0).mono ?_
    rintro e w1 ⟨rfl, hb1⟩
    rw [H12.out.2]
    clear y0 y1 z0 z1 x0 x1 f0 f1
    replace g0 := (hb1.block _ (lt_of_blk g0)).trans g0
    replace g1 := (hb1.block _ (lt_of_blk g1)).trans g1
    replace g2 := (hb1.block _ (lt_of_blk g2)).trans g2
    have y0 := cell_of_block g0 0
    have y1 := cell_of_block g0 1
    have z0 := cell_of_block g1 0
    have z1 := cell_of_block g1 1
    have x0 := cell_of_block g2 0
    have x1 := cell_of_block g2 1
    have f0 := free_of_block g2 0
    have f1 := free_of_block g2 1
    simp only [List.getElem?_toArray, List.getElem?_cons_zero, List.getElem?_cons_succ] at y0 y1 z0 z1 x0 x1
    replace hb := below_trans' hb hb.size hb1
    clear hb1
    go_wp2_with fail
    refine (made36 (a - d) (b - c) w1).mono ?_
    rintro e w2 ⟨rfl, hb1⟩
    rw [← E1.out]
    clear y0 y1 z0 z1 x0 x1 f0 f1
    replace g0 := (hb1.block _ (lt_of_blk g0)).trans g0
    replace g1 := (hb1.block _ (lt_of_blk g1)).trans g1
    replace g2 := (hb1.block _ (lt_of_blk g2)).trans g2
    have y0 := cell_of_block g0 0
    have y1 := cell_of_block g0 1
    have z0 := cell_of_block g1 0
    have z1 := cell_of_block g1 1
    have x0 := cell_of_block g2 0
    have x1 := cell_of_block g2 1
    have f0 := free_of_block g2 0
    have f1 := free_of_block g2 1
    simp only [List.getElem?_toArray, List.getElem?_cons_zero, List.getElem?_cons_succ] at y0 y1 z0 z1 x0 x1
    replace hb := below_trans' hb hb.size hb1
    clear hb1
    cases hr : subI a b c d with
    | none =>
      rw [show resV none = .tuple #[.agg #[.int .i64 0, .int .i64 0], .bool false] from rfl]
      go_wp2_with fail
      have k := block_set (block_set g2 0 (.int .i64 (0))) 1 (.int .i64 (0))
      have t0 := cell_of_block k 0
      have t1 := cell_of_block k 1
      simp only [List.getElem?_toArray, List.getElem?_cons_zero, List.getElem?_cons_succ, List.setIfInBounds_toArray, List.set_cons_zero, List.set_cons_succ] at t0 t1
      exact bodyPost_ret (v := resV none) (by simp [results, Tryz.results47, go_sem, t0, t1, resV]) rfl ⟨by rw [hr], (hb.setCell hw2 _).setCell hw2 _⟩
    | some p =>
      obtain ⟨lo, hi⟩ := p
      rw [show resV (some (lo, hi)) = .tuple #[.agg #[.int .i64 lo, .int .i64 hi], .bool true] from rfl]
      go_wp2_with fail
      have k := block_set (block_set g2 0 (.int .i64 (lo))) 1 (.int .i64 (hi))
      have t0 := cell_of_block k 0
      have t1 := cell_of_block k 1
      simp only [List.getElem?_toArray, List.getElem?_cons_zero, List.getElem?_cons_succ, List.setIfInBounds_toArray, List.set_cons_zero, List.set_cons_succ] at t0 t1
      exact bodyPost_ret (v := resV (some (lo, hi))) (by simp [results, Tryz.results47, go_sem, t0, t1, resV]) rfl ⟨by rw [hr], (hb.setCell hw2 _).setCell hw2 _⟩

set_option maxHeartbeats 1000000 in
theorem hull30 (a b c d : Int) (w : World) : Calls Tryz.prog 49 #[.agg #[.int .i64 a, .int .i64 b], .agg #[.int .i64 c, .int .i64 d]] w fun e w' => e = .returned (resV (hullI a b c d)) ∧ Below w.heap.size w w' := by
  obtain ⟨hb, g0, g1, g2⟩ := allocs3 w (ivA a b) (ivA c d) #[.int .i64 0, .int .i64 0] 36 36 36
  unfold ivA at *
  have hw2 : w.heap.size ≤ w.heap.size + 1 + 1 := by omega
  cases h : (inI a b && inI c d) with
  | false =>
    have e1 : hullI a b c d = none := by rw [hullI, if_neg (by intro hh; rw [hh.1, hh.2] at h; cases h)]
    have E1 := Lib.hid e1
    clear e1
    cases ha : inI a b with
    | false =>
      go_enter Tryz.func49, Tryz.ntmps49
      go_wp2_with fail
      generalize (((w.alloc (.cells #[.int .i64 a, .int .i64 b] 36)).alloc (.cells #[.int .i64 c, .int .i64 d] 36)).alloc (.cells #[.int .i64 0, .int .i64 0] 36)) = W at *
      generalize w.heap.size + 1 + 1 = G2 at *
      generalize w.heap.size + 1 = G1 at *
      refine (valid16 a b W).mono ?_
      rintro e w1 ⟨rfl, hb1⟩
      rw [ha]
      replace g0 := (hb1.block _ (lt_of_blk g0)).trans g0
      replace g1 := (hb1.block _ (lt_of_blk g1)).trans g1
      replace g2 := (hb1.block _ (lt_of_blk g2)).trans g2
      have y0 := cell_of_block g0 0
      have y1 := cell_of_block g0 1
      have z0 := cell_of_block g1 0
      have z1 := cell_of_block g1 1
      have x0 := cell_of_block g2 0
      have x1 := cell_of_block g2 1
      have f0 := free_of_block g2 0
      have f1 := free_of_block g2 1
      simp only [List.getElem?_toArray, List.getElem?_cons_zero, List.getElem?_cons_succ] at y0 y1 z0 z1 x0 x1
      replace hb := below_trans' hb hb.size hb1
      clear hb1
      go_wp2_with fail
      have k := block_set (block_set g2 0 (.int .i64 0)) 1 (.int .i64 0)
      have t0 := cell_of_block k 0
      have t1 := cell_of_block k 1
      simp only [List.getElem?_toArray, List.getElem?_cons_zero, List.getElem?_cons_succ, List.setIfInBounds_toArray, List.set_cons_zero, List.set_cons_succ] at t0 t1
      exact bodyPost_ret (v := .tuple #[.agg #[.int .i64 0, .int .i64 0], .bool false]) (by simp [results, Tryz.results49, go_sem, t0, t1]) rfl ⟨by rw [E1.out]; rfl, (hb.setCell hw2 _).setCell hw2 _⟩
    | true =>
      have hc : inI c d = false := by rw [ha] at h; simpa using h
      go_enter Tryz.func49, Tryz.ntmps49
      go_wp2_with fail
      generalize (((w.alloc (.cells #[.int .i64 a, .int .i64 b] 36)).alloc (.cells #[.int .i64 c, .int .i64 d] 36)).alloc (.cells #[.int .i64 0, .int .i64 0] 36)) = W at *
      generalize w.heap.size + 1 + 1 = G2 at *
      generalize w.heap.size + 1 = G1 at *
      refine (valid16 a b W).mono ?_
      rintro e w1 ⟨rfl, hb1⟩
      rw [ha]
      replace g0 := (hb1.block _ (lt_of_blk g0)).trans g0
      replace g1 := (hb1.block _ (lt_of_blk g1)).trans g1
      replace g2 := (hb1.block _ (lt_of_blk g2)).trans g2
      have y0 := cell_of_block g0 0
      have y1 := cell_of_block g0 1
      have z0 := cell_of_block g1 0
      have z1 := cell_of_block g1 1
      have x0 := cell_of_block g2 0
      have x1 := cell_of_block g2 1
      have f0 := free_of_block g2 0
      have f1 := free_of_block g2 1
      simp only [List.getElem?_toArray, List.getElem?_cons_zero, List.getElem?_cons_succ] at y0 y1 z0 z1 x0 x1
      replace hb := below_trans' hb hb.size hb1
      clear hb1
      go_wp2_with fail
      refine (valid16 c d w1).mono ?_
      rintro e w2 ⟨rfl, hb1⟩
      rw [hc]
      clear y0 y1 z0 z1 x0 x1 f0 f1
      replace g0 := (hb1.block _ (lt_of_blk g0)).trans g0
      replace g1 := (hb1.block _ (lt_of_blk g1)).trans g1
      replace g2 := (hb1.block _ (lt_of_blk g2)).trans g2
      have y0 := cell_of_block g0 0
      have y1 := cell_of_block g0 1
      have z0 := cell_of_block g1 0
      have z1 := cell_of_block g1 1
      have x0 := cell_of_block g2 0
      have x1 := cell_of_block g2 1
      have f0 := free_of_block g2 0
      have f1 := free_of_block g2 1
      simp only [List.getElem?_toArray, List.getElem?_cons_zero, List.getElem?_cons_succ] at y0 y1 z0 z1 x0 x1
      replace hb := below_trans' hb hb.size hb1
      clear hb1
      go_wp2_with fail
      have k := block_set (block_set g2 0 (.int .i64 0)) 1 (.int .i64 0)
      have t0 := cell_of_block k 0
      have t1 := cell_of_block k 1
      simp only [List.getElem?_toArray, List.getElem?_cons_zero, List.getElem?_cons_succ, List.setIfInBounds_toArray, List.set_cons_zero, List.set_cons_succ] at t0 t1
      exact bodyPost_ret (v := .tuple #[.agg #[.int .i64 0, .int .i64 0], .bool false]) (by simp [results, Tryz.results49, go_sem, t0, t1]) rfl ⟨by rw [E1.out]; rfl, (hb.setCell hw2 _).setCell hw2 _⟩
  | true =>
    have h12 : inI a b = true ∧ inI c d = true := by simpa using h
    have hi1 := inI_iff.1 h12.1
    have hi2 := inI_iff.1 h12.2
    have e1 : hullI a b c d = some (min a c, max b d) := by rw [hullI, if_pos h12]
    have E1 := Lib.hid e1
    clear e1
    have H12 := Lib.hid h12
    clear h12
    go_enter Tryz.func49, Tryz.ntmps49
    go_wp2_with fail
    generalize (((w.alloc (.cells #[.int .i64 a, .int .i64 b] 36)).alloc (.cells #[.int .i64 c, .int .i64 d] 36)).alloc (.cells #[.int .i64 0, .int .i64 0] 36)) = W at *
    generalize w.heap.size + 1 + 1 = G2 at *
    generalize w.heap.size + 1 = G1 at *
    refine (valid16 a b W).mono ?_
    rintro e w0 ⟨rfl, hb1⟩
    rw [H12.out.1]
    replace g0 := (hb1.block _ (lt_of_blk g0)).trans g0
    replace g1 := (hb1.block _ (lt_of_blk g1)).trans g1
    replace g2 := (hb1.block _ (lt_of_blk g2)).trans g2
    have y0 := cell_of_block g0 0
    have y1 := cell_of_block g0 1
    have z0 := cell_of_block g1 0
    have z1 := cell_of_block g1 1
    have x0 := cell_of_block g2 0
    have x1 := cell_of_block g2 1
    have f0 := free_of_block g2 0
    have f1 := free_of_block g2 1
    simp only [List.getElem?_toArray, List.getElem?_cons_zero, List.getElem?_cons_succ] at y0 y1 z0 z1 x0 x1
    replace hb := below_trans' hb hb.size hb1
    clear hb1
    go_wp2_with fail
    refine (valid16 c d w0).mono ?_
    rintro e w1 ⟨rfl, hb1⟩
    rw [H12.out.2]
    clear y0 y1 z0 z1 x0 x1 f0 f1
    replace g0 := (hb1.block _ (lt_of_blk g0)).trans g0
    replace g1 := (hb1.block _ (lt_of_blk g1)).trans g1
    replace g2 := (hb1.block _ (lt_of_blk g2)).trans g2
    have y0 := cell_of_block g0 0
    have y1 := cell_of_block g0 1
    have z0 := cell_of_block g1 0
    have z1 := cell_of_block g1 1
    have x0 := cell_of_block g2 0
    have x1 := cell_of_block g2 1
    have f0 := free_of_block g2 0
    have f1 := free_of_block g2 1
    simp only [List.getElem?_toArray, List.getElem?_cons_zero, List.getElem?_cons_succ] at y0 y1 z0 z1 x0 x1
    replace hb := below_trans' hb hb.size hb1
    clear hb1
    go_wp2_with fail
    have k := block_set (block_set g2 0 (.int .i64 (min a c))) 1 (.int .i64 (max b d))
    have t0 := cell_of_block k 0
    have t1 := cell_of_block k 1
    simp only [List.getElem?_toArray, List.getElem?_cons_zero, List.getElem?_cons_succ, List.setIfInBounds_toArray, List.set_cons_zero, List.set_cons_succ] at t0 t1
    exact bodyPost_ret (v := resV (some (min a c, max b d))) (by simp [results, Tryz.results49, go_sem, t0, t1, resV]) rfl ⟨by rw [E1.out], (hb.setCell hw2 _).setCell hw2 _⟩

theorem rounded42 (neg more : Bool) (q : Int) (w : World) (h : 0 ≤ q ∧ q ≤ 4611686018427387904) : Calls Tryz.prog 118 #[.bool neg, .int .u64 q, .bool more] w fun e w' => e = .returned (pairV (fitI (some (endsI neg q more)))) ∧ w = w' := by
  rw [fit_ends h.1]
  by_cases hf : 2305843009213693952 < (if more = true then q + 1 else q)
  · rw [if_pos hf]
    cases neg <;> cases more
    all_goals
      simp only [if_true, Bool.false_eq_true, if_false] at hf
      go_enter Tryz.func118, Tryz.ntmps118
      go_wp2_with fail
      go_ret3
      exact ⟨rfl, rfl⟩
  · rw [if_neg hf]
    cases neg <;> cases more
    all_goals
      simp only [if_true, Bool.false_eq_true, if_false] at hf
      go_enter Tryz.func118, Tryz.ntmps118
      go_wp2_with fail
      go_ret3
      exact ⟨by simp [pairV, endsI], rfl⟩

set_option maxRecDepth 100000 in
set_option maxHeartbeats 1000000 in
theorem product37 (x y : Int) (w : World) (hx : -2305843009213693952 ≤ x ∧ x ≤ 2305843009213693952) (hy : -2305843009213693952 ≤ y ∧ y ≤ 2305843009213693952) :
    Calls Tryz.prog 84 #[.int .i64 x, .int .i64 y] w fun e w' => e = .returned (pairV (fitI (prodI x y))) ∧ w = w' := by
  obtain ⟨X, eX, hX⟩ := absI_bd hx
  obtain ⟨Y, eY, hY⟩ := absI_bd hy
  have hN : X * Y ≤ 2305843009213693952 * 2305843009213693952 := Nat.mul_le_mul hX hY
  have hP : prodI x y = if 19807040628566084398385987584 ≤ ((X * Y : Nat) : Int) then none else some (endsI (decide (x < 0) != decide (y < 0)) (((X * Y : Nat) : Int) / 4294967296) (decide (0 < ((X * Y : Nat) : Int) % 4294967296))) := by
    rw [prodI, eX, eY, Int.natCast_mul]
  have sx := fun w => size41 x w (by omega)
  have sy := fun w => size41 y w (by omega)
  obtain ⟨bx, hbx⟩ : ∃ b, decide (x < 0) = b := ⟨_, rfl⟩
  obtain ⟨bY, hby⟩ : ∃ b, decide (y < 0) = b := ⟨_, rfl⟩
  rw [eX, hbx] at sx
  rw [eY, hby] at sy
  rw [hbx, hby] at hP
  have hdm := Nat.div_add_mod (X * Y) 18446744073709551616
  have hml := Nat.mod_lt (X * Y) (show 0 < 18446744073709551616 by omega)
  have SX := Lib.hid sx
  have SY := Lib.hid sy
  generalize hn : X * Y = N at *
  generalize hh : N / 18446744073709551616 = H at *
  generalize hl : N % 18446744073709551616 = L at *
  have HN := Lib.hid hn
  have HH := Lib.hid hh
  have HL := Lib.hid hl
  clear hn hh hl eX eY sx sy hbx hby
  obtain ⟨h, eh⟩ : ∃ h : Int, (H : Int) = h := ⟨_, rfl⟩
  obtain ⟨l, el⟩ : ∃ h : Int, (L : Int) = h := ⟨_, rfl⟩
  have EH := Lib.hid eh
  have EL := Lib.hid el
  by_cases hbig : 1073741824 ≤ H
  · have e1 : fitI (prodI x y) = none := by rw [hP, if_pos (by omega)]; rfl
    have E1 := Lib.hid e1
    have hb3 : 0 < h / 1073741824 := by omega
    have hb1 : 1073741824 ≤ h := by omega
    clear hP e1 hdm hN eh el hbig hml
    go_enter Tryz.func84, Tryz.ntmps84
    go_wp2_with fail
    refine (SX.out w).mono ?_
    rintro e _ ⟨rfl, rfl⟩
    go_wp2_with fail
    refine (SY.out w).mono ?_
    rintro e _ ⟨rfl, rfl⟩
    go_wp2_with fail
    refine (Tryz.bits_Mul64 X Y (by omega) (by omega) w).mono ?_
    rintro e _ ⟨rfl, rfl⟩
    rw [HN.out, HH.out, HL.out, EH.out, EL.out]
    go_wp2_with fail
    go_ret3
    exact ⟨by rw [E1.out]; rfl, rfl⟩
  · have hor := hilo_or (H := H) (L := L) (by omega) hml
    have e1 : prodI x y = some (endsI (bx != bY) ((H * 4294967296 + L / 4294967296 : Nat) : Int) (decide (0 < (L : Int) % 4294967296))) := by
      have q1 : N / 4294967296 = H * 4294967296 + L / 4294967296 := by omega
      have q2 : N % 4294967296 = L % 4294967296 := by omega
      rw [hP, if_neg (by omega), show ((N : Int) / 4294967296) = ((N / 4294967296 : Nat) : Int) by omega, q1, show ((N : Int) % 4294967296) = ((N % 4294967296 : Nat) : Int) by omega, q2, show ((L % 4294967296 : Nat) : Int) = (L : Int) % 4294967296 by omega]
    have hq : (0 : Int) ≤ ((H * 4294967296 + L / 4294967296 : Nat) : Int) ∧ ((H * 4294967296 + L / 4294967296 : Nat) : Int) ≤ 4611686018427387904 := by omega
    generalize ((H * 4294967296 + L / 4294967296 : Nat) : Int) = Q at *
    have hb1 : 0 ≤ h ∧ h < 1073741824 := by omega
    have hb2 : 0 ≤ l ∧ l < 18446744073709551616 := by omega
    have hb3 : ¬ 0 < h / 1073741824 := by omega
    have hb4 : decide (0 < IntKind.u64.wrap (l * 4294967296)) = decide (0 < l % 4294967296) := by rw [IntKind.wrap_u64, decide_eq_decide]; omega
    rw [eh, el] at hor
    rw [el] at e1
    have r42 := fun w => rounded42 (bx != bY) (decide (0 < l % 4294967296)) Q w hq
    rw [← e1] at r42
    have R42 := Lib.hid r42
    clear eh el hbig hml hP e1 hdm hN r42
    generalize fitI (prodI x y) = R at *
    go_enter Tryz.func84, Tryz.ntmps84
    go_wp2_with fail
    refine (SX.out w).mono ?_
    rintro e _ ⟨rfl, rfl⟩
    go_wp2_with fail
    refine (SY.out w).mono ?_
    rintro e _ ⟨rfl, rfl⟩
    go_wp2_with fail
    refine (Tryz.bits_Mul64 X Y (by omega) (by omega) w).mono ?_
    rintro e w1 ⟨rfl, hw⟩
    cases hw
    rw [HN.out, HH.out, HL.out, EH.out, EL.out]
    go_wp2_with fail
    refine (R42.out w).mono ?_
    rintro e _ ⟨rfl, rfl⟩
    cases R with
    | none =>
      rw [show pairV none = .tuple #[.int .i64 0, .int .i64 0, .bool false] from rfl]
      go_wp2_with fail
      go_ret3
      exact ⟨rfl, rfl⟩
    | some p =>
      obtain ⟨lo, hi⟩ := p
      rw [show pairV (some (lo, hi)) = .tuple #[.int .i64 lo, .int .i64 hi, .bool true] from rfl]
      go_wp2_with fail
      go_ret3
      exact ⟨rfl, rfl⟩

set_option maxRecDepth 100000 in
set_option maxHeartbeats 1000000 in
theorem least43 (r n : Int) (w : World) (h0 : 0 ≤ n) (h1 : n ≤ 2305843009213693952) (hr : 0 ≤ r) (hr1 : r ≤ 281474976710656) :
    Calls Tryz.prog 116 #[.int .i64 r, .int .i64 n] w fun e w' => e = .returned (.bool (decide (rootU n ≤ r))) ∧ w = w' := by
  have hiff := rootU_iff (n := n) (m := r) h0 h1 hr
  obtain ⟨R, rfl⟩ := Int.eq_ofNat_of_zero_le hr
  obtain ⟨X, rfl⟩ := Int.eq_ofNat_of_zero_le h0
  have mr := fun w => Tryz.bits_Mul64 R R (by omega) (by omega) w
  obtain ⟨ph, eph⟩ : ∃ h : Int, ((R * R / 18446744073709551616 : Nat) : Int) = h := ⟨_, rfl⟩
  obtain ⟨pl, epl⟩ : ∃ h : Int, ((R * R % 18446744073709551616 : Nat) : Int) = h := ⟨_, rfl⟩
  rw [eph, epl] at mr
  obtain ⟨h, eh⟩ : ∃ h : Int, (X : Int) / 4294967296 = h := ⟨_, rfl⟩
  obtain ⟨l, el⟩ : ∃ h : Int, IntKind.u64.wrap ((X : Int) * 4294967296) = h := ⟨_, rfl⟩
  have hl : l = (X : Int) * 4294967296 % 18446744073709551616 := by rw [← el, IntKind.wrap_u64]
  rw [← Int.natCast_mul] at hiff
  have hcmp : (h < ph ∨ ph = h ∧ l ≤ pl) ↔ rootU (X : Int) ≤ (R : Int) := by
    rw [← hiff, ← eph, ← epl, ← eh, hl]; omega
  generalize rootU (X : Int) = U at *
  have MR := Lib.hid mr
  have HC := Lib.hid hcmp
  clear mr hcmp eph epl hiff hl
  by_cases c1 : h < ph
  · have hd := HC.out.1 (.inl c1)
    have HD := Lib.hid hd
    clear hd
    go_enter Tryz.func116, Tryz.ntmps116
    go_wp2_with fail
    refine (MR.out w).mono ?_
    rintro e w1 ⟨rfl, hw⟩
    cases hw
    go_wp2_with fail
    go_ret
    exact ⟨ret_bool (by simp [HD.out]), rfl⟩
  · by_cases c2 : ph = h
    · have d2 : (ph == h) = true := by simp [c2]
      have hd : decide (l ≤ pl) = decide (U ≤ (R : Int)) := by
        rw [decide_eq_decide]
        exact ⟨fun hh => HC.out.1 (.inr ⟨c2, hh⟩), fun hh => (HC.out.2 hh).elim (fun h3 => absurd h3 c1) fun h3 => h3.2⟩
      have HD := Lib.hid hd
      clear c2 hd
      go_enter Tryz.func116, Tryz.ntmps116
      go_wp2_with fail
      refine (MR.out w).mono ?_
      rintro e w1 ⟨rfl, hw⟩
      cases hw
      go_wp2_with fail
      go_ret
      exact ⟨ret_bool (by rw [← HD.out, show decide (h < ph) = false by simp; omega]; rfl), rfl⟩
    · have d2 : (ph == h) = false := by simp [c2]
      have hd : ¬ U ≤ (R : Int) := fun hh => (HC.out.2 hh).elim (fun h3 => c1 h3) fun h3 => c2 h3.1
      have HD := Lib.hid hd
      clear c2 hd
      go_enter Tryz.func116, Tryz.ntmps116
      go_wp2_with fail
      refine (MR.out w).mono ?_
      rintro e w1 ⟨rfl, hw⟩
      cases hw
      go_wp2_with fail
      go_ret
      exact ⟨ret_bool (by simp; have := HD.out; omega), rfl⟩

set_option maxRecDepth 100000 in
set_option maxHeartbeats 1000000 in
theorem root39 (n : Int) (w : World) (h0 : 0 ≤ n) (h1 : n ≤ 2305843009213693952) :
    Calls Tryz.prog 82 #[.int .i64 n] w fun e w' => e = .returned (.int .i64 (rootU n)) ∧ w = w' := by
  obtain ⟨u0, u1⟩ := rootU_bd h0 h1
  have ls := fun r w hr hr1 => least43 r n w h0 h1 hr hr1
  generalize rootU n = U at *
  have LS := Lib.hid ls
  clear ls
  go_enter Tryz.func82, Tryz.ntmps82
  go_wp2_with fail
  go_loopg [3, 4] 140737488355328 (fun m s t wr => ∃ lo hi : Int, 0 ≤ lo ∧ lo ≤ U ∧ U ≤ hi ∧ hi ≤ 140737488355328 ∧ m = (hi - lo).toNat ∧ s = .int .i64 lo ∧ t = .int .i64 hi ∧ wr = w)
  case atStart => exact ⟨0, 140737488355328, by omega, u0, u1, by omega, by omega, rfl, rfl, rfl⟩
  case round =>
    obtain ⟨lo, hi, a1, a2, a3, a4, hm, rfl, rfl, rfl⟩ := hrel
    have HM := Lib.hid hm
    clear hm
    by_cases hlt : lo < hi
    · obtain ⟨m, hmm⟩ : ∃ m, lo + (hi - lo) / 2 = m := ⟨_, rfl⟩
      have hmb : lo ≤ m ∧ m < hi := by omega
      have lw := LS.out m wr (by omega) (by omega)
      by_cases hU : U ≤ m
      · rw [decide_eq_true hU] at lw
        have LW := Lib.hid lw
        clear lw
        go_wp2_with fail
        refine LW.out.mono ?_
        rintro e _ ⟨rfl, rfl⟩
        go_wp2_with fail
        go_roundg (m - lo).toNat
        case measure => have := HM.out; omega
        case rel => exact ⟨lo, m, a1, a2, hU, by omega, rfl, rfl, rfl, rfl⟩
      · rw [decide_eq_false hU] at lw
        have LW := Lib.hid lw
        clear lw
        go_wp2_with fail
        refine LW.out.mono ?_
        rintro e _ ⟨rfl, rfl⟩
        go_wp2_with fail
        go_roundg (hi - (m + 1)).toNat
        case measure => have := HM.out; omega
        case rel => exact ⟨m + 1, hi, by omega, by omega, a3, a4, rfl, by go_num, rfl, rfl⟩
    · obtain rfl : lo = U := by omega
      go_wp2_with fail
      go_ret
      exact ⟨rfl, rfl⟩

set_option maxRecDepth 100000 in
set_option maxHeartbeats 2000000 in
theorem sqrt31 (a b : Int) (w : World) : Calls Tryz.prog 45 #[.agg #[.int .i64 a, .int .i64 b]] w fun e w' => e = .returned (resV (sqrtI a b)) ∧ Below w.heap.size w w' := by
  obtain ⟨hb, g0, g1⟩ := allocs2 w (ivA a b) #[.int .i64 0, .int .i64 0] 36 36
  unfold ivA at *
  have hw1 : w.heap.size ≤ w.heap.size + 1 := by omega
  by_cases hok : inI a b = true ∧ 0 ≤ a
  · have hi1 := inI_iff.1 hok.1
    have r1 := fun w => root39 a w hok.2 (by omega)
    have r2 := fun w => root39 b w (by omega) (by omega)
    obtain ⟨u0, u1⟩ := rootU_bd (n := a) (by omega) (by omega)
    obtain ⟨v0, v1⟩ := rootU_bd (n := b) (by omega) (by omega)
    have hdec := rootU_dec (n := a) hok.2 (by omega)
    have e2 : sqrtI a b = some (rootI a, rootU b) := by rw [sqrtI, if_pos hok]; rfl
    have HV := Lib.hid hok.1
    have ha0 := hok.2
    clear hok
    generalize rootI a = lo at *
    generalize rootU b = V at *
    obtain ⟨U, hU⟩ := Int.eq_ofNat_of_zero_le u0
    rw [hU] at hdec r1 u1
    obtain ⟨X, hXa⟩ := Int.eq_ofNat_of_zero_le ha0
    have mu := fun w => Tryz.bits_Mul64 U U (by omega) (by omega) w
    obtain ⟨ph, eph⟩ : ∃ h : Int, ((U * U / 18446744073709551616 : Nat) : Int) = h := ⟨_, rfl⟩
    obtain ⟨pl, epl⟩ : ∃ h : Int, ((U * U % 18446744073709551616 : Nat) : Int) = h := ⟨_, rfl⟩
    rw [eph, epl] at mu
    obtain ⟨h, eh⟩ : ∃ h : Int, a / 4294967296 = h := ⟨_, rfl⟩
    obtain ⟨l, el⟩ : ∃ h : Int, IntKind.u64.wrap (a * 4294967296) = h := ⟨_, rfl⟩
    have hl : l = a * 4294967296 % 18446744073709551616 := by rw [← el, IntKind.wrap_u64]
    have hcmp : (ph = h ∧ pl = l) ↔ (U : Int) * U = a * 4294967296 := by
      rw [← Int.natCast_mul, ← eph, ← epl, ← eh, hl]; omega
    have E2 := Lib.hid e2
    have R1 := Lib.hid r1
    have R2 := Lib.hid r2
    have MU := Lib.hid mu
    have HC := Lib.hid hcmp
    have HD := Lib.hid hdec
    clear r1 r2 mu hcmp hdec e2 hU hXa eph epl hl u0
    by_cases hex : (U : Int) * U = a * 4294967296
    · have hlo := HD.out
      rw [if_pos hex] at hlo
      obtain ⟨c1, c2⟩ := HC.out.2 hex
      have d1 : (ph != h) = false := by simp [c1]
      have d2 : (pl != l) = false := by simp [c2]
      have d3 : (ph == h) = true := by simp [c1]
      have d4 : (pl == l) = true := by simp [c2]
      have HLO := Lib.hid hlo
      clear hex c1 c2 hlo
      go_enter Tryz.func45, Tryz.ntmps45
      go_wp2_with fail
      generalize ((w.alloc (.cells #[.int .i64 a, .int .i64 b] 36)).alloc (.cells #[.int .i64 0, .int .i64 0] 36)) = W at *
      generalize w.heap.size + 1 = G1 at *
      refine (valid16 a b W).mono ?_
      rintro e w1 ⟨rfl, hb1⟩
      rw [HV.out]
      replace g0 := (hb1.block _ (lt_of_blk g0)).trans g0
      replace g1 := (hb1.block _ (lt_of_blk g1)).trans g1
      have y0 := cell_of_block g0 0
      have y1 := cell_of_block g0 1
      have x0 := cell_of_block g1 0
      have x1 := cell_of_block g1 1
      have f0 := free_of_block g1 0
      have f1 := free_of_block g1 1
      simp only [List.getElem?_toArray, List.getElem?_cons_zero, List.getElem?_cons_succ] at y0 y1 x0 x1
      replace hb := below_trans' hb hb.size hb1
      clear hb1
      go_wp2_with fail
      refine (R1.out w1).mono ?_
      rintro e _ ⟨rfl, rfl⟩
      go_wp2_with fail
      refine (MU.out w1).mono ?_
      rintro e w2 ⟨rfl, hw⟩
      cases hw
      go_wp2_with fail
      refine (R2.out w1).mono ?_
      rintro e _ ⟨rfl, rfl⟩
      go_wp2_with fail
      have k := block_set (block_set g1 0 (.int .i64 (U : Int))) 1 (.int .i64 V)
      have t0 := cell_of_block k 0
      have t1 := cell_of_block k 1
      simp only [List.getElem?_toArray, List.getElem?_cons_zero, List.getElem?_cons_succ, List.setIfInBounds_toArray, List.set_cons_zero, List.set_cons_succ] at t0 t1
      exact bodyPost_ret (v := resV (some ((U : Int), V))) (by simp [results, Tryz.results45, go_sem, t0, t1, resV]) rfl ⟨by rw [E2.out, HLO.out], (hb.setCell hw1 _).setCell hw1 _⟩
    · have hlo := HD.out
      rw [if_neg hex] at hlo
      have HLO := Lib.hid hlo
      by_cases c1 : ph = h
      · have c2 : ¬ pl = l := fun hh => hex (HC.out.1 ⟨c1, hh⟩)
        have d1 : (ph != h) = false := by simp [c1]
        have d2 : (pl != l) = true := by simp [c2]
        clear hex c1 c2 hlo
        go_enter Tryz.func45, Tryz.ntmps45
        go_wp2_with fail
        generalize ((w.alloc (.cells #[.int .i64 a, .int .i64 b] 36)).alloc (.cells #[.int .i64 0, .int .i64 0] 36)) = W at *
        generalize w.heap.size + 1 = G1 at *
        refine (valid16 a b W).mono ?_
        rintro e w1 ⟨rfl, hb1⟩
        rw [HV.out]
        replace g0 := (hb1.block _ (lt_of_blk g0)).trans g0
        replace g1 := (hb1.block _ (lt_of_blk g1)).trans g1
        have y0 := cell_of_block g0 0
        have y1 := cell_of_block g0 1
        have x0 := cell_of_block g1 0
        have x1 := cell_of_block g1 1
        have f0 := free_of_block g1 0
        have f1 := free_of_block g1 1
        simp only [List.getElem?_toArray, List.getElem?_cons_zero, List.getElem?_cons_succ] at y0 y1 x0 x1
        replace hb := below_trans' hb hb.size hb1
        clear hb1
        go_wp2_with fail
        refine (R1.out w1).mono ?_
        rintro e _ ⟨rfl, rfl⟩
        go_wp2_with fail
        refine (MU.out w1).mono ?_
        rintro e w2 ⟨rfl, hw⟩
        cases hw
        go_wp2_with fail
        refine (R2.out w1).mono ?_
        rintro e _ ⟨rfl, rfl⟩
        go_wp2_with fail
        have k := block_set (block_set g1 0 (.int .i64 ((U : Int) - 1))) 1 (.int .i64 V)
        have t0 := cell_of_block k 0
        have t1 := cell_of_block k 1
        simp only [List.getElem?_toArray, List.getElem?_cons_zero, List.getElem?_cons_succ, List.setIfInBounds_toArray, List.set_cons_zero, List.set_cons_succ] at t0 t1
        exact bodyPost_ret (v := resV (some ((U : Int) - 1, V))) (by simp [results, Tryz.results45, go_sem, t0, t1, resV]) rfl ⟨by rw [E2.out, HLO.out], (hb.setCell hw1 _).setCell hw1 _⟩
      · have d1 : (ph != h) = true := by simp [c1]
        clear hex c1 hlo
        go_enter Tryz.func45, Tryz.ntmps45
        go_wp2_with fail
        generalize ((w.alloc (.cells #[.int .i64 a, .int .i64 b] 36)).alloc (.cells #[.int .i64 0, .int .i64 0] 36)) = W at *
        generalize w.heap.size + 1 = G1 at *
        refine (valid16 a b W).mono ?_
        rintro e w1 ⟨rfl, hb1⟩
        rw [HV.out]
        replace g0 := (hb1.block _ (lt_of_blk g0)).trans g0
        replace g1 := (hb1.block _ (lt_of_blk g1)).trans g1
        have y0 := cell_of_block g0 0
        have y1 := cell_of_block g0 1
        have x0 := cell_of_block g1 0
        have x1 := cell_of_block g1 1
        have f0 := free_of_block g1 0
        have f1 := free_of_block g1 1
        simp only [List.getElem?_toArray, List.getElem?_cons_zero, List.getElem?_cons_succ] at y0 y1 x0 x1
        replace hb := below_trans' hb hb.size hb1
        clear hb1
        go_wp2_with fail
        refine (R1.out w1).mono ?_
        rintro e _ ⟨rfl, rfl⟩
        go_wp2_with fail
        refine (MU.out w1).mono ?_
        rintro e w2 ⟨rfl, hw⟩
        cases hw
        go_wp2_with fail
        refine (R2.out w1).mono ?_
        rintro e _ ⟨rfl, rfl⟩
        go_wp2_with fail
        have k := block_set (block_set g1 0 (.int .i64 ((U : Int) - 1))) 1 (.int .i64 V)
        have t0 := cell_of_block k 0
        have t1 := cell_of_block k 1
        simp only [List.getElem?_toArray, List.getElem?_cons_zero, List.getElem?_cons_succ, List.setIfInBounds_toArray, List.set_cons_zero, List.set_cons_succ] at t0 t1
        exact bodyPost_ret (v := resV (some ((U : Int) - 1, V))) (by simp [results, Tryz.results45, go_sem, t0, t1, resV]) rfl ⟨by rw [E2.out, HLO.out], (hb.setCell hw1 _).setCell hw1 _⟩
  · have e1 : sqrtI a b = none := by rw [sqrtI, if_neg hok]
    have E1 := Lib.hid e1
    clear e1
    cases hv : inI a b with
    | false =>
      go_enter Tryz.func45, Tryz.ntmps45
      go_wp2_with fail
      generalize ((w.alloc (.cells #[.int .i64 a, .int .i64 b] 36)).alloc (.cells #[.int .i64 0, .int .i64 0] 36)) = W at *
      generalize w.heap.size + 1 = G1 at *
      refine (valid16 a b W).mono ?_
      rintro e w1 ⟨rfl, hb1⟩
      rw [hv]
      replace g0 := (hb1.block _ (lt_of_blk g0)).trans g0
      replace g1 := (hb1.block _ (lt_of_blk g1)).trans g1
      have y0 := cell_of_block g0 0
      have y1 := cell_of_block g0 1
      have x0 := cell_of_block g1 0
      have x1 := cell_of_block g1 1
      have f0 := free_of_block g1 0
      have f1 := free_of_block g1 1
      simp only [List.getElem?_toArray, List.getElem?_cons_zero, List.getElem?_cons_succ] at y0 y1 x0 x1
      replace hb := below_trans' hb hb.size hb1
      clear hb1 g0
      go_wp2_with fail
      have k := block_set (block_set g1 0 (.int .i64 0)) 1 (.int .i64 0)
      have t0 := cell_of_block k 0
      have t1 := cell_of_block k 1
      simp only [List.getElem?_toArray, List.getElem?_cons_zero, List.getElem?_cons_succ, List.setIfInBounds_toArray, List.set_cons_zero, List.set_cons_succ] at t0 t1
      exact bodyPost_ret (v := .tuple #[.agg #[.int .i64 0, .int .i64 0], .bool false]) (by simp [results, Tryz.results45, go_sem, t0, t1]) rfl ⟨by rw [E1.out]; rfl, (hb.setCell hw1 _).setCell hw1 _⟩
    | true =>
      have ha : a < 0 := by
        refine Decidable.byContradiction fun h => hok ⟨hv, by omega⟩
      go_enter Tryz.func45, Tryz.ntmps45
      go_wp2_with fail
      generalize ((w.alloc (.cells #[.int .i64 a, .int .i64 b] 36)).alloc (.cells #[.int .i64 0, .int .i64 0] 36)) = W at *
      generalize w.heap.size + 1 = G1 at *
      refine (valid16 a b W).mono ?_
      rintro e w1 ⟨rfl, hb1⟩
      rw [hv]
      replace g0 := (hb1.block _ (lt_of_blk g0)).trans g0
      replace g1 := (hb1.block _ (lt_of_blk g1)).trans g1
      have y0 := cell_of_block g0 0
      have y1 := cell_of_block g0 1
      have x0 := cell_of_block g1 0
      have x1 := cell_of_block g1 1
      have f0 := free_of_block g1 0
      have f1 := free_of_block g1 1
      simp only [List.getElem?_toArray, List.getElem?_cons_zero, List.getElem?_cons_succ] at y0 y1 x0 x1
      replace hb := below_trans' hb hb.size hb1
      clear hb1 g0
      go_wp2_with fail
      have k := block_set (block_set g1 0 (.int .i64 0)) 1 (.int .i64 0)
      have t0 := cell_of_block k 0
      have t1 := cell_of_block k 1
      simp only [List.getElem?_toArray, List.getElem?_cons_zero, List.getElem?_cons_succ, List.setIfInBounds_toArray, List.set_cons_zero, List.set_cons_succ] at t0 t1
      exact bodyPost_ret (v := .tuple #[.agg #[.int .i64 0, .int .i64 0], .bool false]) (by simp [results, Tryz.results45, go_sem, t0, t1]) rfl ⟨by rw [E1.out]; rfl, (hb.setCell hw1 _).setCell hw1 _⟩

def ptrS (cs : Array Value) (e i : Nat) : Pred := fun v w => ∃ g, v = .pointer (some ⟨g, i, none⟩) ∧ w.heap[g]? = some (.cells cs e (0, 0))
theorem ptrS_mono (cs : Array Value) (e i : Nat) : ∀ v w w', LeW w w' → ptrS cs e i v w → ptrS cs e i v w' := fun v w w' hR ⟨g, h1, h3⟩ =>
  ⟨g, h1, by rw [hR.block g (Array.getElem?_eq_some_iff.1 h3).1]; exact h3⟩
section
variable {P : Program} {ops : Array Oper} {R : World → World → Prop} {w0 : World}
/-- An index into what came up last. -/
theorem late_index {T : TypeId} {d : Tmp} {o2 : Operand} {cs : Array Value} {e n i B : Nat} {dst : Option Tmp} {type : TypeId} {pos : String} {after : Array Edge} {a a' : Act} {next : List (Tmp × Pred) → Act → Prop} (pre0 : List (Tmp × Pred))
    (hpre : ∀ p ∈ pre0, p.1 ≠ d) (hR : ∀ w, R w w) (hm : ∀ v w w', R w w' → ptrS cs e i v w → ptrS cs e i v w')
    (hrun : ∀ v g w, v = .slice (some ⟨g, 0, none⟩) n n → (execOp (a.put (some d) v).eval ⟨dst, .indexAddr T (.tmp d) o2, type, pos, after, none⟩).run P w = .ok (.value (.pointer (some ⟨g, i, none⟩))) w)
    (hp : a.put dst undef = a') (hn : next (pre0 ++ [(d, freshS B cs e n)] ++ [(dst.getD 0, ptrS cs e i)]) a') : LateAt P ops R w0 ⟨dst, .indexAddr T (.tmp d) o2, type, pos, after, none⟩ [d] (some (ptrS cs e i)) (pre0 ++ [(d, freshS B cs e n)]) a next := by
  refine ⟨hm, fun x => withGens_one hpre fun v hv => ?_, by rw [hp]; exact hn⟩
  obtain ⟨g, rfl, _, hg⟩ := hv
  unfold tOp
  rw [if_pos (show Region.wanted _ _ = true from rfl), hrun _ g x.w rfl]
  exact ⟨hR _, g, rfl, hg⟩
/-- A load by it. -/
theorem late_load {T : TypeId} {d : Tmp} {cs : Array Value} {e i : Nat} {c : Value} {dst : Option Tmp} {type : TypeId} {pos : String} {after : Array Edge} {a a' : Act} {next : List (Tmp × Pred) → Act → Prop} (pre0 : List (Tmp × Pred))
    (hpre : ∀ p ∈ pre0, p.1 ≠ d) (hR : ∀ w, R w w) (hc : cs[i]? = some c)
    (hrun : ∀ v g w, v = .pointer (some ⟨g, i, none⟩) → w.cell? ⟨g, i, none⟩ = some c → (execOp (a.put (some d) v).eval ⟨dst, .load T (.tmp d), type, pos, after, none⟩).run P w = .ok (.value c) w)
    (hp : a.put dst c = a') (hn : next (pre0 ++ [(d, ptrS cs e i)]) a') : LateAt P ops R w0 ⟨dst, .load T (.tmp d), type, pos, after, none⟩ [d] none (pre0 ++ [(d, ptrS cs e i)]) a next := by
  refine ⟨c, fun x => withGens_one hpre fun v hv => ?_, by rw [hp]; exact hn⟩
  obtain ⟨g, rfl, hg⟩ := hv
  unfold tOp
  rw [if_pos (show Region.wanted _ _ = true from rfl), hrun _ g x.w rfl (by rw [cell_of_block hg i]; exact hc)]
  exact ⟨hR _, rfl⟩
end

theorem pair_cases (r : IR) : ∃ u v ok, pairV r = .tuple #[.int .i64 u, .int .i64 v, .bool ok] ∧ (ok = false ∧ r = none ∨ ok = true ∧ r = some (u, v)) := by
  cases r with
  | none => exact ⟨0, 0, false, rfl, .inl ⟨rfl, rfl⟩⟩
  | some r => obtain ⟨u, v⟩ := r; exact ⟨u, v, true, rfl, .inr ⟨rfl, rfl⟩⟩

set_option maxRecDepth 100000 in
set_option maxHeartbeats 16000000 in
theorem mul27 (a b c d : Int) (w : World) : Calls Tryz.prog 46 #[.agg #[.int .i64 a, .int .i64 b], .agg #[.int .i64 c, .int .i64 d]] w fun e w' => e = .returned (resV (mulI a b c d)) ∧ Below w.heap.size w w' := by
  obtain ⟨hbW, g0, g1, g2⟩ := allocs3 w (ivA a b) (ivA c d) #[.int .i64 0, .int .i64 0] 36 36 36
  unfold ivA at *
  have hw2 : w.heap.size ≤ w.heap.size + 1 + 1 := by omega
  obtain ⟨R, hR⟩ : ∃ R, mulI a b c d = R := ⟨_, rfl⟩
  rw [hR]
  have V1 := Lib.hid (valid16 a b)
  have V2 := Lib.hid (valid16 c d)
  have k0 := cells2i g0
  cases ha : inI a b with
  | false =>
    have e1 : R = none := by rw [← hR]; unfold mulI; rw [if_neg (by intro hh; rw [hh.1] at ha; cases ha)]
    subst e1
    rw [ha] at V1
    clear hR ha
    go_enter Tryz.func46, Tryz.ntmps46
    go_wp2_with fail
    generalize (((w.alloc (.cells #[.int .i64 a, .int .i64 b] 36)).alloc (.cells #[.int .i64 c, .int .i64 d] 36)).alloc (.cells #[.int .i64 0, .int .i64 0] 36)) = W at *
    refine (V1.out W).mono ?_
    rintro e w1 ⟨rfl, hb1⟩
    replace g0 := blk_below hb1 g0
    replace g1 := blk_below hb1 g1
    replace g2 := blk_below hb1 g2
    have x2 := cells2i g2
    have f2 := free_of_block g2
    obtain ⟨y0, y1⟩ := ret2i (A := 0) (B := 0) g2
    have hB := below_trans' hbW hbW.size hb1
    have hbe := below_sets2 hB hw2 (.int .i64 0) (.int .i64 0)
    clear hB hb1 hbW
    go_wp2_with fail
    exact bodyPost_ret (v := .tuple #[.agg #[.int .i64 0, .int .i64 0], .bool false]) (by simp [results, Tryz.results46, go_sem, y0, y1]) rfl ⟨rfl, hbe⟩
  | true =>
  rw [ha] at V1
  cases hc : inI c d with
  | false =>
    have e1 : R = none := by rw [← hR]; unfold mulI; rw [if_neg (by intro hh; rw [hh.2] at hc; cases hc)]
    subst e1
    rw [hc] at V2
    clear hR ha hc
    go_enter Tryz.func46, Tryz.ntmps46
    go_wp2_with fail
    generalize (((w.alloc (.cells #[.int .i64 a, .int .i64 b] 36)).alloc (.cells #[.int .i64 c, .int .i64 d] 36)).alloc (.cells #[.int .i64 0, .int .i64 0] 36)) = W at *
    refine (V1.out W).mono ?_
    rintro e w0 ⟨rfl, hb0⟩
    have k1 := cells2i (blk_below hb0 g1)
    clear k0
    go_wp2_with fail
    refine (V2.out w0).mono ?_
    rintro e w1 ⟨rfl, hb2⟩
    have hb1 := below_trans' hb0 hb0.size hb2
    clear hb0 hb2 k1
    replace g0 := blk_below hb1 g0
    replace g1 := blk_below hb1 g1
    replace g2 := blk_below hb1 g2
    have x2 := cells2i g2
    have f2 := free_of_block g2
    obtain ⟨y0, y1⟩ := ret2i (A := 0) (B := 0) g2
    have hB := below_trans' hbW hbW.size hb1
    have hbe := below_sets2 hB hw2 (.int .i64 0) (.int .i64 0)
    clear hB hb1 hbW
    go_wp2_with fail
    exact bodyPost_ret (v := .tuple #[.agg #[.int .i64 0, .int .i64 0], .bool false]) (by simp [results, Tryz.results46, go_sem, y0, y1]) rfl ⟨rfl, hbe⟩
  | true =>
    rw [hc] at V2
    have hi1 := inI_iff.1 ha
    have hi2 := inI_iff.1 hc
    have hR' : hull4 2305843009213693952 (-2305843009213693952) [fitI (prodI a c), fitI (prodI a d), fitI (prodI b c), fitI (prodI b d)] = R := by rw [← hR]; unfold mulI; rw [if_pos ⟨ha, hc⟩]; rfl
    have P0 := fun w => product37 a c w (by omega) (by omega)
    have P1 := fun w => product37 a d w (by omega) (by omega)
    have P2 := fun w => product37 b c w (by omega) (by omega)
    have P3 := fun w => product37 b d w (by omega) (by omega)
    generalize fitI (prodI a c) = r0 at *
    generalize fitI (prodI a d) = r1 at *
    generalize fitI (prodI b c) = r2 at *
    generalize fitI (prodI b d) = r3 at *
    have C0 := Lib.hid P0
    have C1 := Lib.hid P1
    have C2 := Lib.hid P2
    have C3 := Lib.hid P3
    have HR := Lib.hid hR'
    clear hR hR' P0 P1 P2 P3 ha hc hi1 hi2
    go_enter Tryz.func46, Tryz.ntmps46
    go_wp2_with fail
    generalize (((w.alloc (.cells #[.int .i64 a, .int .i64 b] 36)).alloc (.cells #[.int .i64 c, .int .i64 d] 36)).alloc (.cells #[.int .i64 0, .int .i64 0] 36)) = W at *
    refine (V1.out W).mono ?_
    rintro e w0 ⟨rfl, hb0⟩
    have k1 := cells2i (blk_below hb0 g1)
    clear k0
    go_wp2_with fail
    refine (V2.out w0).mono ?_
    rintro e w1 ⟨rfl, hb2⟩
    have hb1 := below_trans' hb0 hb0.size hb2
    clear hb0 hb2 k1
    have hB := below_trans' hbW hbW.size hb1
    replace g0 := blk_below hb1 g0
    replace g1 := blk_below hb1 g1
    replace g2 := blk_below hb1 g2
    clear hb1 hbW
    go_upto_region 4 with fail
    generalize w1 = wb at *
    go_wp2_with fail
    go_loopg [6, 7, 8, 9, 10, 11] 5 (fun m lo hi i _ _ _ wr => ∃ (k : Nat) (p q : Int), k ≤ 4 ∧ m = 5 - k ∧ i = .int .i64 k ∧ lo = .int .i64 p ∧ hi = .int .i64 q ∧ Hid (hull4 p q ([r0, r1, r2, r3].drop k) = R) ∧ Below wb.heap.size wb wr)
    case atStart => exact ⟨0, _, _, by omega, rfl, rfl, rfl, rfl, Lib.hid HR.out, Below.refl _ _⟩
    case round =>
    obtain ⟨k, p, q, hk, hm, rfl, rfl, rfl, hgood, hbx⟩ := hrel
    have HM := Lib.hid hm
    clear hm
    have G2 := blk_below hbx g2
    by_cases hk4 : k < 4
    · have hk4I : (k : Int) < 4 := by omega
      have y0 := (cells2i (blk_below hbx g0)).1
      have y1 := (cells2i (blk_below hbx g0)).2
      have z0 := (cells2i (blk_below hbx g1)).1
      have z1 := (cells2i (blk_below hbx g1)).2
      have hl0 := lt_of_blk (blk_below hbx g0)
      have hl1 := lt_of_blk (blk_below hbx g1)
      have hl2 := lt_of_blk G2
      have hsz := hbx.size
      have H2 : Hid (∀ w' : World, Below wr.heap.size wr w' → w'.heap[w.heap.size + 1 + 1]? = some (.cells #[.int .i64 0, .int .i64 0] 36 (0, 0)) ∧ Below wb.heap.size wb w') := Lib.hid fun w' h => ⟨blk_below h G2, below_trans' hbx hbx.size h⟩
      go_upto_region 7 with fail
      rcases (by omega : k = 0 ∨ k = 1 ∨ k = 2 ∨ k = 3) with rfl | rfl | rfl | rfl
      · obtain ⟨u, v, ok, hpv, hcs⟩ := pair_cases r0
        have D0 := C0.out
        rw [hpv] at D0
        have D := Lib.hid D0
        have HCS := Lib.hid hcs
        clear D0 hpv hcs G2 hbx
        have hzz : ∀ x : Beh LeW wr.drew, Below wr.heap.size wr x.w := fun x => below_trans' ((Below.refl _ _).drew) (Nat.le_refl _) x.h
        have u0 : ∀ x : Beh LeW wr.drew, x.w.cell? ⟨w.heap.size, 0, none⟩ = some (.int .i64 a) := fun x => (Below.cell (p := ⟨w.heap.size, 0, none⟩) (hzz x) hl0).trans y0
        have u1 : ∀ x : Beh LeW wr.drew, x.w.cell? ⟨w.heap.size, 1, none⟩ = some (.int .i64 b) := fun x => (Below.cell (p := ⟨w.heap.size, 1, none⟩) (hzz x) hl0).trans y1
        have v0 : ∀ x : Beh LeW wr.drew, x.w.cell? ⟨w.heap.size + 1, 0, none⟩ = some (.int .i64 c) := fun x => (Below.cell (p := ⟨w.heap.size + 1, 0, none⟩) (hzz x) hl1).trans z0
        have v1 : ∀ x : Beh LeW wr.drew, x.w.cell? ⟨w.heap.size + 1, 1, none⟩ = some (.int .i64 d) := fun x => (Below.cell (p := ⟨w.heap.size + 1, 1, none⟩) (hzz x) hl1).trans z1
        have HZZ := Lib.hid hzz
        clear y0 y1 z0 z1 hzz
        refine wp_region_loose (R := LeW) 23 60 [21, 22] [(4, [], some (freshS 0 #[.int .i64 a, .int .i64 b] 3 2)), (7, [30], some (ptrS #[.int .i64 a, .int .i64 b] 3 0)), (8, [33], none), (13, [], some (freshS 0 #[.int .i64 c, .int .i64 d] 3 2)), (16, [39], some (ptrS #[.int .i64 c, .int .i64 d] 3 0)), (17, [42], none), (18, [], none)] (by kernel_rfl) (by kernel_rfl) (by kernel_rfl) (by kernel_rfl) (fun _ _ _ _ _ _ h => h) rfl LeW.refl (fun _ _ _ => LeW.trans) ?_
        simp only [Late, List.take_succ_cons, List.drop_succ_cons, List.take_zero, List.drop_zero, Nat.reduceSub, Nat.reduceAdd, Nat.sub_zero]
        repeat (go_big_quiet_step (fail))
        refine wpQuiet_nil ?_
        refine late_buildR (fun w => by kernel_rfl) (fun z => (Below.refl _ _).alloc (Nat.le_refl _) _) (freshS_mono _ _ _ _) (fun _ => Nat.zero_le _) (by simp only [Act.put, List.setIfInBounds_toArray, List.set_cons_succ, List.set_cons_zero]; rfl) ?_
        repeat (go_big_quiet_step (fail))
        refine wpQuiet_nil ?_
        refine late_index [] (by simp) LeW.refl (ptrS_mono _ _ _) (fun v g w h => by subst h; simp [execOp, Act.put, go_sem]) (by simp only [Act.put, List.setIfInBounds_toArray, List.set_cons_succ, List.set_cons_zero]; rfl) ?_
        refine wpQuiet_nil ?_
        refine late_load [_] (by simp) LeW.refl (by rfl) (fun v g w h h2 => by subst h; simp [execOp, go_sem, h2]) (by simp only [Act.put, List.setIfInBounds_toArray, List.set_cons_succ, List.set_cons_zero]; rfl) ?_
        repeat (go_big_quiet_step (fail))
        refine wpQuiet_nil ?_
        refine late_buildR (fun w => by kernel_rfl) (fun z => (Below.refl _ _).alloc (Nat.le_refl _) _) (freshS_mono _ _ _ _) (fun _ => Nat.zero_le _) (by simp only [Act.put, List.setIfInBounds_toArray, List.set_cons_succ, List.set_cons_zero]; rfl) ?_
        repeat (go_big_quiet_step (fail))
        refine wpQuiet_nil ?_
        refine late_index [_, _] (by simp) LeW.refl (ptrS_mono _ _ _) (fun v g w h => by subst h; simp [execOp, Act.put, go_sem]) (by simp only [Act.put, List.setIfInBounds_toArray, List.set_cons_succ, List.set_cons_zero]; rfl) ?_
        refine wpQuiet_nil ?_
        refine late_load [_, _, _] (by simp) LeW.refl (by rfl) (fun v g w h h2 => by subst h; simp [execOp, go_sem, h2]) (by simp only [Act.put, List.setIfInBounds_toArray, List.set_cons_succ, List.set_cons_zero]; rfl) ?_
        refine wpQuiet_nil ?_
        refine late_call Tryz.func84 (by kernel_rfl) (by kernel_rfl) (fun x => (D.out x.w).mono fun e w' ⟨h1, h2⟩ => ⟨h1, h2 ▸ LeW.refl _⟩) rfl (by simp only [Act.put, List.setIfInBounds_toArray, List.set_cons_succ, List.set_cons_zero]; rfl) ?_
        repeat (go_big_quiet_step (fail))
        refine wpQuiet_nil ?_
        intro x
        simp only [List.nil_append, List.cons_append, allGens]
        rintro p0 _ p1 _ p2 _ p3 _
        simp only [Act.put, List.setIfInBounds_toArray, List.set_cons_succ, List.set_cons_zero]
        obtain ⟨G2', hbx'⟩ := H2.out _ (HZZ.out x)
        generalize x.w = wn at *
        clear u0 u1 v0 v1
        rcases HCS.out with ⟨rfl, hr⟩ | ⟨rfl, hr⟩
        · have HR1 : Hid (R = none) := Lib.hid (by rw [← hgood.out, hr]; rfl)
          have x2 := cells2i G2'
          have f2 := free_of_block G2'
          obtain ⟨y0, y1⟩ := ret2i (A := 0) (B := 0) G2'
          have hbe := below_sets2 (below_trans' hB hB.size hbx') hw2 (.int .i64 0) (.int .i64 0)
          clear hB hbx' G2' g0 g1 g2 hr
          go_wp2_with fail
          exact bodyPost_ret (v := .tuple #[.agg #[.int .i64 0, .int .i64 0], .bool false]) (by simp [results, Tryz.results46, go_sem, y0, y1]) rfl ⟨by rw [HR1.out]; rfl, hbe⟩
        · have HR1 : Hid (hull4 (min p u) (max q v) ([r0, r1, r2, r3].drop 1) = R) := Lib.hid (by rw [← hgood.out, hr]; rfl)
          clear G2' hr
          go_wp2_with fail
          go_roundg (5 - (0 + 1))
          case measure => have := HM.out; omega
          case rel => exact ⟨0 + 1, _, _, by omega, rfl, by go_num, rfl, rfl, Lib.hid HR1.out, hbx'⟩
      · obtain ⟨u, v, ok, hpv, hcs⟩ := pair_cases r1
        have D0 := C1.out
        rw [hpv] at D0
        have D := Lib.hid D0
        have HCS := Lib.hid hcs
        clear D0 hpv hcs G2 hbx
        have hzz : ∀ x : Beh LeW wr.drew, Below wr.heap.size wr x.w := fun x => below_trans' ((Below.refl _ _).drew) (Nat.le_refl _) x.h
        have u0 : ∀ x : Beh LeW wr.drew, x.w.cell? ⟨w.heap.size, 0, none⟩ = some (.int .i64 a) := fun x => (Below.cell (p := ⟨w.heap.size, 0, none⟩) (hzz x) hl0).trans y0
        have u1 : ∀ x : Beh LeW wr.drew, x.w.cell? ⟨w.heap.size, 1, none⟩ = some (.int .i64 b) := fun x => (Below.cell (p := ⟨w.heap.size, 1, none⟩) (hzz x) hl0).trans y1
        have v0 : ∀ x : Beh LeW wr.drew, x.w.cell? ⟨w.heap.size + 1, 0, none⟩ = some (.int .i64 c) := fun x => (Below.cell (p := ⟨w.heap.size + 1, 0, none⟩) (hzz x) hl1).trans z0
        have v1 : ∀ x : Beh LeW wr.drew, x.w.cell? ⟨w.heap.size + 1, 1, none⟩ = some (.int .i64 d) := fun x => (Below.cell (p := ⟨w.heap.size + 1, 1, none⟩) (hzz x) hl1).trans z1
        have HZZ := Lib.hid hzz
        clear y0 y1 z0 z1 hzz
        refine wp_region_loose (R := LeW) 23 60 [21, 22] [(4, [], some (freshS 0 #[.int .i64 a, .int .i64 b] 3 2)), (7, [30], some (ptrS #[.int .i64 a, .int .i64 b] 3 0)), (8, [33], none), (13, [], some (freshS 0 #[.int .i64 c, .int .i64 d] 3 2)), (16, [39], some (ptrS #[.int .i64 c, .int .i64 d] 3 1)), (17, [42], none), (18, [], none)] (by kernel_rfl) (by kernel_rfl) (by kernel_rfl) (by kernel_rfl) (fun _ _ _ _ _ _ h => h) rfl LeW.refl (fun _ _ _ => LeW.trans) ?_
        simp only [Late, List.take_succ_cons, List.drop_succ_cons, List.take_zero, List.drop_zero, Nat.reduceSub, Nat.reduceAdd, Nat.sub_zero]
        repeat (go_big_quiet_step (fail))
        refine wpQuiet_nil ?_
        refine late_buildR (fun w => by kernel_rfl) (fun z => (Below.refl _ _).alloc (Nat.le_refl _) _) (freshS_mono _ _ _ _) (fun _ => Nat.zero_le _) (by simp only [Act.put, List.setIfInBounds_toArray, List.set_cons_succ, List.set_cons_zero]; rfl) ?_
        repeat (go_big_quiet_step (fail))
        refine wpQuiet_nil ?_
        refine late_index [] (by simp) LeW.refl (ptrS_mono _ _ _) (fun v g w h => by subst h; simp [execOp, Act.put, go_sem]) (by simp only [Act.put, List.setIfInBounds_toArray, List.set_cons_succ, List.set_cons_zero]; rfl) ?_
        refine wpQuiet_nil ?_
        refine late_load [_] (by simp) LeW.refl (by rfl) (fun v g w h h2 => by subst h; simp [execOp, go_sem, h2]) (by simp only [Act.put, List.setIfInBounds_toArray, List.set_cons_succ, List.set_cons_zero]; rfl) ?_
        repeat (go_big_quiet_step (fail))
        refine wpQuiet_nil ?_
        refine late_buildR (fun w => by kernel_rfl) (fun z => (Below.refl _ _).alloc (Nat.le_refl _) _) (freshS_mono _ _ _ _) (fun _ => Nat.zero_le _) (by simp only [Act.put, List.setIfInBounds_toArray, List.set_cons_succ, List.set_cons_zero]; rfl) ?_
        repeat (go_big_quiet_step (fail))
        refine wpQuiet_nil ?_
        refine late_index [_, _] (by simp) LeW.refl (ptrS_mono _ _ _) (fun v g w h => by subst h; simp [execOp, Act.put, go_sem]) (by simp only [Act.put, List.setIfInBounds_toArray, List.set_cons_succ, List.set_cons_zero]; rfl) ?_
        refine wpQuiet_nil ?_
        refine late_load [_, _, _] (by simp) LeW.refl (by rfl) (fun v g w h h2 => by subst h; simp [execOp, go_sem, h2]) (by simp only [Act.put, List.setIfInBounds_toArray, List.set_cons_succ, List.set_cons_zero]; rfl) ?_
        refine wpQuiet_nil ?_
        refine late_call Tryz.func84 (by kernel_rfl) (by kernel_rfl) (fun x => (D.out x.w).mono fun e w' ⟨h1, h2⟩ => ⟨h1, h2 ▸ LeW.refl _⟩) rfl (by simp only [Act.put, List.setIfInBounds_toArray, List.set_cons_succ, List.set_cons_zero]; rfl) ?_
        repeat (go_big_quiet_step (fail))
        refine wpQuiet_nil ?_
        intro x
        simp only [List.nil_append, List.cons_append, allGens]
        rintro p0 _ p1 _ p2 _ p3 _
        simp only [Act.put, List.setIfInBounds_toArray, List.set_cons_succ, List.set_cons_zero]
        obtain ⟨G2', hbx'⟩ := H2.out _ (HZZ.out x)
        generalize x.w = wn at *
        clear u0 u1 v0 v1
        rcases HCS.out with ⟨rfl, hr⟩ | ⟨rfl, hr⟩
        · have HR1 : Hid (R = none) := Lib.hid (by rw [← hgood.out, hr]; rfl)
          have x2 := cells2i G2'
          have f2 := free_of_block G2'
          obtain ⟨y0, y1⟩ := ret2i (A := 0) (B := 0) G2'
          have hbe := below_sets2 (below_trans' hB hB.size hbx') hw2 (.int .i64 0) (.int .i64 0)
          clear hB hbx' G2' g0 g1 g2 hr
          go_wp2_with fail
          exact bodyPost_ret (v := .tuple #[.agg #[.int .i64 0, .int .i64 0], .bool false]) (by simp [results, Tryz.results46, go_sem, y0, y1]) rfl ⟨by rw [HR1.out]; rfl, hbe⟩
        · have HR1 : Hid (hull4 (min p u) (max q v) ([r0, r1, r2, r3].drop 2) = R) := Lib.hid (by rw [← hgood.out, hr]; rfl)
          clear G2' hr
          go_wp2_with fail
          go_roundg (5 - (1 + 1))
          case measure => have := HM.out; omega
          case rel => exact ⟨1 + 1, _, _, by omega, rfl, by go_num, rfl, rfl, Lib.hid HR1.out, hbx'⟩
      · obtain ⟨u, v, ok, hpv, hcs⟩ := pair_cases r2
        have D0 := C2.out
        rw [hpv] at D0
        have D := Lib.hid D0
        have HCS := Lib.hid hcs
        clear D0 hpv hcs G2 hbx
        have hzz : ∀ x : Beh LeW wr.drew, Below wr.heap.size wr x.w := fun x => below_trans' ((Below.refl _ _).drew) (Nat.le_refl _) x.h
        have u0 : ∀ x : Beh LeW wr.drew, x.w.cell? ⟨w.heap.size, 0, none⟩ = some (.int .i64 a) := fun x => (Below.cell (p := ⟨w.heap.size, 0, none⟩) (hzz x) hl0).trans y0
        have u1 : ∀ x : Beh LeW wr.drew, x.w.cell? ⟨w.heap.size, 1, none⟩ = some (.int .i64 b) := fun x => (Below.cell (p := ⟨w.heap.size, 1, none⟩) (hzz x) hl0).trans y1
        have v0 : ∀ x : Beh LeW wr.drew, x.w.cell? ⟨w.heap.size + 1, 0, none⟩ = some (.int .i64 c) := fun x => (Below.cell (p := ⟨w.heap.size + 1, 0, none⟩) (hzz x) hl1).trans z0
        have v1 : ∀ x : Beh LeW wr.drew, x.w.cell? ⟨w.heap.size + 1, 1, none⟩ = some (.int .i64 d) := fun x => (Below.cell (p := ⟨w.heap.size + 1, 1, none⟩) (hzz x) hl1).trans z1
        have HZZ := Lib.hid hzz
        clear y0 y1 z0 z1 hzz
        refine wp_region_loose (R := LeW) 23 60 [21, 22] [(4, [], some (freshS 0 #[.int .i64 a, .int .i64 b] 3 2)), (7, [30], some (ptrS #[.int .i64 a, .int .i64 b] 3 1)), (8, [33], none), (13, [], some (freshS 0 #[.int .i64 c, .int .i64 d] 3 2)), (16, [39], some (ptrS #[.int .i64 c, .int .i64 d] 3 0)), (17, [42], none), (18, [], none)] (by kernel_rfl) (by kernel_rfl) (by kernel_rfl) (by kernel_rfl) (fun _ _ _ _ _ _ h => h) rfl LeW.refl (fun _ _ _ => LeW.trans) ?_
        simp only [Late, List.take_succ_cons, List.drop_succ_cons, List.take_zero, List.drop_zero, Nat.reduceSub, Nat.reduceAdd, Nat.sub_zero]
        repeat (go_big_quiet_step (fail))
        refine wpQuiet_nil ?_
        refine late_buildR (fun w => by kernel_rfl) (fun z => (Below.refl _ _).alloc (Nat.le_refl _) _) (freshS_mono _ _ _ _) (fun _ => Nat.zero_le _) (by simp only [Act.put, List.setIfInBounds_toArray, List.set_cons_succ, List.set_cons_zero]; rfl) ?_
        repeat (go_big_quiet_step (fail))
        refine wpQuiet_nil ?_
        refine late_index [] (by simp) LeW.refl (ptrS_mono _ _ _) (fun v g w h => by subst h; simp [execOp, Act.put, go_sem]) (by simp only [Act.put, List.setIfInBounds_toArray, List.set_cons_succ, List.set_cons_zero]; rfl) ?_
        refine wpQuiet_nil ?_
        refine late_load [_] (by simp) LeW.refl (by rfl) (fun v g w h h2 => by subst h; simp [execOp, go_sem, h2]) (by simp only [Act.put, List.setIfInBounds_toArray, List.set_cons_succ, List.set_cons_zero]; rfl) ?_
        repeat (go_big_quiet_step (fail))
        refine wpQuiet_nil ?_
        refine late_buildR (fun w => by kernel_rfl) (fun z => (Below.refl _ _).alloc (Nat.le_refl _) _) (freshS_mono _ _ _ _) (fun _ => Nat.zero_le _) (by simp only [Act.put, List.setIfInBounds_toArray, List.set_cons_succ, List.set_cons_zero]; rfl) ?_
        repeat (go_big_quiet_step (fail))
        refine wpQuiet_nil ?_
        refine late_index [_, _] (by simp) LeW.refl (ptrS_mono _ _ _) (fun v g w h => by subst h; simp [execOp, Act.put, go_sem]) (by simp only [Act.put, List.setIfInBounds_toArray, List.set_cons_succ, List.set_cons_zero]; rfl) ?_
        refine wpQuiet_nil ?_
        refine late_load [_, _, _] (by simp) LeW.refl (by rfl) (fun v g w h h2 => by subst h; simp [execOp, go_sem, h2]) (by simp only [Act.put, List.setIfInBounds_toArray, List.set_cons_succ, List.set_cons_zero]; rfl) ?_
        refine wpQuiet_nil ?_
        refine late_call Tryz.func84 (by kernel_rfl) (by kernel_rfl) (fun x => (D.out x.w).mono fun e w' ⟨h1, h2⟩ => ⟨h1, h2 ▸ LeW.refl _⟩) rfl (by simp only [Act.put, List.setIfInBounds_toArray, List.set_cons_succ, List.set_cons_zero]; rfl) ?_
        repeat (go_big_quiet_step (fail))
        refine wpQuiet_nil ?_
        intro x
        simp only [List.nil_append, List.cons_append, allGens]
        rintro p0 _ p1 _ p2 _ p3 _
        simp only [Act.put, List.setIfInBounds_toArray, List.set_cons_succ, List.set_cons_zero]
        obtain ⟨G2', hbx'⟩ := H2.out _ (HZZ.out x)
        generalize x.w = wn at *
        clear u0 u1 v0 v1
        rcases HCS.out with ⟨rfl, hr⟩ | ⟨rfl, hr⟩
        · have HR1 : Hid (R = none) := Lib.hid (by rw [← hgood.out, hr]; rfl)
          have x2 := cells2i G2'
          have f2 := free_of_block G2'
          obtain ⟨y0, y1⟩ := ret2i (A := 0) (B := 0) G2'
          have hbe := below_sets2 (below_trans' hB hB.size hbx') hw2 (.int .i64 0) (.int .i64 0)
          clear hB hbx' G2' g0 g1 g2 hr
          go_wp2_with fail
          exact bodyPost_ret (v := .tuple #[.agg #[.int .i64 0, .int .i64 0], .bool false]) (by simp [results, Tryz.results46, go_sem, y0, y1]) rfl ⟨by rw [HR1.out]; rfl, hbe⟩
        · have HR1 : Hid (hull4 (min p u) (max q v) ([r0, r1, r2, r3].drop 3) = R) := Lib.hid (by rw [← hgood.out, hr]; rfl)
          clear G2' hr
          go_wp2_with fail
          go_roundg (5 - (2 + 1))
          case measure => have := HM.out; omega
          case rel => exact ⟨2 + 1, _, _, by omega, rfl, by go_num, rfl, rfl, Lib.hid HR1.out, hbx'⟩
      · obtain ⟨u, v, ok, hpv, hcs⟩ := pair_cases r3
        have D0 := C3.out
        rw [hpv] at D0
        have D := Lib.hid D0
        have HCS := Lib.hid hcs
        clear D0 hpv hcs G2 hbx
        have hzz : ∀ x : Beh LeW wr.drew, Below wr.heap.size wr x.w := fun x => below_trans' ((Below.refl _ _).drew) (Nat.le_refl _) x.h
        have u0 : ∀ x : Beh LeW wr.drew, x.w.cell? ⟨w.heap.size, 0, none⟩ = some (.int .i64 a) := fun x => (Below.cell (p := ⟨w.heap.size, 0, none⟩) (hzz x) hl0).trans y0
        have u1 : ∀ x : Beh LeW wr.drew, x.w.cell? ⟨w.heap.size, 1, none⟩ = some (.int .i64 b) := fun x => (Below.cell (p := ⟨w.heap.size, 1, none⟩) (hzz x) hl0).trans y1
        have v0 : ∀ x : Beh LeW wr.drew, x.w.cell? ⟨w.heap.size + 1, 0, none⟩ = some (.int .i64 c) := fun x => (Below.cell (p := ⟨w.heap.size + 1, 0, none⟩) (hzz x) hl1).trans z0
        have v1 : ∀ x : Beh LeW wr.drew, x.w.cell? ⟨w.heap.size + 1, 1, none⟩ = some (.int .i64 d) := fun x => (Below.cell (p := ⟨w.heap.size + 1, 1, none⟩) (hzz x) hl1).trans z1
        have HZZ := Lib.hid hzz
        clear y0 y1 z0 z1 hzz
        refine wp_region_loose (R := LeW) 23 60 [21, 22] [(4, [], some (freshS 0 #[.int .i64 a, .int .i64 b] 3 2)), (7, [30], some (ptrS #[.int .i64 a, .int .i64 b] 3 1)), (8, [33], none), (13, [], some (freshS 0 #[.int .i64 c, .int .i64 d] 3 2)), (16, [39], some (ptrS #[.int .i64 c, .int .i64 d] 3 1)), (17, [42], none), (18, [], none)] (by kernel_rfl) (by kernel_rfl) (by kernel_rfl) (by kernel_rfl) (fun _ _ _ _ _ _ h => h) rfl LeW.refl (fun _ _ _ => LeW.trans) ?_
        simp only [Late, List.take_succ_cons, List.drop_succ_cons, List.take_zero, List.drop_zero, Nat.reduceSub, Nat.reduceAdd, Nat.sub_zero]
        repeat (go_big_quiet_step (fail))
        refine wpQuiet_nil ?_
        refine late_buildR (fun w => by kernel_rfl) (fun z => (Below.refl _ _).alloc (Nat.le_refl _) _) (freshS_mono _ _ _ _) (fun _ => Nat.zero_le _) (by simp only [Act.put, List.setIfInBounds_toArray, List.set_cons_succ, List.set_cons_zero]; rfl) ?_
        repeat (go_big_quiet_step (fail))
        refine wpQuiet_nil ?_
        refine late_index [] (by simp) LeW.refl (ptrS_mono _ _ _) (fun v g w h => by subst h; simp [execOp, Act.put, go_sem]) (by simp only [Act.put, List.setIfInBounds_toArray, List.set_cons_succ, List.set_cons_zero]; rfl) ?_
        refine wpQuiet_nil ?_
        refine late_load [_] (by simp) LeW.refl (by rfl) (fun v g w h h2 => by subst h; simp [execOp, go_sem, h2]) (by simp only [Act.put, List.setIfInBounds_toArray, List.set_cons_succ, List.set_cons_zero]; rfl) ?_
        repeat (go_big_quiet_step (fail))
        refine wpQuiet_nil ?_
        refine late_buildR (fun w => by kernel_rfl) (fun z => (Below.refl _ _).alloc (Nat.le_refl _) _) (freshS_mono _ _ _ _) (fun _ => Nat.zero_le _) (by simp only [Act.put, List.setIfInBounds_toArray, List.set_cons_succ, List.set_cons_zero]; rfl) ?_
        repeat (go_big_quiet_step (fail))
        refine wpQuiet_nil ?_
        refine late_index [_, _] (by simp) LeW.refl (ptrS_mono _ _ _) (fun v g w h => by subst h; simp [execOp, Act.put, go_sem]) (by simp only [Act.put, List.setIfInBounds_toArray, List.set_cons_succ, List.set_cons_zero]; rfl) ?_
        refine wpQuiet_nil ?_
        refine late_load [_, _, _] (by simp) LeW.refl (by rfl) (fun v g w h h2 => by subst h; simp [execOp, go_sem, h2]) (by simp only [Act.put, List.setIfInBounds_toArray, List.set_cons_succ, List.set_cons_zero]; rfl) ?_
        refine wpQuiet_nil ?_
        refine late_call Tryz.func84 (by kernel_rfl) (by kernel_rfl) (fun x => (D.out x.w).mono fun e w' ⟨h1, h2⟩ => ⟨h1, h2 ▸ LeW.refl _⟩) rfl (by simp only [Act.put, List.setIfInBounds_toArray, List.set_cons_succ, List.set_cons_zero]; rfl) ?_
        repeat (go_big_quiet_step (fail))
        refine wpQuiet_nil ?_
        intro x
        simp only [List.nil_append, List.cons_append, allGens]
        rintro p0 _ p1 _ p2 _ p3 _
        simp only [Act.put, List.setIfInBounds_toArray, List.set_cons_succ, List.set_cons_zero]
        obtain ⟨G2', hbx'⟩ := H2.out _ (HZZ.out x)
        generalize x.w = wn at *
        clear u0 u1 v0 v1
        rcases HCS.out with ⟨rfl, hr⟩ | ⟨rfl, hr⟩
        · have HR1 : Hid (R = none) := Lib.hid (by rw [← hgood.out, hr]; rfl)
          have x2 := cells2i G2'
          have f2 := free_of_block G2'
          obtain ⟨y0, y1⟩ := ret2i (A := 0) (B := 0) G2'
          have hbe := below_sets2 (below_trans' hB hB.size hbx') hw2 (.int .i64 0) (.int .i64 0)
          clear hB hbx' G2' g0 g1 g2 hr
          go_wp2_with fail
          exact bodyPost_ret (v := .tuple #[.agg #[.int .i64 0, .int .i64 0], .bool false]) (by simp [results, Tryz.results46, go_sem, y0, y1]) rfl ⟨by rw [HR1.out]; rfl, hbe⟩
        · have HR1 : Hid (hull4 (min p u) (max q v) ([r0, r1, r2, r3].drop 4) = R) := Lib.hid (by rw [← hgood.out, hr]; rfl)
          clear G2' hr
          go_wp2_with fail
          go_roundg (5 - (3 + 1))
          case measure => have := HM.out; omega
          case rel => exact ⟨3 + 1, _, _, by omega, rfl, by go_num, rfl, rfl, Lib.hid HR1.out, hbx'⟩
    · have hk' : k = 4 := by omega
      subst hk'
      have hR1 : R = some (p, q) := hgood.out.symm
      have HR1 := Lib.hid hR1
      have hk4I : ¬ ((4 : Nat) : Int) < 4 := by omega
      have x2 := cells2i G2
      have f2 := free_of_block G2
      obtain ⟨y0, y1⟩ := ret2i (A := p) (B := q) G2
      have hbe := below_sets2 (below_trans' hB hB.size hbx) hw2 (.int .i64 p) (.int .i64 q)
      clear hR1 hB hbx G2 g0 g1 g2
      go_wp2_with fail
      exact bodyPost_ret (v := .tuple #[.agg #[.int .i64 p, .int .i64 q], .bool true]) (by simp [results, Tryz.results46, go_sem, y0, y1]) rfl ⟨by rw [HR1.out]; rfl, hbe⟩
end Go.Proofs.YtpligjkbnlfhgaaGreatDoor
