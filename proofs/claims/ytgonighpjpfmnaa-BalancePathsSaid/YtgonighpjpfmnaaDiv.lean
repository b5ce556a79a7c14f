/- math/bits.Div64: the quotient and the rest of a number of two digits. -/
import Derived.Test.YtgonighpjpfmnaaBase
import Derived.Test.YtgonighpjpfmnaaDivMath
import Derived.Laws.Bits64b
import Derived.Lib.ItoaNum
namespace Go.Proofs.Ytgonighpjpfmnaa
open Go.RowKit

/-- What the shift of both digits by the leading zeros of the divisor gives. -/
structure Shifted (hi lo y k P Q Y u L : Int) : Prop where
  k0 : 0 ≤ k
  k1 : k ≤ 63
  ek : 64 - (Lib.bitLen y.toNat : Int) = k
  eP : (2 : Int) ^ k.toNat = P
  eQ : (2 : Int) ^ (64 - k).toNat = Q
  eY : IntKind.u64.wrap (y * P) = Y
  eu : bits .or .u64 (IntKind.u64.wrap (hi * P)) (lo / Q) = u
  eL : IntKind.u64.wrap (lo * P) = L
  P1 : 1 ≤ P
  Yis : Y = y * P
  Y1 : Y < 18446744073709551616
  Y0 : 9223372036854775808 ≤ Y
  sum : (hi * 18446744073709551616 + lo) * P = u * 18446744073709551616 + L
  u0 : 0 ≤ u
  u1 : u < Y
  L0 : 0 ≤ L
  L1 : L < 18446744073709551616

theorem shifted (hi lo y : Nat) (hh : hi < y) (hy : y < 18446744073709551616) (hl : lo < 18446744073709551616) : ∃ k P Q Y u L : Int, Shifted hi lo y k P Q Y u L := by
  obtain ⟨b1, b2, b3⟩ := Lib.bitLenAux_bounds 64 y (by omega) (by omega)
  have b4 : Lib.bitLen y ≤ 64 := Lib.bitLen_le y 64 (by omega) (by omega)
  change 2 ^ (Lib.bitLen y - 1) ≤ y at b2
  change y < 2 ^ Lib.bitLen y at b3
  change 1 ≤ Lib.bitLen y at b1
  have hn := (Int.toNat_natCast y)
  generalize hN : Lib.bitLen y = n at *
  have hPQ : 2 ^ (64 - n) * 2 ^ n = 18446744073709551616 := by rw [← Nat.pow_add, show 64 - n + n = 64 by omega]
  have hPQ1 : 2 ^ (64 - n) * 2 ^ (n - 1) = 9223372036854775808 := by rw [← Nat.pow_add, show 64 - n + (n - 1) = 63 by omega]
  have hP : 1 ≤ 2 ^ (64 - n) := Nat.one_le_two_pow
  have hQ : 1 ≤ 2 ^ n := Nat.one_le_two_pow
  have hor := fun b (h : b < 2 ^ (64 - n)) => Nat.shiftLeft_add_eq_or_of_lt h hi
  have hmin1 : ((64 : Int) - (n : Int)).toNat = 64 - n := by omega
  have hmin2 : ((64 : Int) - (64 - (n : Int))).toNat = n := by omega
  generalize hPP : 2 ^ (64 - n) = P at *
  generalize hQQ : 2 ^ n = Q at *
  have y1 : y * P < 18446744073709551616 := by
    have : y * P < Q * P := Nat.mul_lt_mul_of_pos_right b3 (by omega)
    rw [Nat.mul_comm Q P] at this; omega
  have y0 : 9223372036854775808 ≤ y * P := by
    have : 2 ^ (n - 1) * P ≤ y * P := Nat.mul_le_mul_right _ b2
    rw [Nat.mul_comm _ P] at this; omega
  have h1 : (hi + 1) * P ≤ y * P := Nat.mul_le_mul_right _ (by omega)
  have h2 : hi * P < 18446744073709551616 := by rw [Nat.add_mul] at h1; omega
  have q0 : lo / Q < P := Nat.div_lt_of_lt_mul (by rw [Nat.mul_comm Q P]; omega)
  have q1 : lo / Q < 18446744073709551616 := by have := Nat.div_le_self lo Q; omega
  have hdm := Nat.div_add_mod lo Q
  have hml := Nat.mod_lt lo (show 0 < Q by omega)
  have e1 : lo * P = (lo / Q) * 18446744073709551616 + (lo % Q) * P := by
    rw [← hPQ, ← Nat.mul_assoc, Nat.mul_comm (lo / Q * P) Q, ← Nat.mul_assoc, ← Nat.add_mul, hdm]
  have e2 : (lo % Q) * P < 18446744073709551616 := by
    have : (lo % Q) * P < Q * P := Nat.mul_lt_mul_of_pos_right hml (by omega)
    rw [Nat.mul_comm Q P] at this; omega
  have e3 : lo * P % 18446744073709551616 = (lo % Q) * P := by omega
  have hu : hi * P ||| lo / Q = hi * P + lo / Q := by
    have := hor (lo / Q) q0
    rw [Nat.shiftLeft_eq, hPP] at this; omega
  have e4 : hi * 18446744073709551616 * P = hi * P * 18446744073709551616 := by rw [Nat.mul_assoc, Nat.mul_comm 18446744073709551616 P, Nat.mul_assoc]
  refine ⟨64 - (n : Int), P, Q, (y * P : Nat), (hi * P + lo / Q : Nat), (lo % Q * P : Nat), ?_⟩
  refine ⟨by omega, by omega, by rw [hn, hN], ?_, ?_, ?_, ?_, ?_, by omega, by rw [Int.natCast_mul], by omega, by omega, ?_, by omega, ?_, by omega, by omega⟩
  · rw [hmin1, ← hPP, Int.natCast_pow]; rfl
  · rw [hmin2, ← hQQ, Int.natCast_pow]; rfl
  · rw [← Int.natCast_mul, IntKind.wrap_u64]; omega
  · rw [← Int.natCast_mul, show IntKind.u64.wrap ((hi * P : Nat) : Int) = ((hi * P : Nat) : Int) by rw [IntKind.wrap_u64]; omega, ← Int.natCast_ediv, bits_or_u64_nat _ _ h2 q1, hu]
  · rw [← Int.natCast_mul, IntKind.wrap_u64, ← e3]; omega
  · have : (hi * 18446744073709551616 + lo) * P = (hi * P + lo / Q) * 18446744073709551616 + lo % Q * P := by rw [Nat.add_mul, e4, e1]; omega
    have h := congrArg (fun n : Nat => (n : Int)) this
    simp only [Int.natCast_mul (_ * _ + _), Int.natCast_mul hi, Int.natCast_add (hi * _), Int.natCast_add ((hi * P + _) * _)] at h
    exact h
  · rw [Nat.add_mul] at h1; omega

/-- The setting of a correction loop: the dividend's upper digits u, its next digit d, the divisor Y of two digits y1, y0, the true digit q1 and the rest r1. -/
structure Dig (u d Y y1 y0 q1 r1 : Int) : Prop where
  hy : Y = y1 * 4294967296 + y0
  y1a : 2147483648 ≤ y1
  y1b : y1 < 4294967296
  y0a : 0 ≤ y0
  y0b : y0 < 4294967296
  ua : 0 ≤ u
  ub : u < Y
  da : 0 ≤ d
  db : d < 4294967296
  quot : (u * 4294967296 + d) / Y = q1
  rest : (u * 4294967296 + d) % Y = r1

section
variable {u d Y y1 y0 q1 r1 q r : Int}

theorem Dig.y64 (D : Dig u d Y y1 y0 q1 r1) : Y < 18446744073709551616 := by have := D.hy; have := D.y1b; have := D.y0b; omega
theorem Dig.q1a (D : Dig u d Y y1 y0 q1 r1) : 0 ≤ q1 ∧ q1 < 4294967296 := by rw [← D.quot]; exact dj_small D.ua D.ub D.da D.db
theorem Dig.r1a (D : Dig u d Y y1 y0 q1 r1) : 0 ≤ r1 ∧ r1 < Y := by
  have h := D.ua
  have h' := D.ub
  rw [← D.rest]
  exact ⟨Int.emod_nonneg _ (by omega), Int.emod_lt_of_pos _ (by omega)⟩
theorem Dig.sum (D : Dig u d Y y1 y0 q1 r1) : u * 4294967296 + d = q1 * Y + r1 := by
  have := Int.mul_ediv_add_emod (u * 4294967296 + d) Y
  rw [D.quot, D.rest, Int.mul_comm] at this
  omega

theorem Dig.start (D : Dig u d Y y1 y0 q1 r1) : DJ u d Y y1 y0 (u / y1) (u % y1) := DJ.start D.hy (by have := D.y1a; omega) D.y0a D.y1b D.ua D.db

/-- What goes on: the digit less one, the rest more by y1. -/
structure Down (u d Y y1 y0 q r : Int) : Prop where
  wq : IntKind.u64.wrap (q - 1) = q - 1
  wr : IntKind.u64.wrap (r + y1) = r + y1
  t3 : decide (4294967296 ≤ r + y1) = false
  one : 1 ≤ q
  dj : DJ u d Y y1 y0 (q - 1) (r + y1)

/-- What ends it behind a step: the digit less one is the true one. -/
structure Last (q1 q r y1 : Int) : Prop where
  wq : IntKind.u64.wrap (q - 1) = q1
  wr : IntKind.u64.wrap (r + y1) = r + y1
  t3 : decide (4294967296 ≤ r + y1) = true

/-- The second test's numbers do not wrap. -/
structure Test (d y0 q r : Int) : Prop where
  t1 : decide (4294967296 ≤ q) = false
  wp : IntKind.u64.wrap (q * y0) = q * y0
  wr : IntKind.u64.wrap (4294967296 * r) = 4294967296 * r
  wd : IntKind.u64.wrap (4294967296 * r + d) = 4294967296 * r + d

theorem Dig.round (D : Dig u d Y y1 y0 q1 r1) (h : DJ u d Y y1 y0 q r) (hq : q < 18446744073709551616) :
    ((decide (4294967296 ≤ q) = true ∧ Down u d Y y1 y0 q r) ∨ (Test d y0 q r ∧ decide (4294967296 * r + d < q * y0) = true ∧ Down u d Y y1 y0 q r))
    ∨ ((decide (4294967296 ≤ q) = true ∧ Last q1 q r y1) ∨ (Test d y0 q r ∧ decide (4294967296 * r + d < q * y0) = true ∧ Last q1 q r y1) ∨ (Test d y0 q r ∧ decide (4294967296 * r + d < q * y0) = false ∧ q = q1)) := by
  have y1a := D.y1a
  have y1b := D.y1b
  have r0 := h.r0
  have r1 := h.r1
  have q0 := h.q0
  have da := D.da
  have db := D.db
  have key : (4294967296 ≤ q ∨ r * 4294967296 + d < q * y0) → Down u d Y y1 y0 q r ∨ Last q1 q r y1 := by
    intro ht
    obtain ⟨l1, l2⟩ := h.less D.hy D.ua D.ub D.da D.db ht
    have wr : IntKind.u64.wrap (r + y1) = r + y1 := by rw [IntKind.wrap_u64]; omega
    have wq : IntKind.u64.wrap (q - 1) = q - 1 := by rw [IntKind.wrap_u64]; omega
    by_cases h3 : 4294967296 ≤ r + y1
    · exact Or.inr ⟨by rw [wq, ← D.quot]; exact h.stop D.hy D.y0a D.y0b D.ua D.ub D.da D.db (by omega) ht h3, wr, decide_eq_true h3⟩
    · exact Or.inl ⟨wq, wr, decide_eq_false h3, l2, h.next D.hy D.ua D.ub D.da D.db (by omega) ht (by omega)⟩
  by_cases h1 : 4294967296 ≤ q
  · rcases key (Or.inl h1) with k | k
    · exact Or.inl (Or.inl ⟨decide_eq_true h1, k⟩)
    · exact Or.inr (Or.inl ⟨decide_eq_true h1, k⟩)
  · have hp : 0 ≤ q * y0 := Int.mul_nonneg q0 D.y0a
    have hp1 : q * y0 ≤ 4294967295 * 4294967295 := Int.mul_le_mul (by omega) (by have := D.y0b; omega) D.y0a (by omega)
    have T : Test d y0 q r := ⟨decide_eq_false h1, by rw [IntKind.wrap_u64]; omega, by rw [IntKind.wrap_u64]; omega, by rw [IntKind.wrap_u64]; omega⟩
    by_cases h2 : 4294967296 * r + d < q * y0
    · rcases key (Or.inr (by omega)) with k | k
      · exact Or.inl (Or.inr ⟨T, decide_eq_true h2, k⟩)
      · exact Or.inr (Or.inr (Or.inl ⟨T, decide_eq_true h2, k⟩))
    · refine Or.inr (Or.inr (Or.inr ⟨T, decide_eq_false h2, ?_⟩))
      rw [← D.quot]
      exact h.done D.hy (by have := D.ua; have := D.ub; omega) (by omega)
end

section
variable {u d Y y1 y0 q1 r1 : Int}
/-- What the first quotient of a digit computes. -/
structure Head (u d Y y1 y0 q1 r1 : Int) : Prop where
  hz : (y1 == 0) = false
  hq : u.tdiv y1 = u / y1
  w1 : IntKind.u64.wrap (u / y1) = u / y1
  w2 : IntKind.u64.wrap (u / y1 * y1) = u / y1 * y1
  w3 : IntKind.u64.wrap (u - u / y1 * y1) = u % y1
  w4 : IntKind.u64.wrap (IntKind.u64.wrap (IntKind.u64.wrap (u * 4294967296) + d) - IntKind.u64.wrap (q1 * Y)) = r1
  lt : u / y1 < 18446744073709551616

theorem Dig.head (D : Dig u d Y y1 y0 q1 r1) : Head u d Y y1 y0 q1 r1 := by
  have y1a := D.y1a
  have ua := D.ua
  have ub := D.ub
  have yb := D.y64
  have m1 := Int.mul_ediv_add_emod u y1
  rw [Int.mul_comm] at m1
  have m2 := Int.emod_nonneg u (show y1 ≠ 0 by omega)
  have m3 : 0 ≤ u / y1 := Int.ediv_nonneg ua (by omega)
  have m4 : u / y1 ≤ u := Int.ediv_le_self _ ua
  have m5 : 0 ≤ u / y1 * y1 := Int.mul_nonneg m3 (by omega)
  have m6 : u % y1 ≤ u := by omega
  have hs := D.sum
  have hr := D.r1a
  refine ⟨?_, Int.tdiv_eq_ediv_of_nonneg ua, ?_, ?_, ?_, ?_, by omega⟩
  · rw [beq_eq_false_iff_ne]; omega
  · rw [IntKind.wrap_u64]; omega
  · rw [IntKind.wrap_u64]; omega
  · rw [IntKind.wrap_u64]; omega
  · simp only [IntKind.wrap_u64]; omega
end

theorem mask32 {Y : Int} (h0 : 0 ≤ Y) (h1 : Y < 18446744073709551616) : bits .and .u64 Y 4294967295 = Y % 4294967296 := by
  have h := bits_and_u64_nat Y.toNat 4294967295 (by omega) (by omega)
  have e : Y.toNat &&& 4294967295 = Y.toNat % 4294967296 := Nat.and_two_pow_sub_one_eq_mod Y.toNat 32
  rw [e, Int.toNat_of_nonneg h0] at h
  refine Eq.trans h ?_
  omega

theorem Shifted.digs {hi lo y : Nat} {k P Q Y u L y1 y0 d e : Int} (s : Shifted hi lo y k P Q Y u L) (hy1 : Y / 4294967296 = y1) (hy0 : bits .and .u64 Y 4294967295 = y0) (hd : L / 4294967296 = d) (he : bits .and .u64 L 4294967295 = e) :
    ∃ q1 r1 q0 r0 : Int, Dig u d Y y1 y0 q1 r1 ∧ Dig r1 e Y y1 y0 q0 r0 ∧ IntKind.u64.wrap (IntKind.u64.wrap (q1 * 4294967296) + q0) = ((hi * 18446744073709551616 + lo) / y : Nat) ∧ IntKind.u64.wrap (IntKind.u64.wrap (IntKind.u64.wrap (r1 * 4294967296) + e) - IntKind.u64.wrap (q0 * Y)) = r0 ∧ r0 / P = ((hi * 18446744073709551616 + lo) % y : Nat) := by
  have Y0 := s.Y0
  have Y1 := s.Y1
  have L0 := s.L0
  have L1 := s.L1
  have P1 := s.P1
  rw [mask32 (by omega) Y1] at hy0
  rw [mask32 L0 L1] at he
  have D1 : Dig u d Y y1 y0 _ _ := ⟨by omega, by omega, by omega, by omega, by omega, s.u0, s.u1, by omega, by omega, rfl, rfl⟩
  generalize (u * 4294967296 + d) / Y = q1 at D1
  generalize (u * 4294967296 + d) % Y = r1 at D1
  have D2 : Dig r1 e Y y1 y0 _ _ := ⟨by omega, by omega, by omega, by omega, by omega, D1.r1a.1, D1.r1a.2, by omega, by omega, rfl, rfl⟩
  generalize (r1 * 4294967296 + e) / Y = q0 at D2
  generalize (r1 * 4294967296 + e) % Y = r0 at D2
  have s1 := D1.sum
  have s2 := D2.sum
  have r0a := D2.r1a
  have a1 := D1.q1a
  have a0 := D2.q1a
  have ss := s.sum
  have sY := s.Yis
  have W : IntKind.u64.wrap (IntKind.u64.wrap (q1 * 4294967296) + q0) = q1 * 4294967296 + q0 := by simp only [IntKind.wrap_u64]; omega
  refine ⟨q1, r1, q0, r0, D1, D2, W.trans ?_, D2.head.w4, ?_⟩
  all_goals
    generalize hN : ((hi : Int) * 18446744073709551616 + lo) = N at ss
    generalize hM : q1 * 4294967296 + q0 = M at *
    have e1 : q1 * 4294967296 * Y + q0 * Y = M * Y := by rw [← hM, Int.add_mul]
    have e2 : q1 * 4294967296 * Y = q1 * Y * 4294967296 := by rw [Int.mul_assoc, Int.mul_comm 4294967296 Y, Int.mul_assoc]
    have e3 : M * Y = M * y * P := by rw [sY, Int.mul_assoc]
    have e4 : (N - M * y) * P = r0 := by rw [Int.sub_mul]; omega
    have z0 : 0 ≤ N - M * y := Decidable.byContradiction fun h => by
      have : (N - M * y) * P ≤ -1 * P := Int.mul_le_mul_of_nonneg_right (by omega) (by omega)
      omega
    have z1 : N - M * y < y := Decidable.byContradiction fun h => by
      have : (y : Int) * P ≤ (N - M * y) * P := Int.mul_le_mul_of_nonneg_right (by omega) (by omega)
      omega
    have e5 : r0 / P = N - M * y := by rw [← e4]; exact Int.mul_ediv_cancel _ (by omega)
    have e6 := (Int.ediv_emod_unique (a := N) (b := y) (q := M) (r := N - M * y) (by omega)).mpr ⟨by rw [Int.mul_comm]; omega, z0, z1⟩
  · rw [← e6.1, ← hN]; rfl
  · rw [e5, ← e6.2, ← hN]; rfl

theorem div88 (hi lo y : Nat) (w : World) (hh : hi < y) (hy : y < 18446744073709551616) (hl : lo < 18446744073709551616) :
    Calls Try.prog 88 #[.int .u64 hi, .int .u64 lo, .int .u64 y] w fun e w' => e = .returned (.tuple #[.int .u64 ((hi * 18446744073709551616 + lo) / y : Nat), .int .u64 ((hi * 18446744073709551616 + lo) % y : Nat)]) ∧ ∃ m, w' = w.drewN m := by
  have d1 : decide ((y : Int) = 0) = false := decide_eq_false (by omega)
  have d2 : decide ((y : Int) ≤ hi) = false := decide_eq_false (by omega)
  rcases hd : decide ((hi : Int) = 0) with _ | _
  · have e1 : (hi : Int) ≠ 0 := of_decide_eq_false hd
    obtain ⟨k, P, Q, Y, u, L, s⟩ := shifted hi lo y hh hy hl
    have c100 : ∀ w, Calls Try.prog 100 #[.int .u64 y] w fun e w' => e = .returned (.int .i64 k) ∧ w' = w := fun w => by
      have := Try.bits_LeadingZeros64 (y : Int) w (by omega) (by omega)
      rwa [s.ek] at this
    have wk : IntKind.u64.wrap k = k := by have := s.k0; have := s.k1; rw [IntKind.wrap_u64]; omega
    have wk2 : IntKind.u64.wrap (64 - k) = 64 - k := by have := s.k0; have := s.k1; rw [IntKind.wrap_u64]; omega
    have k0 := s.k0
    have k1 : k ≤ 64 := by have := s.k1; omega
    have k2 : 0 ≤ 64 - k := by omega
    have k3 : 64 - k ≤ 64 := by omega
    have eP := s.eP
    have eQ := s.eQ
    have eY := s.eY
    have eu := s.eu
    have eL := s.eL
    obtain ⟨y1, hy1⟩ : ∃ y1, Y / 4294967296 = y1 := ⟨_, rfl⟩
    obtain ⟨y0, hy0⟩ : ∃ y0, bits .and .u64 Y 4294967295 = y0 := ⟨_, rfl⟩
    obtain ⟨d, hd1⟩ : ∃ d, L / 4294967296 = d := ⟨_, rfl⟩
    obtain ⟨e, he1⟩ : ∃ e, bits .and .u64 L 4294967295 = e := ⟨_, rfl⟩
    obtain ⟨q1, r1, q0, r0, D1, D2, wq, wr, wf⟩ := s.digs hy1 hy0 hd1 he1
    have H1 := D1.head
    have H2 := D2.head
    have hz := H1.hz
    have hz2 : ¬ y1 = 0 := beq_eq_false_iff_ne.mp hz
    have hz3 : y1 ≠ 0 := hz2
    have hz4 : 0 < y1 := by have := D1.y1a; omega
    have hq := H1.hq
    have w1 := H1.w1
    have w2 := H1.w2
    have w3 := H1.w3
    have w4 := H1.w4
    have hq' := H2.hq
    have w1' := H2.w1
    have w2' := H2.w2
    have w3' := H2.w3
    go_enter Try.func88, Try.ntmps88
    go_wp2_with (go_at_call 100; refine (c100 _).mono ?_ ; rintro e w' ⟨rfl, rfl⟩)
    go_loopg [15, 16] (u / y1).toNat (fun m a b wr => ∃ q r : Int, m = q.toNat ∧ q < 18446744073709551616 ∧ a = .int .u64 q ∧ b = .int .u64 r ∧ DJ u d Y y1 y0 q r ∧ w' = wr)
    case atStart => exact ⟨_, _, rfl, H1.lt, rfl, rfl, D1.start, rfl⟩
    case round =>
      obtain ⟨q, r, hm, hql, rfl, rfl, hj, rfl⟩ := hrel
      have HM := Lib.hid hm
      clear hm
      rcases D1.round hj hql with h | h
      · have hdn : Down u d Y y1 y0 q r := by rcases h with h | h; exact h.2; exact h.2.2
        have v1 := hdn.wq
        have v2 := hdn.wr
        have v3 := hdn.t3
        rcases h with ⟨t1, -⟩ | ⟨T, t2, -⟩
        · go_wp2_with fail
          go_roundg (q - 1).toNat
          case measure => have := HM.out; have := hdn.one; omega
          case rel => exact ⟨_, _, rfl, by omega, rfl, rfl, hdn.dj, rfl⟩
        · have t1 := T.t1
          have v4 := T.wp
          have v5 := T.wr
          have v6 := T.wd
          go_wp2_with fail
          go_roundg (q - 1).toNat
          case measure => have := HM.out; have := hdn.one; omega
          case rel => exact ⟨_, _, rfl, by omega, rfl, rfl, hdn.dj, rfl⟩
      · obtain ⟨qe, hqe⟩ : ∃ qe, qe = q1 := ⟨_, rfl⟩
        have HQ := Lib.hid hqe
        clear hqe
        rcases h with ⟨t1, hl⟩ | ⟨T, t2, hl⟩ | ⟨T, t2, h3⟩
        all_goals
          try (have v1 := hl.wq; have v2 := hl.wr; have v3 := hl.t3)
          try (have t1 := T.t1; have v4 := T.wp; have v5 := T.wr; have v6 := T.wd)
          try subst h3
          go_wp2_with fail
          go_loopg [18, 16] (r1 / y1).toNat (fun m a b wr => ∃ q' r' : Int, m = q'.toNat ∧ q' < 18446744073709551616 ∧ a = .int .u64 q' ∧ b = .int .u64 r' ∧ DJ r1 e Y y1 y0 q' r' ∧ w' = wr)
          case atStart => exact ⟨_, _, rfl, H2.lt, rfl, rfl, D2.start, rfl⟩
          case round =>
            obtain ⟨q', r', hm2, hql2, rfl, rfl, hj2, rfl⟩ := hrel
            have HM2 := Lib.hid hm2
            clear hm2
            rcases D2.round hj2 hql2 with h | h
            · have hdn : Down r1 e Y y1 y0 q' r' := by rcases h with h | h; exact h.2; exact h.2.2
              have v1 := hdn.wq
              have v2 := hdn.wr
              have v3 := hdn.t3
              rcases h with ⟨t1, -⟩ | ⟨T, t2, -⟩
              · go_wp2_with fail
                go_roundg (q' - 1).toNat
                case measure => have := HM2.out; have := hdn.one; omega
                case rel => exact ⟨_, _, rfl, by omega, rfl, rfl, hdn.dj, rfl⟩
              · have t1 := T.t1
                have v4 := T.wp
                have v5 := T.wr
                have v6 := T.wd
                go_wp2_with fail
                go_roundg (q' - 1).toNat
                case measure => have := HM2.out; have := hdn.one; omega
                case rel => exact ⟨_, _, rfl, by omega, rfl, rfl, hdn.dj, rfl⟩
            · rcases h with ⟨t1, hl⟩ | ⟨T, t2, hl⟩ | ⟨T, t2, h3⟩
              all_goals
                try (have v1 := hl.wq; have v2 := hl.wr; have v3 := hl.t3)
                try (have t1 := T.t1; have v4 := T.wp; have v5 := T.wr; have v6 := T.wd)
                try subst h3
                go_wp2_with fail
                go_ret2
                exact ⟨rfl, 0, rfl⟩
  · have e1 : (hi : Int) = 0 := of_decide_eq_true hd
    have e2 : hi = 0 := by omega
    subst e2
    go_enter Try.func88, Try.ntmps88
    go_wp2_with fail
    go_quiet (fail)
    go_wp2_with fail
    go_ret2
    refine ⟨?_, _, rfl⟩
    simp
    have h1 : 0 ≤ (lo : Int) / y := Int.ediv_nonneg (by omega) (by omega)
    have h2 : (lo : Int) / y ≤ lo := Int.ediv_le_self _ (by omega)
    exact IntWalk.u64_in _ (by omega)

