/- Intervals of fractions: order, points, and what lies in what. No statement is proved here. -/
import Derived.Test.YtpligjkbnlfhgaaDoorIvP
namespace Go.Proofs.YtpligjkbnlfhgaaDoor
open Go.RowKit

theorem qI_div (a : Int) : qI a = (a : Rat) / 4294967296 := by
  unfold qI
  rw [← ratP_mkRat, Rat.mkRat_eq_div]; rfl
theorem sgn_le {x : Rat} : sgnR x ≤ 0 ↔ x ≤ 0 := by
  unfold sgnR
  rw [Rat.le_iff, show (0 : Rat).num = 0 from rfl, show (0 : Rat).den = 1 from rfl]
  simp only [Int.zero_mul, Int.natCast_one, Int.mul_one]
  split
  · omega
  · split <;> omega
theorem sgn_sub {x y : Rat} : decide (sgnR (x - y) ≤ 0) = decide (x ≤ y) := by
  rw [decide_eq_decide, sgn_le]
  grind
theorem con_tx {a b : Int} {N D : ByteArray} {x : Rat} (h : Tx N D x) : conB a b (N.data.toList, D.data.toList) = (inI a b && (decide (qI a ≤ x) && decide (x ≤ qI b))) := by
  unfold conB
  rw [h.rd]
  show (inI a b && (decide (sgnR (qI a - x) ≤ 0) && decide (sgnR (x - qI b) ≤ 0))) = _
  rw [sgn_sub, sgn_sub]
theorem con_yes {a b : Int} {N D : ByteArray} {x : Rat} (h : Tx N D x) (hi : inI a b = true) (h1 : qI a ≤ x) (h2 : x ≤ qI b) : conB a b (N.data.toList, D.data.toList) = true := by
  rw [con_tx h, hi, decide_eq_true h1, decide_eq_true h2]; rfl
theorem mk_in {a b c d : Int} (h : mkI a b = some (c, d)) : inI c d = true ∧ c = a ∧ d = b := by
  unfold mkI at h
  split at h
  · next h' => simp only [Option.some.injEq, Prod.mk.injEq] at h; obtain ⟨rfl, rfl⟩ := h; exact ⟨h', rfl, rfl⟩
  · cases h

/-! sums and differences -/
theorem qI_le {a b : Int} : qI a ≤ qI b ↔ a ≤ b := by
  rw [qI_div, qI_div]
  have : (a : Rat) ≤ (b : Rat) ↔ a ≤ b := Rat.intCast_le_intCast
  rw [← this]
  grind
theorem qI_add (a b : Int) : qI a + qI b = qI (a + b) := by
  simp only [qI_div, Rat.intCast_add]; grind
theorem qI_sub (a b : Int) : qI a - qI b = qI (a - b) := by
  simp only [qI_div, Rat.intCast_sub]; grind
theorem le_mul_q {r p q : Int} : qI r ≤ qI p * qI q ↔ r * 4294967296 ≤ p * q := by
  simp only [qI_div]
  have : ((r * 4294967296 : Int) : Rat) ≤ ((p * q : Int) : Rat) ↔ r * 4294967296 ≤ p * q := Rat.intCast_le_intCast
  rw [← this]
  simp only [Rat.intCast_mul]
  have e : ((4294967296 : Int) : Rat) = 4294967296 := rfl
  rw [e]
  grind
theorem mul_q_le {r p q : Int} : qI p * qI q ≤ qI r ↔ p * q ≤ r * 4294967296 := by
  simp only [qI_div]
  have : ((p * q : Int) : Rat) ≤ ((r * 4294967296 : Int) : Rat) ↔ p * q ≤ r * 4294967296 := Rat.intCast_le_intCast
  rw [← this]
  simp only [Rat.intCast_mul]
  have e : ((4294967296 : Int) : Rat) = 4294967296 := rfl
  rw [e]
  grind

/-! products: the numbers at the corners -/
theorem ends_fl {neg : Bool} {q r : Int} (h0 : 0 ≤ r) (h1 : r < 4294967296) :
    (endsI neg q (decide (0 < r))).1 * 4294967296 ≤ (if neg = true then -(q * 4294967296 + r) else q * 4294967296 + r) ∧ (if neg = true then -(q * 4294967296 + r) else q * 4294967296 + r) ≤ (endsI neg q (decide (0 < r))).2 * 4294967296 := by
  unfold endsI
  by_cases hr : 0 < r
  · rw [decide_eq_true hr]; cases neg <;> simp <;> omega
  · rw [decide_eq_false hr]; cases neg <;> simp <;> omega
theorem abs_mul (x y : Int) : (if (decide (x < 0) != decide (y < 0)) = true then -(absI x * absI y) else absI x * absI y) = x * y := by
  unfold absI
  by_cases h1 : x < 0 <;> by_cases h2 : y < 0 <;> simp [h1, h2, Int.neg_mul, Int.mul_neg]
theorem prod_fl {x y p q : Int} (h : prodI x y = some (p, q)) : p * 4294967296 ≤ x * y ∧ x * y ≤ q * 4294967296 := by
  unfold prodI at h
  split at h
  · cases h
  · have h' := Option.some.inj h
    have e := ends_fl (neg := decide (x < 0) != decide (y < 0)) (q := absI x * absI y / 4294967296) (r := absI x * absI y % 4294967296) (by omega) (by omega)
    rw [h'] at e
    rw [show absI x * absI y / 4294967296 * 4294967296 + absI x * absI y % 4294967296 = absI x * absI y by omega, abs_mul] at e
    exact e
/-- A product lies between the products of the ends. -/
theorem mul_lo {a b c d x y l : Int} (hx : a ≤ x ∧ x ≤ b) (hy : c ≤ y ∧ y ≤ d) (h1 : l ≤ a * c) (h2 : l ≤ a * d) (h3 : l ≤ b * c) (h4 : l ≤ b * d) : l ≤ x * y := by
  have A : l ≤ x * c := by
    by_cases hc : 0 ≤ c
    · exact Int.le_trans h1 (Int.mul_le_mul_of_nonneg_right hx.1 hc)
    · exact Int.le_trans h3 (Int.mul_le_mul_of_nonpos_right hx.2 (by omega))
  have B : l ≤ x * d := by
    by_cases hc : 0 ≤ d
    · exact Int.le_trans h2 (Int.mul_le_mul_of_nonneg_right hx.1 hc)
    · exact Int.le_trans h4 (Int.mul_le_mul_of_nonpos_right hx.2 (by omega))
  by_cases h : 0 ≤ x
  · exact Int.le_trans A (Int.mul_le_mul_of_nonneg_left hy.1 h)
  · exact Int.le_trans B (Int.mul_le_mul_of_nonpos_left (by omega) hy.2)
theorem mul_hi {a b c d x y h : Int} (hx : a ≤ x ∧ x ≤ b) (hy : c ≤ y ∧ y ≤ d) (h1 : a * c ≤ h) (h2 : a * d ≤ h) (h3 : b * c ≤ h) (h4 : b * d ≤ h) : x * y ≤ h := by
  have := mul_lo (l := -h) (a := -b) (b := -a) (c := c) (d := d) (x := -x) (y := y) ⟨by omega, by omega⟩ hy (by rw [Int.neg_mul]; omega) (by rw [Int.neg_mul]; omega) (by rw [Int.neg_mul]; omega) (by rw [Int.neg_mul]; omega)
  rw [Int.neg_mul] at this; omega

/-- What four results hull. -/
theorem hull_of {f : Int → Int → IR} {a b c d lo hi : Int} (h : hull4 2305843009213693952 (-2305843009213693952) ((corners f a b c d).map fitI) = some (lo, hi)) :
    ∃ p1 q1 p2 q2 p3 q3 p4 q4, f a c = some (p1, q1) ∧ f a d = some (p2, q2) ∧ f b c = some (p3, q3) ∧ f b d = some (p4, q4) ∧ lo ≤ p1 ∧ lo ≤ p2 ∧ lo ≤ p3 ∧ lo ≤ p4 ∧ q1 ≤ hi ∧ q2 ≤ hi ∧ q3 ≤ hi ∧ q4 ≤ hi := by
  have hb := (hull4_bd h).2.2
  have ne : ∀ r ∈ (corners f a b c d).map fitI, ∃ p q, r = some (p, q) := fun r hr => by
    cases e : r with
    | none => have := hull4_none (l := 2305843009213693952) (h := -2305843009213693952) ⟨r, hr, e⟩; rw [h] at this; cases this
    | some v => exact ⟨v.1, v.2, rfl⟩
  have fit : ∀ r, r ∈ corners f a b c d → ∃ p q, r = some (p, q) ∧ lo ≤ p ∧ q ≤ hi := fun r hr => by
    obtain ⟨p, q, e⟩ := ne (fitI r) (List.mem_map.2 ⟨r, hr, rfl⟩)
    have hm : some (p, q) ∈ (corners f a b c d).map fitI := List.mem_map.2 ⟨r, hr, e⟩
    have hl := hb p q hm
    cases r with
    | none => cases e
    | some v =>
      refine ⟨p, q, ?_, hl⟩
      unfold fitI at e
      simp only at e
      split at e <;> first | exact e | cases e
  obtain ⟨p1, q1, e1, l1, m1⟩ := fit (f a c) (by simp [corners])
  obtain ⟨p2, q2, e2, l2, m2⟩ := fit (f a d) (by simp [corners])
  obtain ⟨p3, q3, e3, l3, m3⟩ := fit (f b c) (by simp [corners])
  obtain ⟨p4, q4, e4, l4, m4⟩ := fit (f b d) (by simp [corners])
  exact ⟨p1, q1, p2, q2, p3, q3, p4, q4, e1, e2, e3, e4, l1, l2, l3, l4, m1, m2, m3, m4⟩
theorem mul_enc {a b c d lo hi x y : Int} (h : mulI a b c d = some (lo, hi)) (hx : a ≤ x ∧ x ≤ b) (hy : c ≤ y ∧ y ≤ d) : qI lo ≤ qI x * qI y ∧ qI x * qI y ≤ qI hi := by
  rw [le_mul_q, mul_q_le]
  unfold mulI at h
  split at h
  · obtain ⟨p1, q1, p2, q2, p3, q3, p4, q4, e1, e2, e3, e4, l1, l2, l3, l4, m1, m2, m3, m4⟩ := hull_of h
    have f1 := prod_fl e1
    have f2 := prod_fl e2
    have f3 := prod_fl e3
    have f4 := prod_fl e4
    exact ⟨mul_lo hx hy (by omega) (by omega) (by omega) (by omega), mul_hi hx hy (by omega) (by omega) (by omega) (by omega)⟩
  · cases h

/-! quotients -/
theorem ends_q {neg : Bool} {Q r Y : Int} (h0 : 0 ≤ r) (h1 : r < Y) :
    (endsI neg Q (decide (0 < r))).1 * Y ≤ (if neg = true then -(Q * Y + r) else Q * Y + r) ∧ (if neg = true then -(Q * Y + r) else Q * Y + r) ≤ (endsI neg Q (decide (0 < r))).2 * Y := by
  unfold endsI
  by_cases hr : 0 < r
  · rw [decide_eq_true hr]; cases neg <;> simp [Int.add_mul, Int.neg_mul] <;> omega
  · rw [decide_eq_false hr]; cases neg <;> simp [Int.neg_mul] <;> omega
theorem absI_pos {y : Int} (h : 0 < y) : absI y = y := by unfold absI; rw [if_neg (by omega)]
theorem absI_neg {y : Int} (h : y < 0) : absI y = -y := by unfold absI; rw [if_pos h]
theorem sgn_abs (x k : Int) : (if decide (x < 0) = true then -(absI x * k) else absI x * k) = x * k := by
  by_cases h : x < 0
  · rw [if_pos (by simpa using h), absI_neg h, Int.neg_mul]; omega
  · rw [if_neg (by simpa using h)]; unfold absI; rw [if_neg h]
theorem quot_fl {x y p q : Int} (h : quotI x y = some (p, q)) :
    (0 < y → p * y ≤ x * 4294967296 ∧ x * 4294967296 ≤ q * y) ∧ (y < 0 → q * y ≤ x * 4294967296 ∧ x * 4294967296 ≤ p * y) := by
  unfold quotI at h
  split at h
  · cases h
  · split at h
    · cases h
    · have h' := Option.some.inj h
      have hE : 0 < absI y → p * absI y ≤ (if (decide (x < 0) != decide (y < 0)) = true then -(absI x * 4294967296) else absI x * 4294967296) ∧ (if (decide (x < 0) != decide (y < 0)) = true then -(absI x * 4294967296) else absI x * 4294967296) ≤ q * absI y := fun hy => by
        have e := ends_q (neg := decide (x < 0) != decide (y < 0)) (Q := absI x * 4294967296 / absI y) (Int.emod_nonneg (absI x * 4294967296) (by omega)) (Int.emod_lt_of_pos (absI x * 4294967296) hy)
        rw [h', show absI x * 4294967296 / absI y * absI y + absI x * 4294967296 % absI y = absI x * 4294967296 from Int.ediv_mul_add_emod _ _] at e
        exact e
      refine ⟨fun hy => ?_, fun hy => ?_⟩
      · have e := hE (by rw [absI_pos hy]; exact hy)
        rw [absI_pos hy, show (decide (y < 0)) = false from decide_eq_false (by omega), Bool.bne_false, sgn_abs] at e
        exact e
      · have e := hE (by rw [absI_neg hy]; omega)
        rw [absI_neg hy, show (decide (y < 0)) = true from decide_eq_true hy, Bool.bne_true, Int.mul_neg, Int.mul_neg] at e
        have g : (if (!decide (x < 0)) = true then -(absI x * 4294967296) else absI x * 4294967296) = -(x * 4294967296) := by
          rw [← sgn_abs x]; cases decide (x < 0) <;> simp
        rw [g] at e
        omega
theorem q_pos {y : Int} (h : 0 < y) : 0 < qI y := by
  rw [qI_div]
  have : (0 : Rat) < (y : Rat) := by have := Rat.intCast_lt_intCast (a := 0) (b := y); exact this.2 h
  grind
theorem q_neg {y : Int} (h : y < 0) : qI y < 0 := by
  rw [qI_div]
  have : (y : Rat) < (0 : Rat) := by have := Rat.intCast_lt_intCast (a := y) (b := 0); exact this.2 h
  grind
theorem mulq_le_q {r p q : Int} : qI r * qI q ≤ qI p ↔ r * q ≤ p * 4294967296 := mul_q_le
theorem q_le_mulq {r p q : Int} : qI p ≤ qI r * qI q ↔ p * 4294967296 ≤ r * q := le_mul_q
theorem div_enc {a b c d lo hi x y : Int} (h : divI a b c d = some (lo, hi)) (hx : a ≤ x ∧ x ≤ b) (hy : c ≤ y ∧ y ≤ d) : qI y ≠ 0 ∧ qI lo ≤ qI x / qI y ∧ qI x / qI y ≤ qI hi := by
  unfold divI at h
  split at h
  · split at h
    · cases h
    · next hcd =>
      obtain ⟨p1, q1, p2, q2, p3, q3, p4, q4, e1, e2, e3, e4, l1, l2, l3, l4, m1, m2, m3, m4⟩ := hull_of h
      have f1 := quot_fl e1
      have f2 := quot_fl e2
      have f3 := quot_fl e3
      have f4 := quot_fl e4
      have pm : ∀ {u v y : Int}, u ≤ v → 0 < y → u * y ≤ v * y := fun h hy => Int.mul_le_mul_of_nonneg_right h (by omega)
      have nm : ∀ {u v y : Int}, u ≤ v → y < 0 → v * y ≤ u * y := fun h hy => Int.mul_le_mul_of_nonpos_right h (by omega)
      by_cases hc : 0 < c
      · have hd : 0 < d := by omega
        have hy0 : 0 < y := by omega
        have hq := q_pos hy0
        have A1 := pm l1 hc
        have A2 := pm l2 hd
        have B1 := pm m3 hc
        have B2 := pm m4 hd
        have L : lo * y ≤ x * 4294967296 := by
          have := mul_hi (a := lo) (b := lo) (x := lo) (h := a * 4294967296) ⟨by omega, by omega⟩ hy (by omega) (by omega) (by omega) (by omega)
          omega
        have H : x * 4294967296 ≤ hi * y := by
          have := mul_lo (a := hi) (b := hi) (x := hi) (l := b * 4294967296) ⟨by omega, by omega⟩ hy (by omega) (by omega) (by omega) (by omega)
          omega
        have L' := mulq_le_q.2 L
        have H' := q_le_mulq.2 H
        have e : qI x / qI y * qI y = qI x := Rat.div_mul_cancel (by grind)
        refine ⟨by grind, ?_, ?_⟩
        · exact Rat.le_of_mul_le_mul_right (by rw [e]; exact L') hq
        · exact Rat.le_of_mul_le_mul_right (by rw [e]; exact H') hq
      · have hd : d < 0 := by omega
        have hc' : c < 0 := by omega
        have hy0 : y < 0 := by omega
        have hq := q_neg hy0
        have A1 := nm l3 hc'
        have A2 := nm l4 hd
        have B1 := nm m1 hc'
        have B2 := nm m2 hd
        have L : x * 4294967296 ≤ lo * y := by
          have := mul_lo (a := lo) (b := lo) (x := lo) (l := b * 4294967296) ⟨by omega, by omega⟩ hy (by omega) (by omega) (by omega) (by omega)
          omega
        have H : hi * y ≤ x * 4294967296 := by
          have := mul_hi (a := hi) (b := hi) (x := hi) (h := a * 4294967296) ⟨by omega, by omega⟩ hy (by omega) (by omega) (by omega) (by omega)
          omega
        have L' := q_le_mulq.2 L
        have H' := mulq_le_q.2 H
        have e : qI x / qI y * qI y = qI x := Rat.div_mul_cancel (by grind)
        have hn : 0 < -qI y := by grind
        refine ⟨by grind, ?_, ?_⟩
        · refine Rat.le_of_mul_le_mul_right ?_ hn
          rw [Rat.mul_neg, Rat.mul_neg, e]; exact Rat.neg_le_neg L'
        · refine Rat.le_of_mul_le_mul_right ?_ hn
          rw [Rat.mul_neg, Rat.mul_neg, e]; exact Rat.neg_le_neg H'
  · cases h

/-! square roots -/
theorem sqrt_enc {a b lo hi x : Int} (h : sqrtI a b = some (lo, hi)) (hx : a ≤ x ∧ x ≤ b) : qI lo * qI lo ≤ qI x ∧ qI x ≤ qI hi * qI hi := by
  unfold sqrtI at h
  split at h
  · next hin =>
    obtain ⟨h1, h0⟩ := hin
    rw [inI_iff] at h1
    obtain ⟨ra, ra0, _⟩ := rootI_sq h0 (by omega)
    obtain ⟨rb, rb0, _⟩ := rootI_sq (n := b) (by omega) (by omega)
    have h' := Option.some.inj h
    simp only [Prod.mk.injEq] at h'
    obtain ⟨e1, e2⟩ := h'
    rw [mul_q_le, le_mul_q, ← e1, ← e2]
    refine ⟨by have := ra.2.1; omega, ?_⟩
    split
    · next e => rw [e]; omega
    · have := rb.2.2; omega
  · cases h
theorem sqrt_none {a b : Int} (h : sqrtI a b = none) (hi : inI a b = true) : a < 0 := by
  unfold sqrtI at h
  split at h
  · cases h
  · next e => simp only [hi, true_and] at e; omega
end Go.Proofs.YtpligjkbnlfhgaaDoor
