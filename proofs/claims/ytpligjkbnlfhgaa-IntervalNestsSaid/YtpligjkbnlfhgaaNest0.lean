/- Smaller intervals have smaller results. Plain: no program. -/
import Derived.Test.YtpligjkbnlfhgaaInt0
namespace Go.Proofs.Ytpligjkbnlfhgaa

theorem hull4_in {lo hi : Int} : ∀ {rs : List IR} {L H : Int}, lo ≤ L → H ≤ hi → (∀ x ∈ rs, ∃ p q, x = some (p, q) ∧ lo ≤ p ∧ q ≤ hi) → ∃ lo' hi', hull4 L H rs = some (lo', hi') ∧ lo ≤ lo' ∧ hi' ≤ hi
  | [], L, H, h1, h2, _ => ⟨L, H, rfl, h1, h2⟩
  | x :: r, L, H, h1, h2, h => by
    obtain ⟨p, q, rfl, g1, g2⟩ := h x (by simp)
    rw [hull4]
    exact hull4_in (Int.le_min.2 ⟨h1, g1⟩) (Int.max_le.2 ⟨h2, g2⟩) fun y hy => h y (by simp [hy])

theorem nest4 {G : Int → Int → IR} {a b c d a' b' L H lo hi : Int} (hbt : ∀ v, v = c ∨ v = d → ∀ u p1 q1 p2 q2, a ≤ u → u ≤ b → G a v = some (p1, q1) → G b v = some (p2, q2) → ∃ p q, G u v = some (p, q) ∧ min p1 p2 ≤ p ∧ q ≤ max q1 q2)
    (h : hull4 L H (corners G a b c d) = some (lo, hi)) (h1 : a ≤ a') (h2 : a' ≤ b') (h3 : b' ≤ b) : ∃ lo' hi', hull4 L H (corners G a' b' c d) = some (lo', hi') ∧ lo ≤ lo' ∧ hi' ≤ hi := by
  unfold corners at *
  obtain ⟨p1, q1, e1⟩ : ∃ p q, G a c = some (p, q) := by
    cases e : G a c with
    | none => rw [e] at h; simp [hull4] at h
    | some r => exact ⟨r.1, r.2, rfl⟩
  obtain ⟨p2, q2, e2⟩ : ∃ p q, G a d = some (p, q) := by
    cases e : G a d with
    | none => rw [hull4_none ⟨none, by rw [e]; simp, rfl⟩] at h; cases h
    | some r => exact ⟨r.1, r.2, rfl⟩
  obtain ⟨p3, q3, e3⟩ : ∃ p q, G b c = some (p, q) := by
    cases e : G b c with
    | none => rw [hull4_none ⟨none, by rw [e]; simp, rfl⟩] at h; cases h
    | some r => exact ⟨r.1, r.2, rfl⟩
  obtain ⟨p4, q4, e4⟩ : ∃ p q, G b d = some (p, q) := by
    cases e : G b d with
    | none => rw [hull4_none ⟨none, by rw [e]; simp, rfl⟩] at h; cases h
    | some r => exact ⟨r.1, r.2, rfl⟩
  obtain ⟨r1, s1, f1, g1⟩ := hbt c (.inl rfl) a' p1 q1 p3 q3 h1 (by omega) e1 e3
  obtain ⟨r2, s2, f2, g2⟩ := hbt d (.inr rfl) a' p2 q2 p4 q4 h1 (by omega) e2 e4
  obtain ⟨r3, s3, f3, g3⟩ := hbt c (.inl rfl) b' p1 q1 p3 q3 (by omega) h3 e1 e3
  obtain ⟨r4, s4, f4, g4⟩ := hbt d (.inr rfl) b' p2 q2 p4 q4 (by omega) h3 e2 e4
  rw [e1, e2, e3, e4] at h
  rw [f1, f2, f3, f4]
  obtain ⟨m1, m2, m3⟩ := hull4_bd h
  have a1 := m3 p1 q1 (by simp)
  have a2 := m3 p2 q2 (by simp)
  have a3 := m3 p3 q3 (by simp)
  have a4 := m3 p4 q4 (by simp)
  clear h m3 hbt e1 e2 e3 e4 f1 f2 f3 f4 h1 h2 h3
  refine hull4_in m1 m2 fun x hx => ?_
  simp only [List.mem_cons, List.not_mem_nil, or_false] at hx
  have b1 : lo ≤ r1 ∧ s1 ≤ hi := ⟨Int.le_trans (Int.le_min.2 ⟨a1.1, a3.1⟩) g1.1, Int.le_trans g1.2 (Int.max_le.2 ⟨a1.2, a3.2⟩)⟩
  have b2 : lo ≤ r2 ∧ s2 ≤ hi := ⟨Int.le_trans (Int.le_min.2 ⟨a2.1, a4.1⟩) g2.1, Int.le_trans g2.2 (Int.max_le.2 ⟨a2.2, a4.2⟩)⟩
  have b3 : lo ≤ r3 ∧ s3 ≤ hi := ⟨Int.le_trans (Int.le_min.2 ⟨a1.1, a3.1⟩) g3.1, Int.le_trans g3.2 (Int.max_le.2 ⟨a1.2, a3.2⟩)⟩
  have b4 : lo ≤ r4 ∧ s4 ≤ hi := ⟨Int.le_trans (Int.le_min.2 ⟨a2.1, a4.1⟩) g4.1, Int.le_trans g4.2 (Int.max_le.2 ⟨a2.2, a4.2⟩)⟩
  rcases hx with rfl | rfl | rfl | rfl
  · exact ⟨_, _, rfl, b1⟩
  · exact ⟨_, _, rfl, b2⟩
  · exact ⟨_, _, rfl, b3⟩
  · exact ⟨_, _, rfl, b4⟩

theorem abs_prod (x y : Int) : x * y = if (decide (x < 0) != decide (y < 0)) = true then -(absI x * absI y) else absI x * absI y := by
  unfold absI
  by_cases hx : x < 0 <;> by_cases hy : y < 0 <;> simp only [hx, hy, decide_true, decide_false, bne_self_eq_false, Bool.false_eq_true, if_true, if_false, Bool.true_bne, Bool.false_bne, Bool.not_false] <;> grind

theorem fit_prod (x y : Int) : fitI (prodI x y) = if -2305843009213693952 ≤ x * y / 4294967296 ∧ -(-(x * y) / 4294967296) ≤ 2305843009213693952 then some (x * y / 4294967296, -(-(x * y) / 4294967296)) else none := by
  have hp := abs_prod x y
  have h0 : 0 ≤ absI x * absI y := Int.mul_nonneg (by unfold absI; split <;> omega) (by unfold absI; split <;> omega)
  unfold prodI
  generalize absI x * absI y = n at *
  rw [hp]
  by_cases hn : 19807040628566084398385987584 ≤ n
  · rw [if_pos hn]
    simp only [fitI]
    split
    · rw [if_neg (by omega)]
    · rw [if_neg (by omega)]
  · rw [if_neg hn]
    simp only [fitI, endsI]
    cases hs : (decide (x < 0) != decide (y < 0))
    · simp only [Bool.false_eq_true, if_false]
      by_cases hr : 0 < n % 4294967296
      · simp only [hr, decide_true, if_true]
        have e : -(-n / 4294967296) = n / 4294967296 + 1 := by omega
        rw [e]
      · simp only [hr, decide_false, Bool.false_eq_true, if_false]
        have e : -(-n / 4294967296) = n / 4294967296 := by omega
        rw [e]
    · simp only [if_true]
      by_cases hr : 0 < n % 4294967296
      · simp only [hr, decide_true, if_true]
        have e : -n / 4294967296 = -(n / 4294967296 + 1) := by omega
        rw [Int.neg_neg, e]
      · simp only [hr, decide_false, Bool.false_eq_true, if_false]
        have e : -n / 4294967296 = -(n / 4294967296) := by omega
        rw [Int.neg_neg, e]

theorem neg_div_of {n M : Int} (hM : 0 < M) : -n / M = if 0 < n % M then -(n / M + 1) else -(n / M) := by
  have h1 := Int.mul_ediv_add_emod n M
  have h2 := Int.emod_nonneg n (show M ≠ 0 by omega)
  have h3 := Int.emod_lt_of_pos n hM
  split
  · refine Int.le_antisymm ?_ ?_
    · refine Int.lt_add_one_iff.1 ((Int.ediv_lt_iff_lt_mul hM).2 ?_)
      have : (-(n / M + 1) + 1) * M = -(M * (n / M)) := by grind
      omega
    · refine (Int.le_ediv_iff_mul_le hM).2 ?_
      have : -(n / M + 1) * M = -(M * (n / M)) - M := by grind
      omega
  · refine Int.le_antisymm ?_ ?_
    · refine Int.lt_add_one_iff.1 ((Int.ediv_lt_iff_lt_mul hM).2 ?_)
      have : (-(n / M) + 1) * M = -(M * (n / M)) + M := by grind
      omega
    · refine (Int.le_ediv_iff_mul_le hM).2 ?_
      have : -(n / M) * M = -(M * (n / M)) := by grind
      omega

/-- What is divided, with the divisor's sign. -/
def numQ (x y : Int) : Int := if y < 0 then -(x * 4294967296) else x * 4294967296

theorem fit_quot {x y : Int} (hy : y ≠ 0) : fitI (quotI x y) = if -2305843009213693952 ≤ numQ x y / absI y ∧ -(-(numQ x y) / absI y) ≤ 2305843009213693952 then some (numQ x y / absI y, -(-(numQ x y) / absI y)) else none := by
  have hM : 0 < absI y := by unfold absI; split <;> omega
  have h0 : 0 ≤ absI x := by unfold absI; split <;> omega
  have hp : numQ x y = if (decide (x < 0) != decide (y < 0)) = true then -(absI x * 4294967296) else absI x * 4294967296 := by
    unfold numQ absI
    by_cases hx : x < 0 <;> by_cases hy : y < 0 <;> simp only [hx, hy, decide_true, decide_false, bne_self_eq_false, Bool.false_eq_true, if_true, if_false, Bool.true_bne, Bool.false_bne, Bool.not_false] <;> grind
  unfold quotI
  rw [hp]
  generalize absI y = M at *
  have hn0 : 0 ≤ absI x * 4294967296 := by omega
  generalize absI x * 4294967296 = n at *
  have hd := neg_div_of (n := n) hM
  have hq0 : 0 ≤ n / M := Int.ediv_nonneg hn0 (by omega)
  have hbig : M * 18446744073709551616 ≤ n → 18446744073709551616 ≤ n / M := fun h => (Int.le_ediv_iff_mul_le hM).2 (by omega)
  by_cases hn : M * 18446744073709551616 ≤ n
  · have := hbig hn
    rw [if_pos hn]
    simp only [fitI]
    cases hs : (decide (x < 0) != decide (y < 0))
    · simp only [Bool.false_eq_true, if_false]
      rw [if_neg (by rw [hd]; split <;> omega)]
    · simp only [if_true]
      rw [if_neg (by rw [hd]; split <;> omega)]
  · rw [if_neg hn]
    by_cases hn2 : 2305843009213693952 < n / M
    · rw [if_pos hn2]
      simp only [fitI]
      cases hs : (decide (x < 0) != decide (y < 0))
      · simp only [Bool.false_eq_true, if_false]
        rw [if_neg (by rw [hd]; split <;> omega)]
      · simp only [if_true]
        rw [if_neg (by rw [hd]; split <;> omega)]
    · rw [if_neg hn2]
      simp only [fitI, endsI]
      cases hs : (decide (x < 0) != decide (y < 0))
      · simp only [Bool.false_eq_true, if_false]
        rw [hd]
        by_cases hr : 0 < n % M
        · simp only [hr, decide_true, if_true, Int.neg_neg]
        · simp only [hr, decide_false, Bool.false_eq_true, if_false, Int.neg_neg]
      · simp only [if_true, Int.neg_neg]
        rw [hd]
        by_cases hr : 0 < n % M
        · simp only [hr, decide_true, if_true]
        · simp only [hr, decide_false, Bool.false_eq_true, if_false]

theorem between_div {M N N1 N2 : Int} (hM : 0 < M) (h : N1 ≤ N ∧ N ≤ N2 ∨ N2 ≤ N ∧ N ≤ N1) : min (N1 / M) (N2 / M) ≤ N / M ∧ -(-N / M) ≤ max (-(-N1 / M)) (-(-N2 / M)) := by
  rcases h with ⟨h1, h2⟩ | ⟨h1, h2⟩
  · have a := Int.ediv_le_ediv hM h1
    have b := Int.ediv_le_ediv hM (show -N2 ≤ -N by omega)
    omega
  · have a := Int.ediv_le_ediv hM h1
    have b := Int.ediv_le_ediv hM (show -N1 ≤ -N by omega)
    omega

theorem prod_bt {a b : Int} (v u p1 q1 p2 q2 : Int) (h1 : a ≤ u) (h2 : u ≤ b) (e1 : fitI (prodI a v) = some (p1, q1)) (e2 : fitI (prodI b v) = some (p2, q2)) : ∃ p q, fitI (prodI u v) = some (p, q) ∧ min p1 p2 ≤ p ∧ q ≤ max q1 q2 := by
  rw [fit_prod] at e1 e2 ⊢
  have hb : a * v ≤ u * v ∧ u * v ≤ b * v ∨ b * v ≤ u * v ∧ u * v ≤ a * v := by
    by_cases hv : 0 ≤ v
    · exact .inl ⟨Int.mul_le_mul_of_nonneg_right h1 hv, Int.mul_le_mul_of_nonneg_right h2 hv⟩
    · exact .inr ⟨Int.mul_le_mul_of_nonpos_right h2 (by omega), Int.mul_le_mul_of_nonpos_right h1 (by omega)⟩
  have hd := between_div (M := 4294967296) (by omega) hb
  split at e1
  · split at e2
    · simp only [Option.some.injEq, Prod.mk.injEq] at e1 e2
      rw [if_pos (by omega)]
      exact ⟨_, _, rfl, by omega, by omega⟩
    · cases e2
  · cases e1

theorem quot_bt {a b : Int} (v : Int) (hv : v ≠ 0) (u p1 q1 p2 q2 : Int) (h1 : a ≤ u) (h2 : u ≤ b) (e1 : fitI (quotI a v) = some (p1, q1)) (e2 : fitI (quotI b v) = some (p2, q2)) : ∃ p q, fitI (quotI u v) = some (p, q) ∧ min p1 p2 ≤ p ∧ q ≤ max q1 q2 := by
  rw [fit_quot hv] at e1 e2 ⊢
  have hM : 0 < absI v := by unfold absI; split <;> omega
  have hb : numQ a v ≤ numQ u v ∧ numQ u v ≤ numQ b v ∨ numQ b v ≤ numQ u v ∧ numQ u v ≤ numQ a v := by
    unfold numQ
    split <;> omega
  have hd := between_div hM hb
  split at e1
  · split at e2
    · simp only [Option.some.injEq, Prod.mk.injEq] at e1 e2
      rw [if_pos (by omega)]
      exact ⟨_, _, rfl, by omega, by omega⟩
    · cases e2
  · cases e1

theorem nest_mul {a b c d a' b' lo hi : Int} (h : mulI a b c d = some (lo, hi)) (h1 : a ≤ a') (h2 : a' ≤ b') (h3 : b' ≤ b) : ∃ lo' hi', mulI a' b' c d = some (lo', hi') ∧ lo ≤ lo' ∧ hi' ≤ hi := by
  unfold mulI at *
  split at h
  · rename_i hv
    rw [if_pos ⟨inI_iff.2 (by have := inI_iff.1 hv.1; omega), hv.2⟩]
    exact nest4 (G := fun x y => fitI (prodI x y)) (fun v _ u p1 q1 p2 q2 => prod_bt v u p1 q1 p2 q2) h h1 h2 h3
  · cases h

theorem nest_div {a b c d a' b' lo hi : Int} (h : divI a b c d = some (lo, hi)) (h1 : a ≤ a') (h2 : a' ≤ b') (h3 : b' ≤ b) : ∃ lo' hi', divI a' b' c d = some (lo', hi') ∧ lo ≤ lo' ∧ hi' ≤ hi := by
  unfold divI at *
  split at h
  · rename_i hv
    rw [if_pos ⟨inI_iff.2 (by have := inI_iff.1 hv.1; omega), hv.2⟩]
    split at h
    · cases h
    · rename_i hz
      rw [if_neg hz]
      have hcd := inI_iff.1 hv.2
      exact nest4 (G := fun x y => fitI (quotI x y)) (fun v hv' u p1 q1 p2 q2 => quot_bt v (by rcases hv' with rfl | rfl <;> omega) u p1 q1 p2 q2) h h1 h2 h3
  · cases h

theorem nest_add {a b c d a' b' lo hi : Int} (h : addI a b c d = some (lo, hi)) (h1 : a ≤ a') (h2 : a' ≤ b') (h3 : b' ≤ b) : ∃ lo' hi', addI a' b' c d = some (lo', hi') ∧ lo ≤ lo' ∧ hi' ≤ hi := by
  unfold addI mkI at *
  split at h
  · rename_i hv
    obtain ⟨v1, v2⟩ := hv
    have w1 := inI_iff.1 v1
    have w2 := inI_iff.1 v2
    rw [if_pos ⟨inI_iff.2 (by omega), v2⟩]
    split at h
    · rename_i hm
      have := inI_iff.1 hm
      simp only [Option.some.injEq, Prod.mk.injEq] at h
      rw [if_pos (inI_iff.2 (by omega))]
      exact ⟨_, _, rfl, by omega, by omega⟩
    · cases h
  · cases h

theorem nest_sub {a b c d a' b' lo hi : Int} (h : subI a b c d = some (lo, hi)) (h1 : a ≤ a') (h2 : a' ≤ b') (h3 : b' ≤ b) : ∃ lo' hi', subI a' b' c d = some (lo', hi') ∧ lo ≤ lo' ∧ hi' ≤ hi := by
  unfold subI mkI at *
  split at h
  · rename_i hv
    obtain ⟨v1, v2⟩ := hv
    have w1 := inI_iff.1 v1
    have w2 := inI_iff.1 v2
    rw [if_pos ⟨inI_iff.2 (by omega), v2⟩]
    split at h
    · rename_i hm
      have := inI_iff.1 hm
      simp only [Option.some.injEq, Prod.mk.injEq] at h
      rw [if_pos (inI_iff.2 (by omega))]
      exact ⟨_, _, rfl, by omega, by omega⟩
    · cases h
  · cases h
end Go.Proofs.Ytpligjkbnlfhgaa
