/- The arithmetic of a division of two digits by one (Knuth's algorithm D at two digits). Plain: no program. -/
namespace Go.Proofs.Ytgonighpjpfmnaa

/-- What holds at the head of a correction loop: q is not less than the true digit. -/
structure DJ (u d y y1 y0 q r : Int) : Prop where
  sum : q * y1 + r = u
  q0 : 0 ≤ q
  r0 : 0 ≤ r
  r1 : r < 4294967296
  top : (u * 4294967296 + d) / y ≤ q

section
variable {u d y y1 y0 q r : Int}

theorem dj_eq (hy : y = y1 * 4294967296 + y0) (hs : q * y1 + r = u) : u * 4294967296 + d - q * y = r * 4294967296 + d - q * y0 := by subst hs; subst hy; grind

theorem dj_small (hu : 0 ≤ u) (huy : u < y) (hd : 0 ≤ d) (hd1 : d < 4294967296) : 0 ≤ (u * 4294967296 + d) / y ∧ (u * 4294967296 + d) / y < 4294967296 := by
  refine ⟨Int.ediv_nonneg (by omega) (by omega), Int.ediv_lt_of_lt_mul (by omega) ?_⟩
  have : (u + 1) * 4294967296 ≤ y * 4294967296 := Int.mul_le_mul_of_nonneg_right (by omega) (by omega)
  omega

theorem DJ.start (hy : y = y1 * 4294967296 + y0) (hy1 : 1 ≤ y1) (h0 : 0 ≤ y0) (hy1b : y1 < 4294967296) (hu : 0 ≤ u) (hd1 : d < 4294967296) : DJ u d y y1 y0 (u / y1) (u % y1) := by
  have h1 := Int.mul_ediv_add_emod u y1
  have h2 := Int.emod_nonneg u (show y1 ≠ 0 by omega)
  have h3 := Int.emod_lt_of_pos u (show 0 < y1 by omega)
  have hq : 0 ≤ u / y1 := Int.ediv_nonneg hu (by omega)
  refine ⟨by rw [Int.mul_comm]; exact h1, hq, h2, by omega, ?_⟩
  refine Int.le_of_lt_add_one (Int.ediv_lt_of_lt_mul (by rw [hy]; omega) ?_)
  have hs : u / y1 * y1 + u % y1 = u := by rw [Int.mul_comm]; exact h1
  have e := dj_eq (d := d) hy hs
  rw [Int.add_mul, Int.one_mul]
  have hm : 0 ≤ u / y1 * y0 := Int.mul_nonneg hq h0
  have : (u % y1 + 1) * 4294967296 ≤ y1 * 4294967296 := Int.mul_le_mul_of_nonneg_right (by omega) (by omega)
  omega

theorem DJ.done (h : DJ u d y y1 y0 q r) (hy : y = y1 * 4294967296 + y0) (hyp : 0 < y) (ht : ¬ r * 4294967296 + d < q * y0) : q = (u * 4294967296 + d) / y := by
  have e := dj_eq (d := d) hy h.sum
  have : q ≤ (u * 4294967296 + d) / y := by rw [Int.le_ediv_iff_mul_le hyp]; omega
  have := h.top
  omega

theorem DJ.less (h : DJ u d y y1 y0 q r) (hy : y = y1 * 4294967296 + y0) (hu : 0 ≤ u) (huy : u < y) (hd : 0 ≤ d) (hd1 : d < 4294967296) (ht : 4294967296 ≤ q ∨ r * 4294967296 + d < q * y0) : (u * 4294967296 + d) / y ≤ q - 1 ∧ 1 ≤ q := by
  have hs := dj_small hu huy hd hd1
  have hlt : (u * 4294967296 + d) / y < q := by
    rcases ht with ht | ht
    · omega
    · have e := dj_eq (d := d) hy h.sum
      exact Int.ediv_lt_of_lt_mul (by omega) (by omega)
  omega

theorem DJ.next (h : DJ u d y y1 y0 q r) (hy : y = y1 * 4294967296 + y0) (hu : 0 ≤ u) (huy : u < y) (hd : 0 ≤ d) (hd1 : d < 4294967296) (hy1 : 1 ≤ y1) (ht : 4294967296 ≤ q ∨ r * 4294967296 + d < q * y0) (hr : r + y1 < 4294967296) : DJ u d y y1 y0 (q - 1) (r + y1) := by
  obtain ⟨h1, h2⟩ := h.less hy hu huy hd hd1 ht
  have := h.r0
  exact ⟨by have := h.sum; rw [Int.sub_mul, Int.one_mul]; omega, by omega, by omega, hr, h1⟩

theorem DJ.stop (h : DJ u d y y1 y0 q r) (hy : y = y1 * 4294967296 + y0) (h00 : 0 ≤ y0) (h01 : y0 < 4294967296) (hu : 0 ≤ u) (huy : u < y) (hd : 0 ≤ d) (hd1 : d < 4294967296) (hy1 : 1 ≤ y1) (ht : 4294967296 ≤ q ∨ r * 4294967296 + d < q * y0) (hr : 4294967296 ≤ r + y1) : q - 1 = (u * 4294967296 + d) / y := by
  obtain ⟨h1, h2⟩ := h.less hy hu huy hd hd1 ht
  have hs : (q - 1) * y1 + (r + y1) = u := by have := h.sum; rw [Int.sub_mul, Int.one_mul]; omega
  have e := dj_eq (d := d) hy hs
  have hq : q - 1 < 4294967296 := by
    refine Decidable.byContradiction fun hn => ?_
    have : 4294967296 * y1 ≤ (q - 1) * y1 := Int.mul_le_mul_of_nonneg_right (by omega) (by omega)
    omega
  have hm : (q - 1) * y0 ≤ 4294967296 * 4294967296 := Int.mul_le_mul (by omega) (by omega) h00 (by omega)
  have hr' : 4294967296 * 4294967296 ≤ (r + y1) * 4294967296 := Int.mul_le_mul_of_nonneg_right hr (by omega)
  have : q - 1 ≤ (u * 4294967296 + d) / y := by rw [Int.le_ediv_iff_mul_le (by omega)]; omega
  omega
end
end Go.Proofs.Ytgonighpjpfmnaa
