/- A digit of long division, as the program finds it. Plain: no program. -/
import Derived.Test.YtpligjkbnlfhgaaDoorBig2
namespace Go.Proofs.YtpligjkbnlfhgaaDoor

theorem fin_digits {B : Nat} {R R' : Nat → Nat} {L n k : Nat} (hR : ∀ j, j < L → R j < B) (hF : ∀ j, j < k ∨ k + (n + 1) ≤ j → R' j = R j) (hlt : ∀ j, j < n + 1 → offN R' k j < B) : ∀ j, j < L → R' j < B := fun j hj => by
  by_cases h : j < k ∨ k + (n + 1) ≤ j
  · rw [hF j h]; exact hR j hj
  · have := hlt (j - k) (by omega)
    unfold offN at this
    rwa [show k + (j - k) = j by omega] at this

/-- The estimate was right. -/
theorem DvO.fin_ok {B : Nat} {R R' O v : Nat → Nat} {U L n m k q c : Nat} (hB : 1 < B) (h : DvO B R O v U L n m (k + 1)) (hv : ∀ j, j < n → v j < B) (hL : k + n + 1 ≤ L) (hm : k < m)
    (hF : ∀ j, j < k ∨ k + (n + 1) ≤ j → R' j = R j) (hE : EstD B (nv B (offN R k) (n + 1)) (nv B v n) q) (hR : RedI B (offN R k) v n q (offN R' k) (n + 1) c 0) : q < B ∧ DvO B R' (updN O k q) v U L n m k := by
  have h1 := hR.done (by omega) hv hE.qB
  rw [Nat.zero_mul, Nat.add_zero] at h1
  have h2 := hE.up
  rw [Nat.add_mul, Nat.one_mul] at h2
  exact h.step hB hv hL hm (fun j hj => hF j (.inl hj)) (fun j h1 _ => hF j (.inr (by omega))) (fin_digits h.Rd hF hR.lt) h1 (by omega)

/-- The estimate was too great by one. -/
theorem DvO.fin_bad {B : Nat} {R R' R'' O v : Nat → Nat} {U L n m k q c b c2 : Nat} (hB : 1 < B) (h : DvO B R O v U L n m (k + 1)) (hv : ∀ j, j < n → v j < B) (hL : k + n + 1 ≤ L) (hm : k < m)
    (hF : ∀ j, j < k ∨ k + (n + 1) ≤ j → R' j = R j) (hE : EstD B (nv B (offN R k) (n + 1)) (nv B v n) q) (hR : RedI B (offN R k) v n q (offN R' k) (n + 1) c b) (hb : b ≠ 0)
    (hF2 : ∀ j, j < k ∨ k + (n + 1) ≤ j → R'' j = R' j) (hA : AddI B (offN R' k) (ext v n) (offN R'' k) (n + 1) c2) : 1 ≤ q ∧ q - 1 < B ∧ DvO B R'' (updN O k (q - 1)) v U L n m k := by
  have h1 := hR.done (by omega) hv hE.qB
  have hb1 := hR.b1
  obtain rfl : b = 1 := by omega
  rw [Nat.one_mul] at h1
  have l1 := nv_lt hR.lt
  have l2 := nv_lt hA.lt
  have h3 := hA.eq
  rw [nv_ext (Nat.le_succ n)] at h3
  have hup := hE.up
  have hlo := hE.lo
  have hc2 := hA.c1
  have hq : 1 ≤ q := by
    rcases Nat.eq_zero_or_pos q with h0 | h0
    · subst h0; rw [Nat.zero_mul] at h1; omega
    · exact h0
  have hcc : c2 = 1 := by
    rcases Nat.eq_zero_or_pos c2 with h0 | h0
    · subst h0; rw [Nat.zero_mul] at h3; omega
    · omega
  subst hcc
  rw [Nat.one_mul] at h3
  obtain ⟨p, rfl⟩ : ∃ p, q = p + 1 := ⟨q - 1, by omega⟩
  rw [Nat.add_sub_cancel]
  have e1 : (p + 1) * nv B v n = p * nv B v n + nv B v n := by rw [Nat.add_mul, Nat.one_mul]
  rw [e1] at h1 hlo
  have hF3 : ∀ j, j < k ∨ k + (n + 1) ≤ j → R'' j = R j := fun j hj => (hF2 j hj).trans (hF j hj)
  obtain ⟨g1, g2⟩ := h.step (R' := R'') (q := p) hB hv hL hm (fun j hj => hF3 j (.inl hj)) (fun j h1 _ => hF3 j (.inr (by omega))) (fin_digits h.Rd hF3 hA.lt) (by omega) (by omega)
  exact ⟨hq, g1, g2⟩
end Go.Proofs.YtpligjkbnlfhgaaDoor
