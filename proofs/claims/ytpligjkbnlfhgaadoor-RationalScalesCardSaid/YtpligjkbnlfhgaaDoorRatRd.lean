/- Which texts are fractions in their form. Plain: no program. -/
import Derived.Test.YtpligjkbnlfhgaaDoorRat2
namespace Go.Proofs.YtpligjkbnlfhgaaDoor

/-- A number in decimal that a fraction may contain. -/
def digB (L : List UInt8) : Bool := !L.isEmpty && (decide (L.length ≤ 400) && (!(L.head? == some 48 && decide (1 < L.length)) && L.all fun b => decide (48 ≤ b.toNat) && decide (b.toNat ≤ 57)))
theorem digB_iff {L : List UInt8} : digB L = true ↔ DecS L ∧ L.length ≤ 400 := by
  unfold digB
  simp only [Bool.and_eq_true, Bool.not_eq_true', List.isEmpty_eq_false_iff, decide_eq_true_eq, List.all_eq_true, Bool.and_eq_false_iff, beq_eq_false_iff_ne, decide_eq_false_iff_not]
  constructor
  · rintro ⟨h1, h2, h3, h4⟩
    refine ⟨⟨h4, h1, fun h => ?_⟩, h2⟩
    rcases h3 with h3 | h3
    · exact absurd h h3
    · have := List.length_pos_iff.2 h1; omega
  · rintro ⟨⟨h1, h2, h3⟩, h4⟩
    refine ⟨h2, h4, ?_, h1⟩
    by_cases h : L.head? = some 48
    · exact .inr (by rw [h3 h]; omega)
    · exact .inl h

/-- The sign of a text. -/
def negL (L : List UInt8) : Bool := L.head? == some 45
def absL (L : List UInt8) : List UInt8 := if negL L = true then L.tail else L
theorem negL_sign {b : Bool} {L : List UInt8} (h : DecS L) : negL (signT b L) = b ∧ absL (signT b L) = L := by
  cases b
  · have : negL L = false := by
      unfold negL
      rw [beq_eq_false_iff_ne]
      intro hh
      have := h.dig 45 (List.mem_of_mem_head? hh)
      have e : (45 : UInt8).toNat = 45 := rfl
      omega
    simp only [signT, Bool.false_eq_true, if_false]
    exact ⟨this, by unfold absL; rw [this]; rfl⟩
  · simp only [signT, if_true]
    have : negL (45 :: L) = true := by simp [negL]
    exact ⟨this, by unfold absL; rw [this]; rfl⟩
theorem signT_back {L : List UInt8} : signT (negL L) (absL L) = L := by
  unfold absL
  cases h : negL L with
  | false => rfl
  | true =>
    simp only [if_true, signT]
    unfold negL at h
    cases L with
    | nil => simp at h
    | cons a t => simp at h; subst h; rfl

/-- The form of a fraction. -/
def formB (N D : List UInt8) : Bool := digB (absL N) && (digB D && (!(negL N && (absL N == [48])) && (!(D == [48]) && Nat.gcd (decV D) (decV (absL N)) == 1)))
theorem formB_iff {N D : List UInt8} : formB N D = true ↔ digB (absL N) = true ∧ digB D = true ∧ ¬ (negL N = true ∧ absL N = [48]) ∧ D ≠ [48] ∧ Nat.gcd (decV D) (decV (absL N)) = 1 := by
  unfold formB
  simp only [Bool.and_eq_true, Bool.not_eq_true', beq_eq_false_iff_ne, beq_iff_eq, Bool.and_eq_false_iff, ne_eq]
  constructor
  · rintro ⟨h1, h2, h3, h4, h5⟩
    exact ⟨h1, h2, fun ⟨a, b⟩ => by rcases h3 with h | h <;> simp_all, h4, h5⟩
  · rintro ⟨h1, h2, h3, h4, h5⟩
    refine ⟨h1, h2, ?_, h4, h5⟩
    cases h : negL N
    · exact .inl rfl
    · exact .inr fun h' => h3 ⟨h, h'⟩

theorem rd_form {N D : List UInt8} : (rdR (N, D)).isSome = formB N D ∧ (formB N D = true → rdR (N, D) = some (ratP (negL N) (decV (absL N)) (decV D)) ∧ (ratP (negL N) (decV (absL N)) (decV D)).num.natAbs = decV (absL N) ∧
    (ratP (negL N) (decV (absL N)) (decV D)).den = decV D ∧ decide ((ratP (negL N) (decV (absL N)) (decV D)).num < 0) = negL N) := by
  have key : formB N D = true → rdR (N, D) = some (ratP (negL N) (decV (absL N)) (decV D)) ∧ (ratP (negL N) (decV (absL N)) (decV D)).num.natAbs = decV (absL N) ∧
    (ratP (negL N) (decV (absL N)) (decV D)).den = decV D ∧ decide ((ratP (negL N) (decV (absL N)) (decV D)).num < 0) = negL N := fun h => by
    obtain ⟨h1, h2, h3, h4, h5⟩ := formB_iff.1 h
    obtain ⟨s1, s2⟩ := digB_iff.1 h1
    obtain ⟨t1, t2⟩ := digB_iff.1 h2
    have hd : decV D ≠ 0 := fun h => h4 (t1.zero.1 h)
    obtain ⟨e1, e2, e3⟩ := ratP_num (neg := negL N) (n := decV (absL N)) hd
    rw [Nat.gcd_comm] at h5
    rw [h5, Nat.div_one] at e1 e2
    have e4 : decide ((ratP (negL N) (decV (absL N)) (decV D)).num < 0) = negL N := by
      rw [e3]
      cases hn : negL N with
      | false => rfl
      | true =>
        have : decV (absL N) ≠ 0 := fun h => h3 ⟨hn, s1.zero.1 h⟩
        simp [this]
    refine ⟨rdR_some.2 ⟨⟨?_, ?_⟩, ?_⟩, e1, e2, e4⟩
    · rw [e1]; exact (s1.len_le (k := 400) (by decide)).1 s2
    · rw [e2]; exact (t1.len_le (k := 400) (by decide)).1 t2
    · unfold txt
      rw [e4, e1, e2, decT_eq s1, decT_eq t1, signT_back]
  refine ⟨?_, key⟩
  cases hf : formB N D with
  | true => rw [(key hf).1]; rfl
  | false =>
    cases hr : rdR (N, D) with
    | none => rfl
    | some x =>
      exfalso
      obtain ⟨⟨f1, f2⟩, ht⟩ := rdR_some.1 hr
      unfold txt at ht
      injection ht with ht1 ht2
      subst ht1
      subst ht2
      have p1 := decT_spec x.num.natAbs
      have p2 := decT_spec x.den
      obtain ⟨n1, n2⟩ := negL_sign (b := decide (x.num < 0)) p1.1
      have : formB (signT (decide (x.num < 0)) (decT x.num.natAbs)) (decT x.den) = true := by
        rw [formB_iff, n1, n2, p1.2.1, p2.2.1]
        refine ⟨digB_iff.2 ⟨p1.1, (decT_len _ (k := 400) (by decide)).2 f1⟩, digB_iff.2 ⟨p2.1, (decT_len _ (k := 400) (by decide)).2 f2⟩, fun ⟨a, b⟩ => ?_, fun h => ?_, ?_⟩
        · have h0 := p1.1.zero.2 b
          rw [p1.2.1] at h0
          have h1 : x.num = 0 := Int.natAbs_eq_zero.1 h0
          rw [decide_eq_true_eq, h1] at a
          exact absurd a (by decide)
        · have := p2.1.zero.2 h
          rw [p2.2.1] at this
          exact x.den_nz this
        · rw [Nat.gcd_comm]; exact x.reduced
      rw [this] at hf
      cases hf
end Go.Proofs.YtpligjkbnlfhgaaDoor
