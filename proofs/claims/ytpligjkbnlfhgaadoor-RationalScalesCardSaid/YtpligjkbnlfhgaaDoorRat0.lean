/- Fractions and their texts. Plain: no program. -/
import Derived.Test.YtpligjkbnlfhgaaDoorDec0
namespace Go.Proofs.YtpligjkbnlfhgaaDoor

/-- The decimal text of a number. -/
def decT (n : Nat) : List UInt8 := if h : n < 10 then [UInt8.ofNat (48 + n)] else decT (n / 10) ++ [UInt8.ofNat (48 + n % 10)]
termination_by n
decreasing_by omega

theorem ofNat_dig {d : Nat} (h : d < 10) : (UInt8.ofNat (48 + d)).toNat = 48 + d := by
  simp [UInt8.toNat_ofNat']; omega

theorem decV_snoc (L : List UInt8) (b : UInt8) : decV (L ++ [b]) = decV L * 10 + (b.toNat - 48) := by
  unfold decV
  rw [show (L ++ [b]).length = L.length + 1 by simp, preV]
  rw [preV_congr (e := dgt L) fun i hi => by unfold dgt; rw [List.getD_eq_getElem?_getD, List.getD_eq_getElem?_getD, List.getElem?_append_left hi]]
  congr 1
  unfold dgt
  rw [List.getD_eq_getElem?_getD, List.getElem?_append_right (Nat.le_refl _)]
  simp

theorem decT_spec (n : Nat) : DecS (decT n) ∧ decV (decT n) = n ∧ (n ≠ 0 → (decT n).head? ≠ some 48) := by
  induction n using Nat.strongRecOn with
  | _ n ih =>
    unfold decT
    split
    · rename_i h
      have hd := ofNat_dig h
      refine ⟨⟨fun b hb => ?_, by simp, by simp⟩, ?_, fun hn hh => ?_⟩
      · rw [List.mem_singleton] at hb; subst hb; omega
      · simp only [decV, List.length_singleton, preV, dgt, List.getD_cons_zero]; omega
      · simp only [List.head?_cons, Option.some.injEq] at hh
        have := congrArg UInt8.toNat hh
        rw [hd] at this
        have e : (48 : UInt8).toNat = 48 := rfl
        omega
    · rename_i h
      obtain ⟨h1, h2, h3⟩ := ih (n / 10) (by omega)
      have hd := ofNat_dig (d := n % 10) (by omega)
      have hne : (decT (n / 10) ++ [UInt8.ofNat (48 + n % 10)]).head? = (decT (n / 10)).head? := by
        cases e : decT (n / 10) with
        | nil => exact absurd e h1.ne
        | cons a l => rfl
      refine ⟨⟨fun b hb => ?_, by simp, fun hh => ?_⟩, ?_, fun _ => ?_⟩
      · rcases List.mem_append.1 hb with hb | hb
        · exact h1.dig b hb
        · rw [List.mem_singleton] at hb; subst hb; omega
      · rw [hne] at hh
        exact absurd hh (h3 (by omega))
      · rw [decV_snoc, h2, hd]; omega
      · rw [hne]; exact h3 (by omega)

theorem decT_eq {L : List UInt8} (h : DecS L) : decT (decV L) = L := (decT_spec _).1.inj h (decT_spec _).2.1

theorem decT_len (n : Nat) {k : Nat} (hk : 1 ≤ k) : (decT n).length ≤ k ↔ n < 10 ^ k := by
  have h := (decT_spec n).1.len_le hk
  rwa [(decT_spec n).2.1] at h

/-- A fraction of two texts. -/
abbrev Txt := List UInt8 × List UInt8
def signT (neg : Bool) (L : List UInt8) : List UInt8 := if neg = true then 45 :: L else L
def txt (x : Rat) : Txt := (signT (decide (x.num < 0)) (decT x.num.natAbs), decT x.den)
def fitsR (x : Rat) : Prop := x.num.natAbs < 10 ^ 400 ∧ x.den < 10 ^ 400
instance (x : Rat) : Decidable (fitsR x) := by unfold fitsR; infer_instance
/-- The text of a fraction, if there is room. -/
def wrR (x : Rat) : Option Txt := if fitsR x then some (txt x) else none

theorem signT_inj {b c : Bool} {L M : List UInt8} (hL : DecS L) (hM : DecS M) (h : signT b L = signT c M) : b = c ∧ L = M := by
  have h45 : ∀ {L : List UInt8}, DecS L → L.head? ≠ some 45 := fun {L} hL hh => by
    have := hL.dig 45 (List.mem_of_mem_head? hh)
    have e : (45 : UInt8).toNat = 45 := rfl
    omega
  cases b <;> cases c <;> simp only [signT, if_true, Bool.false_eq_true, if_false] at h
  · exact ⟨rfl, h⟩
  · exact absurd (by rw [h]; rfl) (h45 hL)
  · exact absurd (by rw [← h]; rfl) (h45 hM)
  · injection h with _ h; exact ⟨rfl, h⟩

theorem txt_inj {x y : Rat} (h : txt x = txt y) : x = y := by
  unfold txt at h
  simp only [Prod.mk.injEq] at h
  obtain ⟨h1, h2⟩ := h
  obtain ⟨h3, h4⟩ := signT_inj (decT_spec _).1 (decT_spec _).1 h1
  have e1 := congrArg decV h4
  have e2 := congrArg decV h2
  rw [(decT_spec _).2.1, (decT_spec _).2.1] at e1 e2
  refine Rat.ext ?_ e2
  rw [decide_eq_decide] at h3
  omega

open Classical in
/-- The value of a valid fraction. -/
noncomputable def rdR (t : Txt) : Option Rat := if h : ∃ x, fitsR x ∧ txt x = t then some h.choose else none

theorem rdR_some {t : Txt} {x : Rat} : rdR t = some x ↔ fitsR x ∧ txt x = t := by
  unfold rdR
  split
  · rename_i h
    rw [Option.some.injEq]
    constructor
    · rintro rfl; exact h.choose_spec
    · rintro ⟨_, h2⟩
      exact txt_inj (h.choose_spec.2.trans h2.symm)
  · rename_i h
    constructor
    · intro h'; cases h'
    · intro h'; exact absurd ⟨x, h'⟩ h

theorem rdR_none {t : Txt} : rdR t = none ↔ ∀ x, fitsR x → txt x ≠ t := by
  constructor
  · intro h x hx ht
    rw [rdR_some.2 ⟨hx, ht⟩] at h
    cases h
  · intro h
    cases e : rdR t with
    | none => rfl
    | some x => exact absurd (rdR_some.1 e).2 (h x (rdR_some.1 e).1)

theorem wrR_some {x : Rat} {t : Txt} : wrR x = some t ↔ fitsR x ∧ txt x = t := by
  unfold wrR
  split
  · rename_i h; simp [h]
  · rename_i h; simp [h]

theorem rd_wr {x : Rat} {t : Txt} (h : wrR x = some t) : rdR t = some x := rdR_some.2 (wrR_some.1 h)
theorem wr_rd {x : Rat} {t : Txt} (h : rdR t = some x) : wrR x = some t := wrR_some.2 (rdR_some.1 h)

/-- The value of a sign and two numbers. -/
def ratP (neg : Bool) (n d : Nat) : Rat := mkRat (if neg = true then -(n : Int) else n) d

theorem ratP_num {neg : Bool} {n d : Nat} (hd : d ≠ 0) : (ratP neg n d).num.natAbs = n / Nat.gcd n d ∧ (ratP neg n d).den = d / Nat.gcd n d ∧ (decide ((ratP neg n d).num < 0) = (neg && decide (n ≠ 0))) := by
  have hg : 0 < Nat.gcd n d := Nat.gcd_pos_of_pos_right _ (by omega)
  have e1 : (if neg = true then -(n : Int) else n).natAbs = n := by cases neg <;> simp
  have h1 : (ratP neg n d).num = (if neg = true then -(n : Int) else n) / (Nat.gcd d n : Nat) := by
    unfold ratP
    rw [Rat.num_mkRat, if_neg hd, e1]
  have h2 : (ratP neg n d).den = d / Nat.gcd d n := by
    unfold ratP
    rw [Rat.den_mkRat, if_neg hd, e1]
  rw [Nat.gcd_comm d n] at h1 h2
  obtain ⟨k, hk⟩ := Nat.gcd_dvd_left n d
  have hn : n / Nat.gcd n d = k := by
    conv => lhs; lhs; rw [hk]
    exact Nat.mul_div_cancel_left _ hg
  have hk0 : n = 0 ↔ k = 0 := by
    constructor
    · intro h
      rw [← hn, h]; simp
    · intro h
      rw [hk, h]; simp
  have e : (n : Int) = (Nat.gcd n d : Nat) * (k : Int) := by rw [← Int.natCast_mul, ← hk]
  have h3 : (ratP neg n d).num = if neg = true then -(k : Int) else k := by
    rw [h1]
    cases neg
    · simp only [Bool.false_eq_true, if_false]
      rw [e, Int.mul_ediv_cancel_left _ (by omega)]
    · simp only [if_true]
      rw [e, ← Int.mul_neg, Int.mul_ediv_cancel_left _ (by omega)]
  refine ⟨?_, h2, ?_⟩
  · rw [h3, hn]; cases neg <;> simp
  · rw [h3]
    cases neg
    · simp
    · by_cases h0 : n = 0
      · have := hk0.1 h0
        simp [h0, this]
      · have : k ≠ 0 := fun h => h0 (hk0.2 h)
        simp [h0]; omega

end Go.Proofs.YtpligjkbnlfhgaaDoor
