/- The steps of IntervalEncloses: an operation on two intervals and on two fractions in them. No statement is proved here. -/
import Derived.Test.YtpligjkbnlfhgaaDoorPnt
import Derived.Test.YtpligjkbnlfhgaaDoorMul
import Derived.Test.YtpligjkbnlfhgaaDoorEst0
namespace Go.Proofs.YtpligjkbnlfhgaaDoor
open Go.RowKit

theorem q_E2 {a : Int} (h : -9223372036854775808 ≤ a ∧ a ≤ 9223372036854775807) : E2 63 32 (qI a) := (qI_bd h).mono (by decide) (by decide)

/-- Two results: an interval, if there is one, and a fraction that lies in it. -/
structure Stp (F G : FuncId) (x y p q : Value) (X Y : Int) (o : Bool) (A B : ByteArray) (ok : Bool) : Prop where
  f : ∀ w, Calls Tryd.prog F #[x, y] w fun e w' => e = .returned (.tuple #[.agg #[.int .i64 X, .int .i64 Y], .bool o]) ∧ Below w.heap.size w w'
  g : ∀ w, Calls Tryd.prog G #[p, q] w fun e w' => e = .returned (.tuple #[.agg #[.string A, .string B], .bool ok]) ∧ Below w.heap.size w w'
  lens : A.size ≤ maxLen ∧ B.size ≤ maxLen
  con : o = true → ∀ w, Calls Tryd.prog 51 #[.agg #[.int .i64 X, .int .i64 Y], .agg #[.string A, .string B]] w fun e w' => e = .returned (.bool true) ∧ Below w.heap.size w w'

theorem txV_any {V : Option Txt} (hV : V = none ∨ ∃ y, fitsR y ∧ V = wrR y) : ∃ A B ok, txV V = .tuple #[.agg #[.string A, .string B], .bool ok] ∧ A.size ≤ maxLen ∧ B.size ≤ maxLen ∧ ∀ y, fitsR y → V = wrR y → Tx A B y := by
  rcases hV with rfl | hV
  · refine ⟨⟨#[]⟩, ⟨#[]⟩, false, rfl, by decide, by decide, fun y hy h => ?_⟩
    rw [wr_txt hy] at h; cases h
  · refine hV.elim fun y h0 => ?_
    have hy := h0.1
    rw [h0.2]
    obtain ⟨A, B, h1, h2⟩ := txV_tx hy
    refine ⟨A, B, true, h1, h2.lens.1, h2.lens.2, fun z hz h => ?_⟩
    have e := h
    rw [wr_txt hy, wr_txt hz] at e
    exact ⟨hz, by rw [← Option.some.inj e]; exact h2.2⟩

theorem stp_of {F G : FuncId} {x y p q : Value} {R : IR} {V : Option Txt} (hF : ∀ w, Calls Tryd.prog F #[x, y] w fun e w' => e = .returned (resV R) ∧ Below w.heap.size w w')
    (hG : ∀ w, Calls Tryd.prog G #[p, q] w fun e w' => e = .returned (txV V) ∧ Below w.heap.size w w') (hV : V = none ∨ ∃ y, fitsR y ∧ V = wrR y)
    (h : ∀ lo hi, R = some (lo, hi) → inI lo hi = true ∧ ∃ z, fitsR z ∧ V = wrR z ∧ qI lo ≤ z ∧ z ≤ qI hi) : ∃ X Y o A B ok, Stp F G x y p q X Y o A B ok := by
  obtain ⟨A, B, ok, hA, hs1, hs2, hT⟩ := txV_any hV
  have hG' : ∀ w, Calls Tryd.prog G #[p, q] w fun e w' => e = .returned (.tuple #[.agg #[.string A, .string B], .bool ok]) ∧ Below w.heap.size w w' := fun w => by rw [← hA]; exact hG w
  cases R with
  | none => exact ⟨0, 0, false, A, B, ok, hF, hG', ⟨hs1, hs2⟩, fun h => by cases h⟩
  | some r =>
    obtain ⟨lo, hi⟩ := r
    obtain ⟨hin, z, hz, hVz, h1, h2⟩ := h lo hi rfl
    have hb := inI_iff.1 hin
    refine ⟨lo, hi, true, A, B, ok, hF, hG', ⟨hs1, hs2⟩, fun _ w => ?_⟩
    have hc := contains51 lo hi A B w (by omega) (by omega) hs1 hs2
    rwa [con_yes (hT z hz hVz) hin h1 h2] at hc

section
variable {a b c d k l : Int} {N1 D1 N2 D2 : ByteArray}
theorem stp_add (hi1 : inI a b = true) (hi2 : inI c d = true) (hk : a ≤ k ∧ k ≤ b) (hl : c ≤ l ∧ l ≤ d) (T1 : Tx N1 D1 (qI k)) (T2 : Tx N2 D2 (qI l)) :
    ∃ X Y o A B ok, Stp 54 28 (.agg #[.int .i64 a, .int .i64 b]) (.agg #[.int .i64 c, .int .i64 d]) (.agg #[.string N1, .string D1]) (.agg #[.string N2, .string D2]) X Y o A B ok := by
  have b1 := inI_iff.1 hi1
  have b2 := inI_iff.1 hi2
  have hf : fitsR (qI k + qI l) := ((q_E2 (a := k) ⟨by omega, by omega⟩).add (q_E2 (a := l) ⟨by omega, by omega⟩) (e := 95) (by omega) (by omega)).fits (by omega) (by omega)
  have hV : addT (N1.data.toList, D1.data.toList) (N2.data.toList, D2.data.toList) = wrR (qI k + qI l) := by unfold addT; rw [op2_tx T1 T2, Option.bind_some]
  refine stp_of (fun w => add17 a b c d w) (fun w => add28 N1 D1 N2 D2 w T1.lens.1 T1.lens.2 T2.lens.1 T2.lens.2) (.inr ⟨_, hf, hV⟩) fun lo hi h => ?_
  unfold addI at h
  rw [if_pos ⟨hi1, hi2⟩] at h
  obtain ⟨hin, rfl, rfl⟩ := mk_in h
  exact ⟨hin, _, hf, hV, by rw [qI_add, qI_le]; omega, by rw [qI_add, qI_le]; omega⟩

theorem stp_sub (hi1 : inI a b = true) (hi2 : inI c d = true) (hk : a ≤ k ∧ k ≤ b) (hl : c ≤ l ∧ l ≤ d) (T1 : Tx N1 D1 (qI k)) (T2 : Tx N2 D2 (qI l)) :
    ∃ X Y o A B ok, Stp 55 32 (.agg #[.int .i64 a, .int .i64 b]) (.agg #[.int .i64 c, .int .i64 d]) (.agg #[.string N1, .string D1]) (.agg #[.string N2, .string D2]) X Y o A B ok := by
  have b1 := inI_iff.1 hi1
  have b2 := inI_iff.1 hi2
  have hf : fitsR (qI k - qI l) := ((q_E2 (a := k) ⟨by omega, by omega⟩).sub (q_E2 (a := l) ⟨by omega, by omega⟩) (e := 95) (by omega) (by omega)).fits (by omega) (by omega)
  have hV : subT (N1.data.toList, D1.data.toList) (N2.data.toList, D2.data.toList) = wrR (qI k - qI l) := by unfold subT; rw [op2_tx T1 T2, Option.bind_some]
  refine stp_of (fun w => sub18 a b c d w) (fun w => sub32 N1 D1 N2 D2 w T1.lens.1 T1.lens.2 T2.lens.1 T2.lens.2) (.inr ⟨_, hf, hV⟩) fun lo hi h => ?_
  unfold subI at h
  rw [if_pos ⟨hi1, hi2⟩] at h
  obtain ⟨hin, rfl, rfl⟩ := mk_in h
  exact ⟨hin, _, hf, hV, by rw [qI_sub, qI_le]; omega, by rw [qI_sub, qI_le]; omega⟩

theorem cornP_in {f : Int → Int → IR} {a b c d lo hi : Int} (h : cornP f a b c d = some (lo, hi)) : inI lo hi = true := by
  unfold cornP at h
  cases hh : hull4 2305843009213693953 (-2305843009213693953) (corners f a b c d) with
  | none => rw [hh] at h; cases h
  | some r => rw [hh] at h; exact (mk_in h).1

theorem stp_mul (hi1 : inI a b = true) (hi2 : inI c d = true) (hk : a ≤ k ∧ k ≤ b) (hl : c ≤ l ∧ l ≤ d) (T1 : Tx N1 D1 (qI k)) (T2 : Tx N2 D2 (qI l)) :
    ∃ X Y o A B ok, Stp 56 26 (.agg #[.int .i64 a, .int .i64 b]) (.agg #[.int .i64 c, .int .i64 d]) (.agg #[.string N1, .string D1]) (.agg #[.string N2, .string D2]) X Y o A B ok := by
  have b1 := inI_iff.1 hi1
  have b2 := inI_iff.1 hi2
  have hf : fitsR (qI k * qI l) := ((q_E2 (a := k) ⟨by omega, by omega⟩).mul (q_E2 (a := l) ⟨by omega, by omega⟩)).fits (by omega) (by omega)
  have hV : mulT (N1.data.toList, D1.data.toList) (N2.data.toList, D2.data.toList) = wrR (qI k * qI l) := by unfold mulT; rw [op2_tx T1 T2, Option.bind_some]
  refine stp_of (fun w => mul56 a b c d w) (fun w => mul26 N1 D1 N2 D2 w T1.lens.1 T1.lens.2 T2.lens.1 T2.lens.2) (.inr ⟨_, hf, hV⟩) fun lo hi h => ?_
  have he := mul_enc h hk hl
  have hin : inI lo hi = true := by
    unfold mulI at h
    rw [if_pos ⟨hi1, hi2⟩, ← cornP_fit fun x y p q => prodI_le] at h
    exact cornP_in h
  exact ⟨hin, _, hf, hV, he.1, he.2⟩

theorem stp_div (hi1 : inI a b = true) (hi2 : inI c d = true) (hk : a ≤ k ∧ k ≤ b) (hl : c ≤ l ∧ l ≤ d) (T1 : Tx N1 D1 (qI k)) (T2 : Tx N2 D2 (qI l)) :
    ∃ X Y o A B ok, Stp 57 33 (.agg #[.int .i64 a, .int .i64 b]) (.agg #[.int .i64 c, .int .i64 d]) (.agg #[.string N1, .string D1]) (.agg #[.string N2, .string D2]) X Y o A B ok := by
  have b1 := inI_iff.1 hi1
  have b2 := inI_iff.1 hi2
  have hV : divT (N1.data.toList, D1.data.toList) (N2.data.toList, D2.data.toList) = if qI l = 0 then none else wrR (qI k / qI l) := by
    unfold divT
    rw [op2_tx T1 T2]
    split <;> simp
  have hf : qI l ≠ 0 → fitsR (qI k / qI l) := fun h => ((q_E2 (a := k) ⟨by omega, by omega⟩).div (q_E2 (a := l) ⟨by omega, by omega⟩) h).fits (by omega) (by omega)
  refine stp_of (fun w => div57 a b c d w) (fun w => div33 N1 D1 N2 D2 w T1.lens.1 T1.lens.2 T2.lens.1 T2.lens.2) ?_ fun lo hi h => ?_
  · by_cases h0 : qI l = 0
    · left; rw [hV, if_pos h0]
    · right; exact ⟨_, hf h0, by rw [hV, if_neg h0]⟩
  have he := div_enc h hk hl
  have hin : inI lo hi = true := by
    unfold divI at h
    rw [if_pos ⟨hi1, hi2⟩] at h
    split at h
    · cases h
    · rw [← cornP_fit fun x y p q => quotI_le] at h
      exact cornP_in h
  exact ⟨hin, _, hf he.1, by rw [hV, if_neg he.1], he.2.1, he.2.2⟩
end
/-- The order of two fractions, the reference's. -/
theorem cmpXr {A B C D : ByteArray} {x y : Rat} (w : World) (h : Tx A B x) (g : Tx C D y) (hle : x ≤ y) :
    Calls Tryd.prog 34 #[.agg #[.string A, .string B], .agg #[.string C, .string D]] w fun e w' => ∃ n, n ≤ 0 ∧ e = .returned (.int .i64 n) ∧ Below w.heap.size w w' := by
  have := cmp34 A B C D w h.lens.1 h.lens.2 g.lens.1 g.lens.2
  have e : cmpT (A.data.toList, B.data.toList) (C.data.toList, D.data.toList) = sgnR (x - y) := by unfold cmpT; rw [h.rd, g.rd]
  rw [e] at this
  refine this.mono fun e w' ⟨he, hb⟩ => ⟨_, ?_, he, hb⟩
  rw [sgn_le]; grind
theorem mulXr {A B C D : ByteArray} {x y : Rat} (w : World) (h : Tx A B x) (g : Tx C D y) (hf : fitsR (x * y)) :
    Calls Tryd.prog 26 #[.agg #[.string A, .string B], .agg #[.string C, .string D]] w fun e w' => ∃ A' B', e = .returned (.tuple #[.agg #[.string A', .string B'], .bool true]) ∧ Tx A' B' (x * y) ∧ Below w.heap.size w w' :=
  bin_tx h g rfl hf (mul26 A B C D w h.lens.1 h.lens.2 g.lens.1 g.lens.2)
theorem sqrt_in {a b lo hi : Int} (h : sqrtI a b = some (lo, hi)) : 0 ≤ lo ∧ lo ≤ 281474976710656 ∧ 0 ≤ hi ∧ hi ≤ 281474976710656 := by
  unfold sqrtI at h
  split at h
  · next hin =>
    obtain ⟨h1, h0⟩ := hin
    rw [inI_iff] at h1
    obtain ⟨_, ra0, ra1⟩ := rootI_sq h0 (by omega)
    obtain ⟨_, rb0, rb1⟩ := rootI_sq (n := b) (by omega) (by omega)
    have h' := Option.some.inj h
    simp only [Prod.mk.injEq] at h'
    obtain ⟨e1, e2⟩ := h'
    split at e2 <;> omega
  · cases h
end Go.Proofs.YtpligjkbnlfhgaaDoor
