/- Whether an interval contains a fraction, both texts. -/
import Derived.Test.YtpligjkbnlfhgaaDoorIvO
namespace Go.Proofs.YtpligjkbnlfhgaaDoor
open Go.RowKit

/-- A number of 32 binary places. -/
def qI (a : Int) : Rat := ratP (decide (a < 0)) a.natAbs 4294967296
theorem qI_bd {a : Int} (h : -9223372036854775808 ≤ a ∧ a ≤ 9223372036854775807) : bdR 9223372036854775808 4294967296 (qI a) := (bd_ratP (by decide)).mono (by omega) (by omega)
theorem qI_fits {a : Int} (h : -9223372036854775808 ≤ a ∧ a ≤ 9223372036854775807) : fitsR (qI a) := (qI_bd h).fits (big400 (k := 400) (by decide) (by decide)) (big400 (k := 400) (by decide) (by decide))
theorem ofT_q (a : Int) : ofT a 4294967296 = wrR (qI a) := by
  rw [ofT_ne (by decide)]
  unfold qI
  rw [show (decide ((4294967296 : Int) < 0)) = false by decide, show (4294967296 : Int).natAbs = 4294967296 by decide]
  cases decide (a < 0) <;> rfl
/-- Whether an interval contains a fraction. -/
noncomputable def conB (a b : Int) (t : Txt) : Bool := match rdR t with
  | some x => inI a b && (decide (sgnR (qI a - x) ≤ 0) && decide (sgnR (x - qI b) ≤ 0))
  | none => false
theorem of21q (a : Int) (w : World) (h : -9223372036854775808 ≤ a ∧ a ≤ 9223372036854775807) :
    Calls Tryd.prog 21 #[.int .i64 a, .int .i64 4294967296] w fun e w' => ∃ A B, e = .returned (.tuple #[.agg #[.string A, .string B], .bool true]) ∧ Tx A B (qI a) ∧ Below w.heap.size w w' := by
  refine (of21 a 4294967296 w h.1 h.2 (by decide) (by decide)).mono ?_
  rintro e w' ⟨rfl, hb⟩
  rw [ofT_q]
  obtain ⟨A, B, h1, h2⟩ := txV_tx (qI_fits h)
  exact ⟨A, B, by rw [h1], h2, hb⟩

set_option maxRecDepth 100000 in
set_option maxHeartbeats 4000000 in
theorem contains51 (a b : Int) (N D : ByteArray) (w : World) (ha : -9223372036854775808 ≤ a ∧ a ≤ 9223372036854775807) (hb : -9223372036854775808 ≤ b ∧ b ≤ 9223372036854775807) (hN : N.size ≤ maxLen) (hD : D.size ≤ maxLen) :
    Calls Tryd.prog 51 #[.agg #[.int .i64 a, .int .i64 b], .agg #[.string N, .string D]] w fun e w' => e = .returned (.bool (conB a b (N.data.toList, D.data.toList))) ∧ Below w.heap.size w w' := by
  obtain ⟨R, hR⟩ : ∃ R, conB a b (N.data.toList, D.data.toList) = R := ⟨_, rfl⟩
  rw [hR]
  have HR := Lib.hid hR
  have hv1 := fun w => valid15 a b w
  obtain ⟨i, hi⟩ : ∃ i, inI a b = i := ⟨_, rfl⟩
  rw [hi] at hv1
  have hv2 := fun w => valid23 N D w hN hD
  have hrf := (rd_form (N := N.data.toList) (D := D.data.toList)).1
  rw [← hrf] at hv2
  obtain ⟨o, ho⟩ : ∃ o, (rdR (N.data.toList, D.data.toList)).isSome = o := ⟨_, rfl⟩
  rw [ho] at hv2
  have HV1 := Lib.hid hv1
  have HV2 := Lib.hid hv2
  have HI := Lib.hid hi
  have HO := Lib.hid ho
  obtain ⟨hbW, g0, g1⟩ := allocs2' w #[.int .i64 a, .int .i64 b] #[.string N, .string D] 69 23
  have k0 := cells2i g0
  clear hR hv1 hv2 hrf hi ho
  go_enter Tryd.func51, Tryd.ntmps51
  go_wp2_with fail
  generalize (w.alloc (.cells #[.int .i64 a, .int .i64 b] 69)).alloc (.cells #[.string N, .string D] 23) = W at *
  refine (HV1.out W).mono ?_
  rintro e w1 ⟨rfl, hb1⟩
  have k1 := cells2 (blk_below hb1 g1)
  have hB1 := below_trans' hbW hbW.size hb1
  clear k0
  cases i with
  | false =>
    have hR0 : R = false := by
      rw [← HR.out]; unfold conB
      cases rdR (N.data.toList, D.data.toList) with
      | none => rfl
      | some x => show (inI a b && _) = false; rw [HI.out]; rfl
    subst hR0
    go_wp2_with fail
    go_ret
    exact ⟨rfl, hB1⟩
  | true =>
    go_wp2_with fail
    refine (HV2.out w1).mono ?_
    rintro e w2 ⟨rfl, hb2⟩
    have hb12 := below_trans' hb1 hb1.size hb2
    have hB2 := below_trans' hbW hbW.size hb12
    have k2 := cells2i (blk_below hb12 g0)
    clear k1
    cases o with
    | false =>
      have hR0 : R = false := by
        rw [← HR.out]; unfold conB
        have := HO.out
        cases e : rdR (N.data.toList, D.data.toList) with
        | none => rfl
        | some x => rw [e] at this; cases this
      subst hR0
      go_wp2_with fail
      go_ret
      exact ⟨rfl, hB2⟩
    | true =>
      obtain ⟨x, hx⟩ : ∃ x, rdR (N.data.toList, D.data.toList) = some x := by
        have := HO.out
        cases e : rdR (N.data.toList, D.data.toList) with
        | none => rw [e] at this; cases this
        | some x => exact ⟨x, rfl⟩
      have hT : Tx N D x := Tx.of_rd hx
      have hR1 : R = (decide (sgnR (qI a - x) ≤ 0) && decide (sgnR (x - qI b) ≤ 0)) := by
        rw [← HR.out]; unfold conB; rw [hx]
        show (inI a b && _) = _
        rw [HI.out]; rfl
      have HR1 := Lib.hid hR1
      clear hR1 hx
      go_wp2_with fail
      refine (of21q a w2 ha).mono ?_
      rintro e w3 ⟨A1, B1, rfl, T1, hb3⟩
      have hst := below_trans' hb3 hb3.size ((Below.refl w3.heap.size w3).alloc (Nat.le_refl _) (.cells #[.string A1, .string B1] 23))
      have G0 := blk_below (below_trans' hb12 hb12.size hst) g0
      have G1 := blk_below (below_trans' hb12 hb12.size hst) g1
      have G3 := heap_alloc_new w3 (.cells #[.string A1, .string B1] 23)
      have hB3 := below_trans' hB2 hB2.size hst
      have k3 := cells2i G0
      clear k2 hst hb3
      go_wp2_with fail
      refine (of21q b _ hb).mono ?_
      rintro e w4 ⟨A2, B2, rfl, T2, hb4⟩
      have hst := below_trans' hb4 hb4.size ((Below.refl w4.heap.size w4).alloc (Nat.le_refl _) (.cells #[.string A2, .string B2] 23))
      have G1' := blk_below hst G1
      have G3' := blk_below hst G3
      have G4 := heap_alloc_new w4 (.cells #[.string A2, .string B2] 23)
      have hB4 := below_trans' hB3 hB3.size hst
      have q1 := cells2 G1'
      have q3 := cells2 G3'
      clear k3 hst hb4 G0 G1 G3
      obtain ⟨s1, hs1⟩ : ∃ s1, sgnR (qI a - x) = s1 := ⟨_, rfl⟩
      obtain ⟨s2, hs2⟩ : ∃ s2, sgnR (x - qI b) = s2 := ⟨_, rfl⟩
      have c1 := fun w => cmpX w T1 hT
      have c2 := fun w => cmpX w hT T2
      rw [hs1] at c1 HR1
      rw [hs2] at c2 HR1
      have C1 := Lib.hid c1
      have C2 := Lib.hid c2
      clear c1 c2 hs1 hs2
      go_wp2_with fail
      refine (C1.out _).mono ?_
      rintro e w5 ⟨rfl, hb5⟩
      have hB5 := below_trans' hB4 hB4.size hb5
      have p1 := cells2 (blk_below hb5 G1')
      have p4 := cells2 (blk_below hb5 G4)
      clear q1 q3
      by_cases h1 : s1 ≤ 0
      · go_wp2_with fail
        refine (C2.out _).mono ?_
        rintro e w6 ⟨rfl, hb6⟩
        have hB6 := below_trans' hB5 hB5.size hb6
        have hR2 : R = decide (s2 ≤ 0) := by rw [HR1.out, decide_eq_true h1]; rfl
        have HR2 := Lib.hid hR2
        clear hR2
        go_wp2_with fail
        go_ret
        exact ⟨congrArg (fun c => Ending.returned (.bool c)) HR2.out.symm, hB6⟩
      · have hR2 : R = false := by rw [HR1.out, decide_eq_false h1]; rfl
        subst hR2
        go_wp2_with fail
        go_ret
        exact ⟨rfl, hB5⟩
end Go.Proofs.YtpligjkbnlfhgaaDoor
